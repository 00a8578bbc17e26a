/- The chapter's examples of the store hold: the statements' own awake. -/
import Derived.Test.YthljnnjpmdgkoaaWake11
import Derived.Test.YthljnnjpmdgkoaaApply
import Derived.Test.YthljnnjpmdgkoaaRng2
namespace Go.Proofs.Ythljnnjpmdgkoaa
open Go Go.Proofs Go.RowKit
set_option maxRecDepth 100000

theorem put11_calls (w : World) (k v : ByteArray) : Calls Try.prog 51 #[.string k, .string v] w fun e w' => e = .returned (opV (putO k v)) ∧ Fr No w w' := by
  go_enter Try.func51, Try.ntmps51
  go_wp2
  exact bodyPost_ret (results_cell_row rfl _ _ w.heap.size 87 _ (0, 0) _ rfl (alloc_at _ _ _ rfl) Try.underlying87 rfl (by kernel_rfl)) rfl ⟨rfl, (Fr.refl No w).alloc _⟩

theorem slR_two {W : World} {b : Nat} {o1 o2 : Opr} {t : TypeId} (h : W.heap[b]? = some (.cells (opC o1 ++ opC o2).toArray t (0, 0))) : SlR W 10 opC (.slice (some ⟨b, 0, none⟩) 2 2) [o1, o2] := by
  refine ⟨_, 2, rfl, by simp, by decide, fun _ => ⟨b, 0, rfl, fun i x hx j u hu => ?_⟩⟩
  have hj : j < 10 := (List.getElem?_eq_some_iff.1 hu).1
  unfold World.cell?
  simp only [h, Option.isSome_none, Bool.false_eq_true, if_false, List.getElem?_toArray]
  match i, hx with
  | 0, hx =>
    obtain rfl : o1 = x := by simpa using hx
    simp only [Nat.zero_mul, Nat.zero_add]
    rw [List.getElem?_append_left (by exact hj)]
    exact hu
  | 1, hx =>
    obtain rfl : o2 = x := by simpa using hx
    simp only [Nat.one_mul, Nat.zero_add]
    rw [List.getElem?_append_right (by rw [opC_length]; omega), opC_length, Nat.add_sub_cancel_left]
    exact hu
  | i + 2, hx => simp at hx

theorem apply_A (W : World) (s p : Nat) (F0 : Nat → Prop) (hS : StoreAt TreeAt1 W s st0 F0) (hp : W.heap[p]? = some (.cells (opC (putO bA b1) ++ opC (putO bB b2)).toArray 87 (0, 0))) (np : ¬ F0 p) :
    Calls Try.prog 41 #[.pointer (some ⟨s, 0, none⟩), .slice (some ⟨p, 0, none⟩) 2 2] W fun e w' => ∃ av ev F1, e = .returned (.tuple #[av, ev, .int .i64 0]) ∧ StoreAt TreeAt1 w' s SA F1 ∧ Fr F0 W w' ∧ (∀ b, F1 b → F0 b ∨ W.heap.size ≤ b) := by
  refine (apply_runs treeOk1 (n := 2) (by omega) W s st0 F0 hS _ opsA (slR_two hp) (fun b hb => by simp [Value.ownBlock] at hb; rw [← hb]; exact np) (by decide) (by decide) (by decide) (by decide) chk_A wh_A step_A).mono ?_
  rintro e w' ⟨av, ev, rfl, F1, Z, h1, h2, h3, h4, h5, h6, h7, h8⟩
  exact ⟨av, ev, F1, rfl, h1, h5, h6⟩

theorem apply_B (W : World) (s p : Nat) (F0 : Nat → Prop) (hS : StoreAt TreeAt1 W s SA F0) (hp : W.heap[p]? = some (.cells (opC (putO bA b3)).toArray 87 (0, 0))) (np : ¬ F0 p) :
    Calls Try.prog 41 #[.pointer (some ⟨s, 0, none⟩), .slice (some ⟨p, 0, none⟩) 1 1] W fun e w' => ∃ g o cap g' o' cap' F1, e = .returned (.tuple #[.slice (some ⟨g, o, none⟩) 1 cap, .slice (some ⟨g', o', none⟩) 1 cap', .int .i64 0]) ∧ StoreAt TreeAt1 w' s SB F1 ∧
      w'.cell? ⟨g, o + 2, none⟩ = some (.int .i64 1) ∧ w'.cell? ⟨g', o' + 8, none⟩ = some (.string b1) ∧ Fr F0 W w' ∧ (∀ b, F1 b → F0 b ∨ W.heap.size ≤ b) := by
  refine (apply_runs treeOk1 (n := 3) (by omega) W s SA F0 hS _ [putO bA b3] (slR_ops hp) (fun b hb => by simp [Value.ownBlock] at hb; rw [← hb]; exact np) (by decide) (by decide) (by rw [SA_rev]; decide) (by rw [SA_rev]; decide) chk_B wh_B step_B).mono ?_
  rintro e w' ⟨av, ev, rfl, F1, Z, h1, h2, h3, h4, h5, h6, h7, h8⟩
  have hz : Z.map (fun q => q.1.count) = [1] := by
    have e1 := congrArg (List.map fun a : Ans => a.count) h3
    rw [run_B_A, List.map_map] at e1
    exact e1
  obtain ⟨z, rfl⟩ := List.length_eq_one_iff.1 (show Z.length = 1 by have := congrArg List.length hz; simpa using this)
  simp only [List.map_cons, List.map_nil, List.cons.injEq, and_true] at hz
  obtain ⟨a, cap, rfl, h9, h10, h11⟩ := h2.sl.shape
  obtain ⟨g, o, rfl⟩ := h11 (by simp)
  have hc := h2.sl.cell ansC_length 0 2 rfl rfl
  rw [hz] at hc
  have hE := run_B_E
  generalize (runR (SA.rev + 1) ⟨SA, [], []⟩ [putO bA b3]).E = E at h4 hE
  obtain ⟨x, rfl⟩ := List.length_eq_one_iff.1 (show E.length = 1 by have := congrArg List.length hE; simpa using this)
  simp only [List.map_cons, List.map_nil, List.cons.injEq, and_true] at hE
  obtain ⟨a', cap', rfl, _, _, h12⟩ := h4.shape
  obtain ⟨g', o', rfl⟩ := h12 (by simp)
  have hd := h4.cell evC_length 0 8 rfl rfl
  rw [hE] at hd
  exact ⟨g, o, cap, g', o', cap', F1, rfl, h1, by simpa using hc, by simpa using hd, h5, h6⟩

theorem range_1 (W : World) (s : Nat) (F : Nat → Prop) (hS : StoreAt TreeAt1 W s SB F) :
    Calls Try.prog 30 #[.pointer (some ⟨s, 0, none⟩), rgV gDesc] W fun e w' => ∃ g o cap, e = .returned (.tuple #[.slice (some ⟨g, o, none⟩) 1 cap, .int .i64 2, .bool true, .int .i64 0]) ∧ w'.cell? ⟨g, o + 1, none⟩ = some (.string b2) ∧ Fr No W w' := by
  refine (RangeDesc_calls treeOk1 (n := 3) (by omega) W s SB F hS SB_ok (by rw [SB_T]; decide) gDesc (by decide) rfl rfl rng_e1).mono ?_
  rintro e w' ⟨v, rfl, hv, hf, hvn⟩
  rw [rng_1n, rng_1m]
  have hL := rng_1
  generalize getL SB gDesc SB.rev = L at hv hL
  obtain ⟨x, rfl⟩ := List.length_eq_one_iff.1 (show L.length = 1 by have := congrArg List.length hL; simpa using this)
  simp only [List.map_cons, List.map_nil, List.cons.injEq, and_true] at hL
  obtain ⟨a, cap, rfl, _, _, h1⟩ := hv.shape
  obtain ⟨g, o, rfl⟩ := h1 (by simp)
  have hc := hv.cell kvC_length 0 1 rfl rfl
  rw [hL] at hc
  exact ⟨g, o, cap, rfl, by simpa using hc, hf⟩

theorem range_2 (W : World) (s : Nat) (F : Nat → Prop) (hS : StoreAt TreeAt1 W s SB F) :
    Calls Try.prog 30 #[.pointer (some ⟨s, 0, none⟩), rgV gOld] W fun e w' => ∃ g o cap m mo, e = .returned (.tuple #[.slice (some ⟨g, o, none⟩) 1 cap, .int .i64 m, .bool mo, .int .i64 0]) ∧ w'.cell? ⟨g, o + 1, none⟩ = some (.string b1) ∧ Fr No W w' := by
  refine (Range_calls treeOk1 (n := 3) (by omega) W s SB F hS SB_ok (by rw [SB_T]; decide) gOld (by decide) rfl rfl rng_e2).mono ?_
  rintro e w' ⟨v, rfl, hv, hf, hvn⟩
  have hL := rng_2
  generalize getL SB gOld SB.rev = L at hv hL
  obtain ⟨x, rfl⟩ := List.length_eq_one_iff.1 (show L.length = 1 by have := congrArg List.length hL; simpa using this)
  simp only [List.map_cons, List.map_nil, List.cons.injEq, and_true] at hL
  obtain ⟨a, cap, rfl, _, _, h1⟩ := hv.shape
  obtain ⟨g, o, rfl⟩ := h1 (by simp)
  have hc := hv.cell kvC_length 0 1 rfl rfl
  rw [hL] at hc
  exact ⟨g, o, cap, _, _, rfl, by simpa using hc, hf⟩

set_option maxHeartbeats 8000000 in
theorem awake11_calls (w : World) : Calls Try.prog 19 #[] w fun e w' => e = .returned (.bool true) ∧ Fr No w w' := by
  have hr1 := fun W s F hS => range_1 W s F hS
  have hr2 := fun W s F hS => range_2 W s F hS
  unfold rgV gDesc bA bC at hr1
  unfold rgV gOld bA at hr2
  unfold b2 at hr1
  unfold b1 at hr2
  dsimp only at hr1 hr2
  have HR1 := Lib.hid hr1
  have HR2 := Lib.hid hr2
  clear hr1 hr2
  go_enter Try.func19, Try.ntmps19
  go_upto_region 4 with (first
    | (go_at_call 31; refine (StoreNew_calls treeOk1 _).mono ?_; rintro e w1 ⟨s, rfl, F0, hs1, hf1, hn1⟩; have hacc := Fr.refl No w1)
    | (go_at_call 51; refine (put11_calls _ _ _).mono ?_; rintro e w2 ⟨rfl, hf2⟩; replace hacc := hacc.trans0 hf2; unfold opV putO rg0; dsimp only)
    | (go_at_call 41
       refine (apply_A _ s _ F0 (hs1.fr0 treeOk1 (hacc.alloc _)) (alloc_at _ _ _ rfl) (fun h => by have := hs1.lt treeOk1 _ h; have := hacc.size; omega)).mono ?_
       rintro e w3 ⟨av, ev, F1, rfl, hs3, hf3, hn3⟩
       have hw3 : Fr No w w3 := ((hf1.trans0 hacc).alloc _).trans hf3 fun b hb h => by have := hn1 b h; omega
       have hF1 : ∀ b, F1 b → w.heap.size ≤ b := fun b hb => by
         rcases hn3 b hb with h | h
         · exact hn1 b h
         · have h1 := (hf1.trans0 hacc).size
           simp at h
           omega
       clear hs1 hf1 hn1 hf2 hf3 hn3 hacc
       have hacc := Fr.refl No w3)
    | (go_at_call 41
       refine (apply_B _ s _ F1 (hs3.fr0 treeOk1 (hacc.alloc _)) (alloc_at _ _ _ rfl) (fun h => by have := hs3.lt treeOk1 _ h; have := hacc.size; omega)).mono ?_
       rintro e w4 ⟨g, o, cap, g', o', cap', F2, rfl, hs4, hc4, hd4, hf4, hn4⟩
       have hw4 : Fr No w w4 := ((hw3.trans0 hacc).alloc _).trans hf4 fun b hb h => by have := hF1 b h; omega
       have hF2 : ∀ b, F2 b → w.heap.size ≤ b := fun b hb => by
         rcases hn4 b hb with h | h
         · exact hF1 b h
         · have h1 := (hw3.trans0 hacc).size
           simp at h
           omega
       clear hs3 hf4 hn4 hacc hw3 hF1))
  go_upto_region 5 with (go_at_call 30; refine (HR1.out w4 s F2 hs4).mono ?_; rintro e w5 ⟨g1, o1, cap1, rfl, hc5, hf5⟩)
  go_upto_region 6 with (go_at_call 30; refine (HR2.out w5 s F2 (hs4.fr0 treeOk1 hf5)).mono ?_; rintro e w6 ⟨g2, o2, cap2, m2, mo2, rfl, hc6, hf6⟩)
  have hs6 := hs4.fr0 treeOk1 (hf5.trans0 hf6)
  have x1 := (hf5.trans0 hf6).cell0 hc4
  have x2 := (hf5.trans0 hf6).cell0 hd4
  have x3 := hf6.cell0 hc5
  have hw6 : Fr No w w6 := (hw4.trans0 hf5).trans0 hf6
  have l1 := World.block_lt_of_cell? _ _ x1
  have l2 := World.block_lt_of_cell? _ _ x2
  have l3 := World.block_lt_of_cell? _ _ x3
  have l4 := World.block_lt_of_cell? _ _ hc6
  have hcm := Compact_calls treeOk1 (n := 3) (by omega) w6 s SB F2 hs6 SB_ok (by rw [SB_T]; decide) 2 SB_comp
  have HS6 := Lib.hid hs6
  have HCM := Lib.hid hcm
  have HF2 := Lib.hid hF2
  have HW6 := Lib.hid hw6
  clear hs4 hc4 hd4 hc5 hf5 hf6 hw4 hs6 hcm hF2 hw6
  unfold b1 at x2
  go_wp2_with (first
    | (go_at_call 33; refine (StoreRev_calls w6 s SB F2 HS6.out).mono ?_; rintro e w9 ⟨rfl, rfl⟩; rw [SB_rev])
    | (go_at_call 44; refine HCM.out.mono ?_; rintro e w10 ⟨rfl, hf10⟩))
  go_ret
  exact ⟨rfl, HW6.out.trans hf10 fun b hb h => by have := HF2.out b h; omega⟩
end Go.Proofs.Ythljnnjpmdgkoaa
