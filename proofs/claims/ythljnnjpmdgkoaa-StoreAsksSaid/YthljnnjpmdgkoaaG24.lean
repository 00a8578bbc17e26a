/- The chapter's examples of the store hold: the statements' own awake, over any tree. The condition: the tree does what it should. -/
import Derived.Test.YthljnnjpmdgkoaaG23
namespace Go.Proofs.Ythljnnjpmdgkoaa
open Go Go.Proofs Go.RowKit
set_option maxRecDepth 100000

def bCs : ByteArray := ⟨#[99]⟩
def b3s : ByteArray := ⟨#[51]⟩
def opsAs : List Opr := [putO bA b1, putO bB b2]
def SAs : St := applyS newS opsAs
def SBs : St := applyS SAs [putO bA b3s]
def gDescs : Rg := ⟨bA, bCs, 0, 1, false, false, true⟩
def gOlds : Rg := ⟨bA, ByteArray.empty, 1, 0, false, false, false⟩
theorem ap_As : applyE newS opsAs = 0 := by kernel_rfl
theorem ap_Bs : applyE SAs [putO bA b3s] = 0 := by kernel_rfl
theorem SAs_good : ∃ D, Good 1 SAs D := ⟨_, Good.new.apply (by omega) (applyE_zero ap_As).1 (by decide)⟩
theorem SBs_good : ∃ D, Good 2 SBs D := by
  obtain ⟨D, h⟩ := SAs_good
  exact ⟨_, h.apply (by omega) (applyE_zero ap_Bs).1 (by decide)⟩
theorem SBs_rev : SBs.rev = 2 := by kernel_rfl
theorem runs_A : ((runR (SAs.rev + 1) ⟨SAs, [], []⟩ [putO bA b3s]).A).map (fun a => a.count) = [1] := by kernel_rfl
theorem runs_E : ((runR (SAs.rev + 1) ⟨SAs, [], []⟩ [putO bA b3s]).E).map (fun x => x.prev.value) = [b1] := by kernel_rfl
theorem rngs_e1 : rangeE SBs gDescs = 0 := by kernel_rfl
theorem rngs_e2 : rangeE SBs gOlds = 0 := by kernel_rfl
theorem rngs_1 : (getL SBs gDescs SBs.rev).map (·.value) = [b2] := by kernel_rfl
theorem rngs_1n : (allL SBs gDescs SBs.rev).length = 2 := by kernel_rfl
theorem rngs_1m : moreB SBs gDescs SBs.rev = true := by kernel_rfl
theorem rngs_2 : (getL SBs gOlds SBs.rev).map (·.value) = [b1] := by kernel_rfl
theorem comps_0 : compactE SBs 2 = 0 := by kernel_rfl

theorem put11s_calls (w : World) (k v : ByteArray) : Calls Try.prog 51 #[.string k, .string v] w fun e w' => e = .returned (opV (putO k v)) ∧ Fr No w w' := by
  go_enter Try.func51, Try.ntmps51
  go_wp2
  exact bodyPost_ret (results_cell_row rfl _ _ w.heap.size 87 _ (0, 0) _ rfl (alloc_at _ _ _ rfl) Try.underlying87 rfl (by kernel_rfl)) rfl ⟨rfl, (Fr.refl No w).alloc _⟩

theorem slR_twos {W : World} {b : Nat} {o1 o2 : Opr} {t : TypeId} (h : W.heap[b]? = some (.cells (opC o1 ++ opC o2).toArray t (0, 0))) : SlR W 10 opC (.slice (some ⟨b, 0, none⟩) 2 2) [o1, o2] := by
  refine ⟨_, 2, rfl, by simp, by decide, fun _ => ⟨b, 0, rfl, fun i x hx j u hu => ?_⟩⟩
  have hj : j < 10 := (List.getElem?_eq_some_iff.1 hu).1
  unfold World.cell?
  simp only [h, Option.isSome_none, Bool.false_eq_true, if_false, List.getElem?_toArray]
  match i, hx with
  | 0, hx =>
    obtain rfl : o1 = x := by simpa using hx
    simp only [Nat.zero_mul, Nat.zero_add]
    rw [List.getElem?_append_left (by exact hj)]
    exact hu
  | 1, hx =>
    obtain rfl : o2 = x := by simpa using hx
    simp only [Nat.one_mul, Nat.zero_add]
    rw [List.getElem?_append_right (by rw [opC_length]; omega), opC_length, Nat.add_sub_cancel_left]
    exact hu
  | i + 2, hx => simp at hx

theorem slR_ones {W : World} {b : Nat} {o1 : Opr} {t : TypeId} (h : W.heap[b]? = some (.cells (opC o1).toArray t (0, 0))) : SlR W 10 opC (.slice (some ⟨b, 0, none⟩) 1 1) [o1] := by
  refine ⟨_, 1, rfl, by simp, by decide, fun _ => ⟨b, 0, rfl, fun i x hx j u hu => ?_⟩⟩
  have hi : i = 0 := by have := (List.getElem?_eq_some_iff.1 hx).1; simp at this; omega
  subst hi
  obtain rfl : o1 = x := by simpa using hx
  unfold World.cell?
  simp only [h, Nat.zero_mul, Nat.zero_add, Option.isSome_none, Bool.false_eq_true, if_false]
  simpa using hu

theorem applys_A {TA : TreeRel} (hT : TreeOk TA 1000000) (W : World) (s p : Nat) (F0 : Nat → Prop) (hS : StoreAt TA W s st0 F0) (hp : W.heap[p]? = some (.cells (opC (putO bA b1) ++ opC (putO bB b2)).toArray 87 (0, 0))) (np : ¬ F0 p) :
    Calls Try.prog 41 #[.pointer (some ⟨s, 0, none⟩), .slice (some ⟨p, 0, none⟩) 2 2] W fun e w' => ∃ av ev F1, e = .returned (.tuple #[av, ev, .int .i64 0]) ∧ StoreAt TA w' s SAs F1 ∧ Fr F0 W w' ∧ (∀ b, F1 b → F0 b ∨ W.heap.size ≤ b) := by
  have h := Apply_calls2 hT Good.new (by omega) W s F0 hS _ opsAs (slR_twos hp) (fun _ b hb => by simp [Value.ownBlock] at hb; rw [← hb]; exact np) (by decide) (by decide)
  rw [ap_As] at h
  simp only [if_true] at h
  refine h.mono ?_
  rintro e w' ⟨av, ev, rfl, F1, Z, h1, h2, h3, h4, h5, h6⟩
  exact ⟨av, ev, F1, rfl, h1, h5, h6⟩

theorem applys_B {TA : TreeRel} (hT : TreeOk TA 1000000) (W : World) (s p : Nat) (F0 : Nat → Prop) (hS : StoreAt TA W s SAs F0) (hp : W.heap[p]? = some (.cells (opC (putO bA b3s)).toArray 87 (0, 0))) (np : ¬ F0 p) :
    Calls Try.prog 41 #[.pointer (some ⟨s, 0, none⟩), .slice (some ⟨p, 0, none⟩) 1 1] W fun e w' => ∃ g o cap g' o' cap' F1, e = .returned (.tuple #[.slice (some ⟨g, o, none⟩) 1 cap, .slice (some ⟨g', o', none⟩) 1 cap', .int .i64 0]) ∧ StoreAt TA w' s SBs F1 ∧
      w'.cell? ⟨g, o + 2, none⟩ = some (.int .i64 1) ∧ w'.cell? ⟨g', o' + 8, none⟩ = some (.string b1) ∧ Fr F0 W w' ∧ (∀ b, F1 b → F0 b ∨ W.heap.size ≤ b) := by
  obtain ⟨D, hG⟩ := SAs_good
  have h := Apply_calls2 hT hG (by omega) W s F0 hS _ [putO bA b3s] (slR_ones hp) (fun _ b hb => by simp [Value.ownBlock] at hb; rw [← hb]; exact np) (by decide) (by decide)
  rw [ap_Bs] at h
  simp only [if_true] at h
  refine h.mono ?_
  rintro e w' ⟨av, ev, rfl, F1, Z, h1, h2, h3, h4, h5, h6⟩
  have hz : Z.map (fun q => q.1.count) = [1] := by
    have e1 := congrArg (List.map fun a : Ans => a.count) h3
    rw [runs_A, List.map_map] at e1
    exact e1
  obtain ⟨z, rfl⟩ := List.length_eq_one_iff.1 (show Z.length = 1 by have := congrArg List.length hz; simpa using this)
  simp only [List.map_cons, List.map_nil, List.cons.injEq, and_true] at hz
  obtain ⟨a, cap, rfl, h9, h10, h11⟩ := h2.sl.shape
  obtain ⟨g, o, rfl⟩ := h11 (by simp)
  have hc := h2.sl.cell ansC_length 0 2 rfl rfl
  rw [hz] at hc
  have hE := runs_E
  generalize (runR (SAs.rev + 1) ⟨SAs, [], []⟩ [putO bA b3s]).E = E at h4 hE
  obtain ⟨x, rfl⟩ := List.length_eq_one_iff.1 (show E.length = 1 by have := congrArg List.length hE; simpa using this)
  simp only [List.map_cons, List.map_nil, List.cons.injEq, and_true] at hE
  obtain ⟨a', cap', rfl, _, _, h12⟩ := h4.shape
  obtain ⟨g', o', rfl⟩ := h12 (by simp)
  have hd := h4.cell evC_length 0 8 rfl rfl
  rw [hE] at hd
  exact ⟨g, o, cap, g', o', cap', F1, rfl, h1, by simpa using hc, by simpa using hd, h5, h6⟩

theorem ranges_1 {TA : TreeRel} (hT : TreeOk TA 1000000) (W : World) (s : Nat) (F : Nat → Prop) (hS : StoreAt TA W s SBs F) :
    Calls Try.prog 30 #[.pointer (some ⟨s, 0, none⟩), rgV gDescs] W fun e w' => ∃ g o cap, e = .returned (.tuple #[.slice (some ⟨g, o, none⟩) 1 cap, .int .i64 2, .bool true, .int .i64 0]) ∧ w'.cell? ⟨g, o + 1, none⟩ = some (.string b2) ∧ Fr No W w' := by
  obtain ⟨D, hG⟩ := SBs_good
  have h := Range_calls2 hT hG (by omega) W s F hS gDescs (by decide)
  rw [rngs_e1] at h
  simp only [if_true, decide_true, Bool.true_and] at h
  refine h.mono ?_
  rintro e w' ⟨v, rfl, hv, hf, hvn⟩
  rw [rngs_1n, rngs_1m]
  have hL := rngs_1
  generalize getL SBs gDescs SBs.rev = L at hv hL
  obtain ⟨x, rfl⟩ := List.length_eq_one_iff.1 (show L.length = 1 by have := congrArg List.length hL; simpa using this)
  simp only [List.map_cons, List.map_nil, List.cons.injEq, and_true] at hL
  obtain ⟨a, cap, rfl, _, _, h1⟩ := hv.shape
  obtain ⟨g, o, rfl⟩ := h1 (by simp)
  have hc := hv.cell kvC_length 0 1 rfl rfl
  rw [hL] at hc
  exact ⟨g, o, cap, rfl, by simpa using hc, hf⟩

theorem ranges_2 {TA : TreeRel} (hT : TreeOk TA 1000000) (W : World) (s : Nat) (F : Nat → Prop) (hS : StoreAt TA W s SBs F) :
    Calls Try.prog 30 #[.pointer (some ⟨s, 0, none⟩), rgV gOlds] W fun e w' => ∃ g o cap m mo, e = .returned (.tuple #[.slice (some ⟨g, o, none⟩) 1 cap, .int .i64 m, .bool mo, .int .i64 0]) ∧ w'.cell? ⟨g, o + 1, none⟩ = some (.string b1) ∧ Fr No W w' := by
  obtain ⟨D, hG⟩ := SBs_good
  have h := Range_calls2 hT hG (by omega) W s F hS gOlds (by decide)
  rw [rngs_e2] at h
  simp only [if_true, decide_true, Bool.true_and] at h
  refine h.mono ?_
  rintro e w' ⟨v, rfl, hv, hf, hvn⟩
  have hL := rngs_2
  generalize getL SBs gOlds SBs.rev = L at hv hL
  obtain ⟨x, rfl⟩ := List.length_eq_one_iff.1 (show L.length = 1 by have := congrArg List.length hL; simpa using this)
  simp only [List.map_cons, List.map_nil, List.cons.injEq, and_true] at hL
  obtain ⟨a, cap, rfl, _, _, h1⟩ := hv.shape
  obtain ⟨g, o, rfl⟩ := h1 (by simp)
  have hc := hv.cell kvC_length 0 1 rfl rfl
  rw [hL] at hc
  exact ⟨g, o, cap, _, _, rfl, by simpa using hc, hf⟩

set_option maxHeartbeats 8000000 in
theorem awakeS_calls {TA : TreeRel} (hT : TreeOk TA 1000000) (hTD : TreeDl TA) (w : World) : Calls Try.prog 19 #[] w fun e w' => e = .returned (.bool true) ∧ Fr No w w' := by
  have hr1 := fun W s F hS => ranges_1 hT W s F hS
  have hr2 := fun W s F hS => ranges_2 hT W s F hS
  unfold rgV gDescs bA bCs at hr1
  unfold rgV gOlds bA at hr2
  unfold b2 at hr1
  unfold b1 at hr2
  dsimp only at hr1 hr2
  have HR1 := Lib.hid hr1
  have HR2 := Lib.hid hr2
  clear hr1 hr2
  go_enter Try.func19, Try.ntmps19
  go_upto_region 4 with (first
    | (go_at_call 31; refine (StoreNew_calls hT _).mono ?_; rintro e w1 ⟨s, rfl, F0, hs1, hf1, hn1⟩; have hacc := Fr.refl No w1)
    | (go_at_call 51; refine (put11s_calls _ _ _).mono ?_; rintro e w2 ⟨rfl, hf2⟩; replace hacc := hacc.trans0 hf2; unfold opV putO rg0; dsimp only)
    | (go_at_call 41
       refine (applys_A hT _ s _ F0 (hs1.fr0 hT (hacc.alloc _)) (alloc_at _ _ _ rfl) (fun h => by have := hs1.lt hT _ h; have := hacc.size; omega)).mono ?_
       rintro e w3 ⟨av, ev, F1, rfl, hs3, hf3, hn3⟩
       have hw3 : Fr No w w3 := ((hf1.trans0 hacc).alloc _).trans hf3 fun b hb h => by have := hn1 b h; omega
       have hF1 : ∀ b, F1 b → w.heap.size ≤ b := fun b hb => by
         rcases hn3 b hb with h | h
         · exact hn1 b h
         · have h1 := (hf1.trans0 hacc).size
           simp at h
           omega
       clear hs1 hf1 hn1 hf2 hf3 hn3 hacc
       have hacc := Fr.refl No w3)
    | (go_at_call 41
       refine (applys_B hT _ s _ F1 (hs3.fr0 hT (hacc.alloc _)) (alloc_at _ _ _ rfl) (fun h => by have := hs3.lt hT _ h; have := hacc.size; omega)).mono ?_
       rintro e w4 ⟨g, o, cap, g', o', cap', F2, rfl, hs4, hc4, hd4, hf4, hn4⟩
       have hw4 : Fr No w w4 := ((hw3.trans0 hacc).alloc _).trans hf4 fun b hb h => by have := hF1 b h; omega
       have hF2 : ∀ b, F2 b → w.heap.size ≤ b := fun b hb => by
         rcases hn4 b hb with h | h
         · exact hF1 b h
         · have h1 := (hw3.trans0 hacc).size
           simp at h
           omega
       clear hs3 hf4 hn4 hacc hw3 hF1))
  go_upto_region 5 with (go_at_call 30; refine (HR1.out w4 s F2 hs4).mono ?_; rintro e w5 ⟨g1, o1, cap1, rfl, hc5, hf5⟩)
  go_upto_region 6 with (go_at_call 30; refine (HR2.out w5 s F2 (hs4.fr0 hT hf5)).mono ?_; rintro e w6 ⟨g2, o2, cap2, m2, mo2, rfl, hc6, hf6⟩)
  have hs6 := hs4.fr0 hT (hf5.trans0 hf6)
  have x1 := (hf5.trans0 hf6).cell0 hc4
  have x2 := (hf5.trans0 hf6).cell0 hd4
  have x3 := hf6.cell0 hc5
  have hw6 : Fr No w w6 := (hw4.trans0 hf5).trans0 hf6
  have l1 := World.block_lt_of_cell? _ _ x1
  have l2 := World.block_lt_of_cell? _ _ x2
  have l3 := World.block_lt_of_cell? _ _ x3
  have l4 := World.block_lt_of_cell? _ _ hc6
  obtain ⟨D, hG⟩ := SBs_good
  have hcm := Compact_calls2 hT hTD hG (by omega) w6 s F2 hs6 2
  rw [comps_0] at hcm
  have HS6 := Lib.hid hs6
  have HCM := Lib.hid hcm
  have HF2 := Lib.hid hF2
  have HW6 := Lib.hid hw6
  clear hs4 hc4 hd4 hc5 hf5 hf6 hw4 hs6 hcm hF2 hw6
  unfold b1 at x2
  go_wp2_with (first
    | (go_at_call 33; refine (StoreRev_calls w6 s SBs F2 HS6.out).mono ?_; rintro e w9 ⟨rfl, rfl⟩; rw [SBs_rev])
    | (go_at_call 44; refine HCM.out.mono ?_; rintro e w10 ⟨rfl, F10, _, hf10, _⟩))
  go_ret
  exact ⟨rfl, HW6.out.trans hf10 fun b hb h => by have := HF2.out b h; omega⟩
end Go.Proofs.Ythljnnjpmdgkoaa
