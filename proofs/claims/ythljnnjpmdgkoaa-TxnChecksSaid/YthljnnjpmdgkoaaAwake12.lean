/- The chapter's examples hold: the statement's own awake. -/
import Derived.Test.YthljnnjpmdgkoaaWake
import Derived.Deep.RegionHeld3
namespace Go.Proofs.Ythljnnjpmdgkoaa
open Go Go.Proofs Go.RowKit
set_option maxRecDepth 100000

theorem put12_calls (w : World) (k v : ByteArray) : Calls Try.prog 45 #[.string k, .string v] w fun e w' => e = .returned (opV (putO k v)) ∧ Fr No w w' := by
  go_enter Try.func45, Try.ntmps45
  go_wp2
  exact bodyPost_ret (results_cell_row rfl _ _ w.heap.size 87 _ (0, 0) _ rfl (alloc_at _ _ _ rfl) Try.underlying87 rfl (by kernel_rfl)) rfl ⟨rfl, (Fr.refl No w).alloc _⟩

theorem slR_ops {W : World} {b : Nat} {o : Opr} {t : TypeId} (h : W.heap[b]? = some (.cells (opC o).toArray t (0, 0))) : SlR W 10 opC (.slice (some ⟨b, 0, none⟩) 1 1) [o] := by
  refine ⟨_, 1, rfl, by simp, by decide, fun _ => ⟨b, 0, rfl, fun i x hx j u hu => ?_⟩⟩
  obtain ⟨rfl, rfl⟩ := one_at0 hx
  unfold World.cell?
  simp only [h, Nat.zero_mul, Nat.zero_add, Option.isSome_none, Bool.false_eq_true, if_false]
  simpa using hu
theorem slR_cmp {W : World} {b : Nat} {o : Cmp} {t : TypeId} (h : W.heap[b]? = some (.cells (cmpC o).toArray t (0, 0))) : SlR W 5 cmpC (.slice (some ⟨b, 0, none⟩) 1 1) [o] := by
  refine ⟨_, 1, rfl, by simp, by decide, fun _ => ⟨b, 0, rfl, fun i x hx j u hu => ?_⟩⟩
  obtain ⟨rfl, rfl⟩ := one_at0 hx
  unfold World.cell?
  simp only [h, Nat.zero_mul, Nat.zero_add, Option.isSome_none, Bool.false_eq_true, if_false]
  simpa using hu

theorem br_one : branch S1 [noneC] [putO bA b2] [getO bA] = [getO bA] := by kernel_rfl
theorem br_two : branch S1 [] [putO bB b2] [] = [putO bB b2] := by kernel_rfl
theorem all_one : allB S1 [noneC] = false := by kernel_rfl

theorem run_one (W : World) (s p q r : Nat) (F1 : Nat → Prop) (hS : StoreAt TreeAt1 W s S1 F1) (hp : W.heap[p]? = some (.cells (cmpC noneC).toArray 32 (0, 0))) (hq : W.heap[q]? = some (.cells (opC (putO bA b2)).toArray 87 (0, 0)))
    (hr : W.heap[r]? = some (.cells (opC (getO bA)).toArray 87 (0, 0))) (nq : ¬ F1 q) (nr : ¬ F1 r) :
    Calls Try.prog 17 #[.pointer (some ⟨s, 0, none⟩), .slice (some ⟨p, 0, none⟩) 1 1, .slice (some ⟨q, 0, none⟩) 1 1, .slice (some ⟨r, 0, none⟩) 1 1] W fun e w' => ∃ g o cap ev F', e = .returned (.tuple #[.bool false, .slice (some ⟨g, o, none⟩) 1 cap, ev, .int .i64 0]) ∧
      StoreAt TreeAt1 w' s S1 F' ∧ w'.cell? ⟨g, o + 2, none⟩ = some (.int .i64 1) ∧ Fr F1 W w' ∧ (∀ b, F' b → F1 b ∨ W.heap.size ≤ b) ∧ W.heap.size ≤ g ∧ ¬ F' g := by
  refine (Run_calls treeOk1 (n := 1) (by omega) W s S1 F1 hS S1_ok (by rw [S1_len]; omega) (by decide) (by decide) _ _ _ [noneC] [putO bA b2] [getO bA] (slR_cmp hp) (slR_ops hq) (slR_ops hr)
    (fun b hb => by simp [Value.ownBlock] at hb; rw [← hb]; exact nq) (fun b hb => by simp [Value.ownBlock] at hb; rw [← hb]; exact nr) (by decide) (by decide) (by decide) (by decide) (by decide) chk_c (by rw [br_one]; exact wh_b)
    (by rw [br_one]; exact step_get bA S1_ok (by rw [S1_len]; omega) (by decide))).mono ?_
  rintro e w' ⟨av, ev, rfl, F', Z, h1, h2, h3, h4, h5, h6, h7, h8⟩
  rw [br_one] at h1 h3
  rw [S1_same] at h1
  have hz : Z.map (fun q => (q.1.kvs.length, q.1.count)) = [(1, 1)] := by
    have e1 := congrArg (List.map fun a : Ans => (a.kvs.length, a.count)) h3
    rw [run_get_A, List.map_map] at e1
    exact e1
  obtain ⟨z, rfl⟩ := List.length_eq_one_iff.1 (show Z.length = 1 by have := congrArg List.length hz; simpa using this)
  simp only [List.map_cons, List.map_nil, List.cons.injEq, Prod.mk.injEq, and_true] at hz
  obtain ⟨a, cap, rfl, h9, h10, h11⟩ := h2.sl.shape
  obtain ⟨g, o, rfl⟩ := h11 (by simp)
  have hc := h2.sl.cell ansC_length 0 2 rfl rfl
  rw [hz.2] at hc
  have hg := h8 g (.inl rfl)
  rw [all_one]
  exact ⟨g, o, cap, ev, F', rfl, h1, by simpa using hc, h5, h6, hg.1, hg.2⟩

theorem run_two (W : World) (s q : Nat) (F1 : Nat → Prop) (hS : StoreAt TreeAt1 W s S1 F1) (hq : W.heap[q]? = some (.cells (opC (putO bB b2)).toArray 87 (0, 0))) (nq : ¬ F1 q) :
    Calls Try.prog 17 #[.pointer (some ⟨s, 0, none⟩), .slice none 0 0, .slice (some ⟨q, 0, none⟩) 1 1, .slice none 0 0] W fun e w' => ∃ av a cap F', e = .returned (.tuple #[.bool true, av, .slice a 1 cap, .int .i64 0]) ∧
      StoreAt TreeAt1 w' s S2 F' ∧ Fr F1 W w' := by
  refine (Run_calls treeOk1 (n := 1) (by omega) W s S1 F1 hS S1_ok (by rw [S1_len]; omega) (by decide) (by decide) _ _ _ [] [putO bB b2] [] (SlR.nil _ _ _) (slR_ops hq) (SlR.nil _ _ _)
    (fun b hb => by simp [Value.ownBlock] at hb; rw [← hb]; exact nq) (fun b hb => by simp [Value.ownBlock] at hb) (by decide) (by decide) (by decide) (by decide) (by decide) chk_d (by rw [br_two]; exact wh_c)
    (by rw [br_two]; exact step_put bB b2 S1_ok (by rw [S1_len]; omega) (by decide) S1_get (by rw [S1_len]; omega) (by decide) (by decide))).mono ?_
  rintro e w' ⟨av, ev, rfl, F', Z, h1, h2, h3, h4, h5, h6, h7, h8⟩
  rw [br_two] at h1 h4
  obtain ⟨a, cap, rfl, h9, h10, h11⟩ := h4.shape
  exact ⟨av, a, cap, F', rfl, h1, h5⟩

set_option maxHeartbeats 4000000 in
theorem awake12_calls (w : World) : Calls Try.prog 13 #[] w fun e w' => e = .returned (.bool true) ∧ Fr No w w' := by
  go_enter Try.func13, Try.ntmps13
  go_upto_region 5 with (first
    | (go_at_call 31; refine (StoreNew_calls treeOk1 _).mono ?_; rintro e w1 ⟨s, rfl, F0, hs1, hf1, hn1⟩)
    | (go_at_call 45; refine (put12_calls _ _ _).mono ?_; rintro e w2 ⟨rfl, hf2⟩; unfold opV putO rg0; dsimp only)
    | (go_at_call 41; refine (apply_runs treeOk1 (n := 0) (by omega) _ s st0 F0 ((hs1.fr0 treeOk1 hf2).fr0 treeOk1 ((Fr.refl No w2).alloc _)) _ [putO bA b1] (slR_ops (alloc_at _ _ _ rfl)) (fun b hb h => by
         have h1 := hs1.lt treeOk1 _ h
         have h2 := hf2.size
         simp [Value.ownBlock] at hb
         omega) (by decide) (by decide) (by decide) (by decide) chk_a wh_a (step_put bA b1 (st0_ok 0) (by decide) (by decide) rfl (by decide) (by decide) (by decide))).mono ?_
       rintro e w3 ⟨av, ev, rfl, F1, Z, hs3, ha3, hz3, he3, hf3, hn3, hev3, hav3⟩))
  have hS : StoreAt TreeAt1 w3 s S1 F1 := hs3
  have hw3 : Fr No w w3 := ((hf1.trans0 hf2).alloc _).trans hf3 fun b hb h => by have := hn1 b h; omega
  have hsz2 : w.heap.size ≤ w2.heap.size := (hf1.trans0 hf2).size
  have hF1 : ∀ b, F1 b → w.heap.size ≤ b := fun b hb => by
    rcases hn3 b hb with h | h
    · exact hn1 b h
    · simp at h; omega
  clear hs1 hf1 hn1 hf2 hs3 ha3 hz3 he3 hf3 hn3 hev3 hav3 hsz2
  have hb2 : ((w3.alloc (Obj.cells (cmpC oneC).toArray 32)).alloc (Obj.cells (cmpC noneC).toArray 32)).heap[w3.heap.size]? = some (.cells (cmpC oneC).toArray 32 (0, 0)) := alloc_old (alloc_at _ _ _ rfl) _
  have hb3 : ((w3.alloc (Obj.cells (cmpC oneC).toArray 32)).alloc (Obj.cells (cmpC noneC).toArray 32)).heap[w3.heap.size + 1]? = some (.cells (cmpC noneC).toArray 32 (0, 0)) := alloc_at _ _ _ (by simp)
  have hw4 : Fr No w3 ((w3.alloc (Obj.cells (cmpC oneC).toArray 32)).alloc (Obj.cells (cmpC noneC).toArray 32)) := ((Fr.refl No w3).alloc _).alloc _
  have hdef : ((w3.alloc (Obj.cells (cmpC oneC).toArray 32)).alloc (Obj.cells (cmpC noneC).toArray 32)) = ((w3.alloc (Obj.cells #[Value.string ⟨#[97]⟩, .int .i64 1, .int .i64 0, .int .i64 1, .string ⟨#[]⟩] 32)).alloc (Obj.cells #[Value.string ⟨#[97]⟩, .int .i64 2, .int .i64 0, .int .i64 0, .string ⟨#[]⟩] 32)) := rfl
  rw [hdef] at hb2 hb3 hw4
  clear hdef
  generalize ((w3.alloc (Obj.cells #[Value.string ⟨#[97]⟩, .int .i64 1, .int .i64 0, .int .i64 1, .string ⟨#[]⟩] 32)).alloc (Obj.cells #[Value.string ⟨#[97]⟩, .int .i64 2, .int .i64 0, .int .i64 0, .string ⟨#[]⟩] 32)) = W4 at hb2 hb3 hw4 ⊢
  have hcell : ∀ W, Fr F1 W4 W → W.cell? ⟨w3.heap.size + 1, 0, none⟩ = some (.string ⟨#[97]⟩) ∧ W.cell? ⟨w3.heap.size + 1, 1, none⟩ = some (.int .i64 2) ∧ W.cell? ⟨w3.heap.size + 1, 2, none⟩ = some (.int .i64 0) ∧ W.cell? ⟨w3.heap.size + 1, 3, none⟩ = some (.int .i64 0) ∧
      W.cell? ⟨w3.heap.size + 1, 4, none⟩ = some (.string ByteArray.empty) := by
    intro W hW
    have h := hW.heap hb3 (fun h => by have := hS.lt treeOk1 _ h; omega)
    simp [World.cell?, h, cmpC, noneC, bA]
  have HCELL := Lib.hid hcell
  have HB2 := Lib.hid hb2
  have HS := Lib.hid hS
  have HW4 := Lib.hid hw4
  have HW3 := Lib.hid hw3
  have HF1 := Lib.hid hF1
  have l34 : w3.heap.size + 2 ≤ W4.heap.size := by have := heap_lt hb3; omega
  have HLS := Lib.hid (hS.lt treeOk1)
  clear hcell hb2 hb3 hS hw4 hw3 hF1
  go_cut [4, 5, 7] (fun s4 s5 s7 wx => s4 = .bool false ∧ s7 = .int .i64 0 ∧ ∃ (g o cap : Nat) (F2 : Nat → Prop), s5 = .slice (some ⟨g, o, none⟩) 1 cap ∧ Hid (StoreAt TreeAt1 wx s S1 F2) ∧ wx.cell? ⟨g, o + 2, none⟩ = some (.int .i64 1) ∧ Hid (Fr F1 W4 wx) ∧
    Hid (∀ b, F2 b → F1 b ∨ W4.heap.size ≤ b) ∧ Hid (W4.heap.size ≤ g ∧ ¬ F2 g))
  case first =>
    go_region_held3 (fun W => W.cell? ⟨w3.heap.size + 1, 0, none⟩ = some (.string ⟨#[97]⟩) ∧ W.cell? ⟨w3.heap.size + 1, 1, none⟩ = some (.int .i64 2) ∧ W.cell? ⟨w3.heap.size + 1, 2, none⟩ = some (.int .i64 0) ∧ W.cell? ⟨w3.heap.size + 1, 3, none⟩ = some (.int .i64 0) ∧
      W.cell? ⟨w3.heap.size + 1, 4, none⟩ = some (.string ByteArray.empty))
      (first | ((refine HCELL.out _ ?_); (repeat (first | with_reducible exact Fr.refl _ _ | with_reducible exact hf45 | with_reducible refine Fr.alloc ?_ _ | with_reducible refine Fr.drew ?_ | (with_reducible refine Fr.trans0 ?_ (by with_reducible assumption)))); done))
      (first
        | (go_at_call 45; refine (put12_calls _ _ _).mono ?_; rintro e w4 ⟨rfl, hf4⟩; unfold opV putO rg0; dsimp only)
        | (go_at_call 17
           have hz4 : W4.heap.size ≤ w4.heap.size := by have := hf4.size; simp at this; omega
           refine (run_one _ s _ _ _ F1 (HS.out.fr0 treeOk1 (HW4.out.trans0 (by (repeat (first | with_reducible exact Fr.refl _ _ | with_reducible refine Fr.alloc ?_ _ | with_reducible refine Fr.drew ?_ | (with_reducible refine Fr.trans0 ?_ (by with_reducible assumption)))); done)))
             (by repeat (first | exact alloc_at _ _ _ (by first | rfl | simp) | refine alloc_old ?_ _ | refine hf4.heap ?_ id)) (by repeat (first | exact alloc_at _ _ _ (by first | rfl | simp) | refine alloc_old ?_ _ | refine hf4.heap ?_ id)) (by repeat (first | exact alloc_at _ _ _ (by first | rfl | simp) | refine alloc_old ?_ _ | refine hf4.heap ?_ id))
             (fun h => by have := HLS.out _ h; omega) (fun h => by have := HLS.out _ h; omega)).mono ?_
           rintro e w5 ⟨g, o, cap, ev, F2, rfl, hs5, hc5, hf5, hn5, hg5, ng5⟩
           have hn6 : ∀ b, F2 b → F1 b ∨ W4.heap.size ≤ b := fun b hb => (hn5 b hb).imp id (fun h => by (try simp at h); omega)
           have hg6 : W4.heap.size ≤ g := by (try simp at hg5); omega
           have hf45 : Fr F1 W4 w5 := Fr.trans (S := F1) (T := F1) (by (repeat (first | with_reducible exact Fr.refl _ _ | with_reducible refine Fr.alloc ?_ _ | with_reducible refine Fr.drew ?_ | (with_reducible refine Fr.trans0 ?_ (by with_reducible assumption)))); done) hf5 fun _ _ h => h))
    all_goals
      go_wp2_with fail
      go_meet
      case rel => exact ⟨rfl, rfl, g, o, cap, F2, rfl, Lib.hid (hs5.fr0 treeOk1 (by (repeat (first | with_reducible exact Fr.refl _ _ | with_reducible refine Fr.drew ?_)); done)), hc5, Lib.hid (hf45.trans0 (by (repeat (first | with_reducible exact Fr.refl _ _ | with_reducible refine Fr.drew ?_)); done)), Lib.hid hn6, Lib.hid ⟨hg6, ng5⟩⟩
  case rest =>
    obtain ⟨rfl, rfl, g, o, cap, F2, rfl, HS5, hc5, HF5, HN5, HG5⟩ := hcut
    have HB5 := Lib.hid (HF5.out.heap HB2.out (fun h => by have := HLS.out _ h; omega))
    have n2 : ¬ F2 w3.heap.size := fun h => by
      rcases HN5.out _ h with h | h
      · have := HLS.out _ h; omega
      · omega
    have n3 : ∀ b, F2 b → w.heap.size ≤ b := fun b h => by
      have := HW3.out.size
      rcases HN5.out _ h with h | h
      · exact HF1.out b h
      · omega
    have lg := World.block_lt_of_cell? _ _ hc5
    have hw5 : Fr No w wc := (HW3.out.trans0 HW4.out).trans HF5.out fun b hb h => by have := HF1.out b h; omega
    have HW5 := Lib.hid hw5
    have HN3 := Lib.hid n3
    have HLS5 := Lib.hid (HS5.out.lt treeOk1)
    clear hw5 n3 HCELL
    go_upto_region 7 with (first
      | (go_at_call 45; refine (put12_calls _ _ _).mono ?_; rintro e w6 ⟨rfl, hf6⟩; unfold opV putO rg0; dsimp only)
      | (go_at_call 17; refine (run_two _ s w6.heap.size F2 ((HS5.out.fr0 treeOk1 hf6).fr0 treeOk1 ((Fr.refl No w6).alloc _)) (alloc_at _ _ _ rfl) (fun h => by have := HLS5.out _ h; have := hf6.size; omega)).mono ?_
         rintro e w7 ⟨av7, a7, cap7, F3, rfl, hs7, hf7⟩
         have hf57 : Fr F2 wc w7 := (((Fr.refl F2 wc).trans (hf6.mono fun _ _ h => h.elim) fun _ _ h => h).alloc _).trans hf7 fun _ _ h => h
         have HB7 := Lib.hid (hf57.heap HB5.out n2)
         have hc7 := hf57.cell hc5 HG5.out.2
         have HS7 := Lib.hid hs7
         have HF57 := Lib.hid hf57
         clear hs7 hf57 hf7))
    have y0 : w7.cell? ⟨w3.heap.size, 0, none⟩ = some (.string ⟨#[97]⟩) := by simp [World.cell?, HB7.out, cmpC, oneC, bA]
    have y1 : w7.cell? ⟨w3.heap.size, 1, none⟩ = some (.int .i64 1) := by simp [World.cell?, HB7.out, cmpC, oneC, bA]
    have y2 : w7.cell? ⟨w3.heap.size, 2, none⟩ = some (.int .i64 0) := by simp [World.cell?, HB7.out, cmpC, oneC, bA]
    have y3 : w7.cell? ⟨w3.heap.size, 3, none⟩ = some (.int .i64 1) := by simp [World.cell?, HB7.out, cmpC, oneC, bA]
    have y4 : w7.cell? ⟨w3.heap.size, 4, none⟩ = some (.string ByteArray.empty) := by simp [World.cell?, HB7.out, cmpC, oneC, bA]
    have ly := heap_lt HB7.out
    have lg7 := World.block_lt_of_cell? _ _ hc7
    have hho := Holds_calls treeOk1 (n := 2) (by omega) w7 s S2 F3 HS7.out S2_ok (by rw [S2_len]; omega) (by decide) oneC (by decide) chk_f
    rw [hold_one] at hho
    unfold cmpV oneC bA at hho
    dsimp only at hho
    have HHO := Lib.hid hho
    have hck := fun (W : World) (p : Nat) (hp : W.heap[p]? = some (.cells (cmpC sixC).toArray 32 (0, 0))) => TxnCheck_calls W (.slice (some ⟨p, 0, none⟩) 1 1) (.slice none 0 0) (.slice none 0 0) [sixC] [] [] (slR_cmp hp) (SlR.nil _ _ _) (SlR.nil _ _ _) (by decide) (by decide) (by decide) (by decide) (by decide) (by decide)
    rw [chk_e] at hck
    have HCK := Lib.hid hck
    clear hho hck
    go_wp2_with (first
      | (go_at_call 16; refine HHO.out.mono ?_; rintro e w8 ⟨rfl, hf8⟩
         have hc8 := hf8.cell0 hc7)
      | (go_at_call 33; refine (StoreRev_calls w8 s S2 F3 (HS7.out.fr0 treeOk1 hf8)).mono ?_; rintro e w9 ⟨rfl, rfl⟩; rw [S2_rev])
      | (go_at_call 14; refine (HCK.out _ w8.heap.size (alloc_at _ _ _ rfl)).mono ?_; rintro e w10 ⟨rfl, hf10⟩))
    go_ret
    refine ⟨rfl, (HW5.out.trans (HF57.out.trans0 (hf8.trans0 (((Fr.refl No w8).alloc _).trans0 hf10))) fun b hb h => ?_)⟩
    have := HN3.out b h
    omega
end Go.Proofs.Ythljnnjpmdgkoaa
