/- The statement StoreNil's function returns true, whatever its argument is: a nil store has nothing. -/
import Derived.Test.YthljnnjpmdgkoaaFew
import Derived.Test.YthljnnjpmdgkoaaAwake11
namespace Go.Proofs.Ythljnnjpmdgkoaa
open Go Go.Proofs Go.RowKit
set_option maxRecDepth 100000

theorem Apply_nil (w : World) (v : Value) : Calls Try.prog 41 #[.pointer none, v] w fun e w' => e = .returned (.tuple #[.slice none 0 0, .slice none 0 0, .int .i64 2]) ∧ Fr No w w' := by
  go_enter Try.func41, Try.ntmps41
  go_wp2
  go_ret3
  exact ⟨rfl, (Fr.refl No w).alloc _⟩
theorem Drop_nil (w : World) (v : Value) : Calls Try.prog 42 #[.pointer none, v] w fun e w' => e = .returned (.tuple #[.slice none 0 0, .int .i64 2]) ∧ Fr No w w' := by
  go_enter Try.func42, Try.ntmps42
  go_wp2
  go_ret2
  exact ⟨rfl, (Fr.refl No w).alloc _⟩
theorem Range_nil (w : World) (g : Rg) : Calls Try.prog 30 #[.pointer none, rgV g] w fun e w' => e = .returned (.tuple #[.slice none 0 0, .int .i64 0, .bool false, .int .i64 2]) ∧ Fr No w w' := by
  obtain ⟨g1, g2, g3, g4, g5, g6, g7⟩ := g
  unfold rgV
  dsimp only
  go_enter Try.func30, Try.ntmps30
  go_wp2
  (try simp only [Exit.inBlock, Exit.then]); refine bodyPost_ret (results_tmp4 rfl _ _ _) rfl ?_
  exact ⟨rfl, (Fr.refl No w).alloc _⟩
theorem Events_nil (w : World) (a b : Int) : Calls Try.prog 43 #[.pointer none, .int .i64 a, .int .i64 b] w fun e w' => e = .returned (.tuple #[.slice none 0 0, .int .i64 2]) ∧ Fr No w w' := by
  go_enter Try.func43, Try.ntmps43
  go_wp2
  go_ret2
  exact ⟨rfl, ((Fr.refl No w).alloc _).alloc _⟩
theorem Compact_nil (w : World) (a : Int) : Calls Try.prog 44 #[.pointer none, .int .i64 a] w fun e w' => e = .returned (.int .i64 2) ∧ Fr No w w' := by
  go_enter Try.func44, Try.ntmps44
  go_wp2
  go_ret
  exact ⟨rfl, (Fr.refl No w).alloc _⟩
theorem Rev_nil (w : World) : Calls Try.prog 33 #[.pointer none] w fun e w' => e = .returned (.int .i64 0) ∧ Fr No w w' := by
  go_enter Try.func33, Try.ntmps33
  go_wp2
  go_ret
  exact ⟨rfl, Fr.refl No w⟩
theorem Mark_nil (w : World) : Calls Try.prog 35 #[.pointer none] w fun e w' => e = .returned (.int .i64 0) ∧ Fr No w w' := by
  go_enter Try.func35, Try.ntmps35
  go_wp2
  go_ret
  exact ⟨rfl, Fr.refl No w⟩
def state0 : Value := .agg #[.int .i64 0, .int .i64 0, .slice none 0 0, .slice none 0 0]
theorem State_nil (w : World) : Calls Try.prog 37 #[.pointer none] w fun e w' => e = .returned state0 ∧ Fr No w w' := by
  go_enter Try.func37, Try.ntmps37
  go_wp2
  exact bodyPost_ret (results_cell_row rfl _ _ w.heap.size 69 _ (0, 0) _ rfl (alloc_at _ _ _ rfl) Try.underlying69 rfl (by kernel_rfl)) rfl ⟨rfl, (Fr.refl No w).alloc _⟩
theorem Plain_nil (w : World) : Calls Try.prog 38 #[state0] w fun e w' => e = .returned state0 ∧ Fr No w w' := by
  unfold state0
  go_enter Try.func38, Try.ntmps38
  go_wp2
  exact bodyPost_ret (results_cell_row rfl _ _ (w.heap.size + 1) 74 _ (0, 0) _ rfl (alloc_at _ _ _ (by simp)) Try.underlying74 rfl (by kernel_rfl)) rfl ⟨rfl, ((Fr.refl No w).alloc _).alloc _⟩
theorem SameKvs_nil (w : World) : Calls Try.prog 36 #[.slice none 0 0, .slice none 0 0] w fun e w' => e = .returned (.bool true) ∧ Fr No w w' := by
  go_enter Try.func36, Try.ntmps36
  go_wp2
  go_loopg [5] 0 (fun g s5 wr => g = 0 ∧ s5 = .int .i64 0 ∧ w = wr)
  case atStart => exact ⟨rfl, rfl, rfl⟩
  case round =>
    obtain ⟨rfl, rfl, rfl⟩ := hrel
    go_wp2
    go_ret
    exact ⟨rfl, Fr.refl No w⟩
theorem SameEvents_nil (w : World) : Calls Try.prog 72 #[.slice none 0 0, .slice none 0 0] w fun e w' => e = .returned (.bool true) ∧ Fr No w w' := by
  go_enter Try.func72, Try.ntmps72
  go_wp2
  go_loopg [5] 0 (fun g s5 wr => g = 0 ∧ s5 = .int .i64 0 ∧ w = wr)
  case atStart => exact ⟨rfl, rfl, rfl⟩
  case round =>
    obtain ⟨rfl, rfl, rfl⟩ := hrel
    go_wp2
    go_ret
    exact ⟨rfl, Fr.refl No w⟩
theorem Same_nil (w : World) : Calls Try.prog 40 #[state0, state0] w fun e w' => e = .returned (.bool true) ∧ Fr No w w' := by
  unfold state0
  go_enter Try.func40, Try.ntmps40
  go_wp2_with (first
    | (go_at_call 36; refine (SameKvs_nil _).mono ?_; rintro e w1 ⟨rfl, hf1⟩
       have hb1 := hf1.heap (alloc_old (alloc_at w (Obj.cells #[.int .i64 0, .int .i64 0, .slice none 0 0, .slice none 0 0] 74) _ rfl) (Obj.cells #[.int .i64 0, .int .i64 0, .slice none 0 0, .slice none 0 0] 74)) id
       have hb2 := hf1.heap (alloc_at (w.alloc (Obj.cells #[.int .i64 0, .int .i64 0, .slice none 0 0, .slice none 0 0] 74)) (Obj.cells #[.int .i64 0, .int .i64 0, .slice none 0 0, .slice none 0 0] 74) (w.heap.size + 1) (by simp)) id
       have x3 : w1.cell? ⟨w.heap.size, 3, none⟩ = some (.slice none 0 0) := by simp [World.cell?, hb1]
       have y3 : w1.cell? ⟨w.heap.size + 1, 3, none⟩ = some (.slice none 0 0) := by simp [World.cell?, hb2]
       have lx := heap_lt hb1
       have ly := heap_lt hb2)
    | (go_at_call 72; refine (SameEvents_nil _).mono ?_; rintro e w2 ⟨rfl, hf2⟩))
  go_ret
  exact ⟨rfl, (((Fr.refl No w).alloc _).alloc _).trans0 (hf1.trans0 hf2)⟩

theorem calR_one {W : World} {b : Nat} {q : Cal × List Opr × List ByteArray} {t : TypeId} (h : W.heap[b]? = some (.cells (calC q).toArray t (0, 0))) (ha : SlR W 10 opC q.1.ops q.2.1) (hb : SlR W 1 strC q.1.keys q.2.2) : CalR W (.slice (some ⟨b, 0, none⟩) 1 1) [q] := by
  refine ⟨⟨_, 1, rfl, by simp, by decide, fun _ => ⟨b, 0, rfl, fun i x hx j u hu => ?_⟩⟩, fun i x hx => ?_, fun i x hx => ?_⟩
  · obtain ⟨rfl, rfl⟩ := one_at0 hx
    unfold World.cell?
    simp only [h, Nat.zero_mul, Nat.zero_add, Option.isSome_none, Bool.false_eq_true, if_false]
    simpa using hu
  · obtain ⟨rfl, rfl⟩ := one_at0 hx; exact ha
  · obtain ⟨rfl, rfl⟩ := one_at0 hx; exact hb

set_option maxHeartbeats 8000000 in
theorem storeNil_walk (w : World) (q : Cal × List Opr × List ByteArray) (ha : SlR w 10 opC q.1.ops q.2.1) (hb : SlR w 1 strC q.1.keys q.2.2) :
    Calls Try.prog 11 #[.agg (calC q).toArray] w fun e w' => e = .returned (.bool true) ∧ Fr No w w' := by
  have hfc := fun W (h : Fr No w W) b (hk : W.heap[b]? = some (.cells (calC q).toArray 64 (0, 0))) => fewCals_calls W (.slice (some ⟨b, 0, none⟩) 1 1) [q] (calR_one hk (ha.fr0 h) (hb.fr0 h))
  obtain ⟨oa, ocap, hos, _, _, _⟩ := ha.shape
  obtain ⟨ka, kcap, hks, _, _, _⟩ := hb.shape
  clear ha hb
  obtain ⟨⟨p1, p2, ⟨g1, g2, g3, g4, g5, g6, g7⟩, p3, p4, p5⟩, ops, keys⟩ := q
  dsimp only at hos hks
  subst hos hks
  unfold calC rgC at *
  dsimp only at *
  have hrg := fun W => Range_nil W ⟨g1, g2, g3, g4, g5, g6, g7⟩
  unfold rgV at hrg
  have HRG := Lib.hid hrg
  generalize fewCals _ = fb at *
  have HFC := Lib.hid hfc
  clear hfc hrg
  cases fb
  · go_enter Try.func11, Try.ntmps11
    go_wp2_with (first
      | (go_at_call 28; refine (HFC.out _ (((Fr.refl No w).alloc _).alloc _) _ (alloc_at _ _ _ (by simp))).mono ?_; rintro e w1 ⟨rfl, rfl⟩)
      | (go_at_call 19; refine (awake11_calls _).mono ?_; rintro e w2 ⟨rfl, hf2⟩))
    go_ret
    exact ⟨rfl, (((Fr.refl No w).alloc _).alloc _).trans0 hf2⟩
  · go_enter Try.func11, Try.ntmps11
    go_upto_region 4 with (go_at_call 28; refine (HFC.out _ (((Fr.refl No w).alloc _).alloc _) _ (alloc_at _ _ _ (by simp))).mono ?_; rintro e w1 ⟨rfl, rfl⟩)
    have hbx : ((w.alloc (Obj.cells #[.int .i64 p1, .slice oa ops.length ocap, .string g1, .string g2, .int .i64 g3, .int .i64 g4, .bool g5, .bool g6, .bool g7, .int .i64 p3, .int .i64 p4, .slice ka keys.length kcap] 64)).alloc (Obj.cells #[.int .i64 p1, .slice oa ops.length ocap, .string g1, .string g2, .int .i64 g3, .int .i64 g4, .bool g5, .bool g6, .bool g7, .int .i64 p3, .int .i64 p4, .slice ka keys.length kcap] 64)).heap[w.heap.size]? = some (.cells #[.int .i64 p1, .slice oa ops.length ocap, .string g1, .string g2, .int .i64 g3, .int .i64 g4, .bool g5, .bool g6, .bool g7, .int .i64 p3, .int .i64 p4, .slice ka keys.length kcap] 64 (0, 0)) := alloc_old (alloc_at _ _ _ rfl) _
    have hw0 : Fr No w ((w.alloc (Obj.cells #[.int .i64 p1, .slice oa ops.length ocap, .string g1, .string g2, .int .i64 g3, .int .i64 g4, .bool g5, .bool g6, .bool g7, .int .i64 p3, .int .i64 p4, .slice ka keys.length kcap] 64)).alloc (Obj.cells #[.int .i64 p1, .slice oa ops.length ocap, .string g1, .string g2, .int .i64 g3, .int .i64 g4, .bool g5, .bool g6, .bool g7, .int .i64 p3, .int .i64 p4, .slice ka keys.length kcap] 64)) := ((Fr.refl No w).alloc _).alloc _
    generalize (w.alloc (Obj.cells #[.int .i64 p1, .slice oa ops.length ocap, .string g1, .string g2, .int .i64 g3, .int .i64 g4, .bool g5, .bool g6, .bool g7, .int .i64 p3, .int .i64 p4, .slice ka keys.length kcap] 64)).alloc (Obj.cells #[.int .i64 p1, .slice oa ops.length ocap, .string g1, .string g2, .int .i64 g3, .int .i64 g4, .bool g5, .bool g6, .bool g7, .int .i64 p3, .int .i64 p4, .slice ka keys.length kcap] 64) = W0 at hbx hw0 ⊢
    have hc : ∀ W, Fr No W0 W → W.cell? ⟨w.heap.size, 1, none⟩ = some (.slice oa ops.length ocap) ∧ W.cell? ⟨w.heap.size, 2, none⟩ = some (.string g1) ∧ W.cell? ⟨w.heap.size, 3, none⟩ = some (.string g2) ∧ W.cell? ⟨w.heap.size, 4, none⟩ = some (.int .i64 g3) ∧ W.cell? ⟨w.heap.size, 5, none⟩ = some (.int .i64 g4) ∧ W.cell? ⟨w.heap.size, 6, none⟩ = some (.bool g5) ∧ W.cell? ⟨w.heap.size, 7, none⟩ = some (.bool g6) ∧ W.cell? ⟨w.heap.size, 8, none⟩ = some (.bool g7) ∧ W.cell? ⟨w.heap.size, 9, none⟩ = some (.int .i64 p3) ∧ W.cell? ⟨w.heap.size, 10, none⟩ = some (.int .i64 p4) ∧ W.cell? ⟨w.heap.size, 11, none⟩ = some (.slice ka keys.length kcap) := by
      intro W hW
      have h := hW.heap hbx id
      simp [World.cell?, h]
    have HC := Lib.hid hc
    have HW0 := Lib.hid hw0
    have hacc : Fr No W0 W0 := Fr.refl No W0
    obtain ⟨x1, x2, x3, x4, x5, x6, x7, x8, x9, x10, x11⟩ := HC.out _ hacc; have lz := World.block_lt_of_cell? _ _ x1
    clear hbx hw0 hc HFC
    go_upto_region 8 with (first
      | (go_at_call 41; refine (Apply_nil _ _).mono ?_; rintro e wa ⟨rfl, hf⟩; replace hacc := hacc.trans0 hf; clear hf; obtain ⟨x1, x2, x3, x4, x5, x6, x7, x8, x9, x10, x11⟩ := HC.out _ hacc; have lz := World.block_lt_of_cell? _ _ x1)
      | (go_at_call 42; refine (Drop_nil _ _).mono ?_; rintro e wb ⟨rfl, hf⟩; replace hacc := hacc.trans0 hf; clear hf; obtain ⟨x1, x2, x3, x4, x5, x6, x7, x8, x9, x10, x11⟩ := HC.out _ hacc; have lz := World.block_lt_of_cell? _ _ x1)
      | (go_at_call 30; refine (HRG.out _).mono ?_; rintro e wc ⟨rfl, hf⟩; replace hacc := hacc.trans0 hf; clear hf; obtain ⟨x1, x2, x3, x4, x5, x6, x7, x8, x9, x10, x11⟩ := HC.out _ hacc; have lz := World.block_lt_of_cell? _ _ x1)
      | (go_at_call 43; refine (Events_nil _ _ _).mono ?_; rintro e wd ⟨rfl, hf⟩; replace hacc := hacc.trans0 hf; clear hf; obtain ⟨x1, x2, x3, x4, x5, x6, x7, x8, x9, x10, x11⟩ := HC.out _ hacc; have lz := World.block_lt_of_cell? _ _ x1))
    go_wp2_with (first
      | (go_at_call 44; refine (Compact_nil _ _).mono ?_; rintro e we ⟨rfl, hf⟩; replace hacc := hacc.trans0 hf; clear hf; obtain ⟨x1, x2, x3, x4, x5, x6, x7, x8, x9, x10, x11⟩ := HC.out _ hacc; have lz := World.block_lt_of_cell? _ _ x1)
      | (go_at_call 33; refine (Rev_nil _).mono ?_; rintro e wf ⟨rfl, hf⟩; replace hacc := hacc.trans0 hf; clear hf; obtain ⟨x1, x2, x3, x4, x5, x6, x7, x8, x9, x10, x11⟩ := HC.out _ hacc; have lz := World.block_lt_of_cell? _ _ x1)
      | (go_at_call 35; refine (Mark_nil _).mono ?_; rintro e wg ⟨rfl, hf⟩; replace hacc := hacc.trans0 hf; clear hf; obtain ⟨x1, x2, x3, x4, x5, x6, x7, x8, x9, x10, x11⟩ := HC.out _ hacc; have lz := World.block_lt_of_cell? _ _ x1)
      | (go_at_call 37; refine (State_nil _).mono ?_; rintro e wh ⟨rfl, hf⟩; replace hacc := hacc.trans0 hf; clear hf; obtain ⟨x1, x2, x3, x4, x5, x6, x7, x8, x9, x10, x11⟩ := HC.out _ hacc; have lz := World.block_lt_of_cell? _ _ x1)
      | (go_at_call 38; refine (Plain_nil _).mono ?_; rintro e wi ⟨rfl, hf⟩; replace hacc := hacc.trans0 hf; clear hf; obtain ⟨x1, x2, x3, x4, x5, x6, x7, x8, x9, x10, x11⟩ := HC.out _ hacc; have lz := World.block_lt_of_cell? _ _ x1)
      | (go_at_call 40; refine (Same_nil _).mono ?_; rintro e wj ⟨rfl, hf⟩; replace hacc := hacc.trans0 hf; clear hf; obtain ⟨x1, x2, x3, x4, x5, x6, x7, x8, x9, x10, x11⟩ := HC.out _ hacc; have lz := World.block_lt_of_cell? _ _ x1)
      | (go_at_call 19; refine (awake11_calls _).mono ?_; rintro e wk ⟨rfl, hf⟩; replace hacc := hacc.trans0 hf; clear hf; obtain ⟨x1, x2, x3, x4, x5, x6, x7, x8, x9, x10, x11⟩ := HC.out _ hacc; have lz := World.block_lt_of_cell? _ _ x1))
    go_ret
    exact ⟨rfl, HW0.out.trans0 hacc⟩
end Go.Proofs.Ythljnnjpmdgkoaa
