/- The statement StoreChecks's function returns true, whatever its arguments are. -/
import Derived.Test.YthljnnjpmdgkoaaRef3
import Derived.Test.YthljnnjpmdgkoaaFew
import Derived.Test.YthljnnjpmdgkoaaAwake11
namespace Go.Proofs.Ythljnnjpmdgkoaa
open Go Go.Proofs Go.RowKit
set_option maxRecDepth 100000

set_option maxHeartbeats 4000000 in
theorem storeChecks_walk (w : World) (v : Value) (l : List Opr) (r : Rg) (hv : SlR w 10 opC v l) :
    Calls Try.prog 5 #[v, rgV r] w fun e w' => e = .returned (.bool true) ∧ Fr No w w' := by
  have hfo := fun W (h : Fr No w W) => fewOps_calls W v l (hv.fr0 h)
  have hfew : fewOps l = true → l.length ≤ 30 ∧ ∀ o ∈ l, o.rg.key.size ≤ 3000 := by
    intro h
    unfold fewOps fewOp at h
    simp only [Bool.and_eq_true, decide_eq_true_eq, List.all_eq_true] at h
    exact ⟨h.1, fun o ho => (h.2 o ho).1.1⟩
  have hca := fun W (h : Fr No w W) h1 h2 => Check_calls W v l (hv.fr0 h) h1 h2
  have hcb := fun W (h : Fr No w W) h1 h2 => refCheck_calls W v l (hv.fr0 h) h1 h2
  have haa := fun W (h : r.key.size ≤ 1099511627776) => Asks_calls W r h
  have hab := fun W (h : r.key.size ≤ 1099511627776) => refAsks_calls W r h
  obtain ⟨a, cap, rfl, hc1, hc2, ha⟩ := hv.shape
  have HFO := Lib.hid hfo; clear hfo
  clear hv ha
  obtain ⟨g1, g2, g3, g4, g5, g6, g7⟩ := r
  unfold rgV at *
  dsimp only at haa hab
  cases hfb : fewOps l
  · rw [hfb] at HFO
    clear hfew hfb hca hcb haa hab
    go_enter Try.func5, Try.ntmps5
    go_wp2_with (first
      | (go_at_call 18; refine (HFO.out _ ((Fr.refl No w).alloc _)).mono ?_; rintro e w1 ⟨rfl, rfl⟩)
      | (go_at_call 19; refine (awake11_calls _).mono ?_; rintro e w2 ⟨rfl, hf2⟩))
    go_ret
    exact ⟨rfl, ((Fr.refl No w).alloc _).trans0 hf2⟩
  · rw [hfb] at HFO
    obtain ⟨n1, n2⟩ := hfew hfb
    clear hfew hfb
    by_cases h1 : 3000 < g1.size
    · have h1' : (3000 : Int) < (g1.size : Int) := by omega
      clear hca hcb haa hab
      go_enter Try.func5, Try.ntmps5
      go_wp2_with (first
        | (go_at_call 18; refine (HFO.out _ ((Fr.refl No w).alloc _)).mono ?_; rintro e w1 ⟨rfl, rfl⟩)
        | (go_at_call 19; refine (awake11_calls _).mono ?_; rintro e w2 ⟨rfl, hf2⟩))
      go_ret
      exact ⟨rfl, ((Fr.refl No w).alloc _).trans0 hf2⟩
    · have h1' : ¬ (3000 : Int) < (g1.size : Int) := by omega
      by_cases h2 : 3000 < g2.size
      · have h2' : (3000 : Int) < (g2.size : Int) := by omega
        clear hca hcb haa hab
        go_enter Try.func5, Try.ntmps5
        go_wp2_with (first
          | (go_at_call 18; refine (HFO.out _ ((Fr.refl No w).alloc _)).mono ?_; rintro e w1 ⟨rfl, rfl⟩)
          | (go_at_call 19; refine (awake11_calls _).mono ?_; rintro e w2 ⟨rfl, hf2⟩))
        go_ret
        exact ⟨rfl, ((Fr.refl No w).alloc _).trans0 hf2⟩
      · have h2' : ¬ (3000 : Int) < (g2.size : Int) := by omega
        have HCA := Lib.hid fun W (h : Fr No w W) => hca W h (by omega) (fun o ho => by have := n2 o ho; omega)
        have HCB := Lib.hid fun W (h : Fr No w W) => hcb W h (by omega) (fun o ho => by have := n2 o ho; omega)
        have HAA := Lib.hid fun W => haa W (by omega)
        have HAB := Lib.hid fun W => hab W (by omega)
        clear hca hcb haa hab n2
        generalize checkE l = k at *
        generalize askE _ = k2 at *
        have hkk : (k == k) = true := by simp
        have hkk2 : (k2 == k2) = true := by simp
        go_enter Try.func5, Try.ntmps5
        go_wp2_with (go_at_call 18; refine (HFO.out _ ((Fr.refl No w).alloc _)).mono ?_; rintro e w1 ⟨rfl, rfl⟩)
        have hbx := alloc_at w (Obj.cells #[.string g1, .string g2, .int .i64 g3, .int .i64 g4, .bool g5, .bool g6, .bool g7] 38) _ rfl
        have hfA : Fr No w (w.alloc (Obj.cells #[.string g1, .string g2, .int .i64 g3, .int .i64 g4, .bool g5, .bool g6, .bool g7] 38)) := (Fr.refl No w).alloc _
        generalize w.alloc (Obj.cells #[.string g1, .string g2, .int .i64 g3, .int .i64 g4, .bool g5, .bool g6, .bool g7] 38) = W0 at hbx hfA ⊢
        have hcell : ∀ W, Fr No W0 W → W.cell? ⟨w.heap.size, 0, none⟩ = some (.string g1) ∧ W.cell? ⟨w.heap.size, 1, none⟩ = some (.string g2) ∧ W.cell? ⟨w.heap.size, 2, none⟩ = some (.int .i64 g3) ∧ W.cell? ⟨w.heap.size, 3, none⟩ = some (.int .i64 g4) ∧
            W.cell? ⟨w.heap.size, 4, none⟩ = some (.bool g5) ∧ W.cell? ⟨w.heap.size, 5, none⟩ = some (.bool g6) ∧ W.cell? ⟨w.heap.size, 6, none⟩ = some (.bool g7) := by
          intro W hW
          have h := hW.heap hbx id
          simp [World.cell?, h]
        have lz := heap_lt hbx
        have HCELL := Lib.hid hcell
        have HFA := Lib.hid hfA
        clear hcell hbx hfA HFO
        go_region_held3 (fun W => W.cell? ⟨w.heap.size, 0, none⟩ = some (.string g1) ∧ W.cell? ⟨w.heap.size, 1, none⟩ = some (.string g2) ∧ W.cell? ⟨w.heap.size, 2, none⟩ = some (.int .i64 g3) ∧ W.cell? ⟨w.heap.size, 3, none⟩ = some (.int .i64 g4) ∧
            W.cell? ⟨w.heap.size, 4, none⟩ = some (.bool g5) ∧ W.cell? ⟨w.heap.size, 5, none⟩ = some (.bool g6) ∧ W.cell? ⟨w.heap.size, 6, none⟩ = some (.bool g7))
          (first | ((refine HCELL.out _ ?_); (repeat (first | with_reducible exact Fr.refl _ _ | with_reducible refine Fr.drew ?_ | (with_reducible refine Fr.trans0 ?_ (by with_reducible assumption)))); done))
          (first
            | (go_at_call 20; refine (HCA.out _ (HFA.out.trans0 (by (repeat (first | with_reducible exact Fr.refl _ _ | with_reducible refine Fr.drew ?_ | (with_reducible refine Fr.trans0 ?_ (by with_reducible assumption)))); done))).mono ?_; rintro e w2 ⟨rfl, hf2⟩)
            | (go_at_call 21; refine (HCB.out _ (HFA.out.trans0 (by (repeat (first | with_reducible exact Fr.refl _ _ | with_reducible refine Fr.drew ?_ | (with_reducible refine Fr.trans0 ?_ (by with_reducible assumption)))); done))).mono ?_; rintro e w3 ⟨rfl, hf3⟩)
            | (go_at_call 22; refine (HAA.out _).mono ?_; rintro e w4 ⟨rfl, hf4⟩)
            | (go_at_call 23; refine (HAB.out _).mono ?_; rintro e w5 ⟨rfl, hf5⟩)
            | (go_at_call 19; refine (awake11_calls _).mono ?_; rintro e w6 ⟨rfl, hf6⟩))
        all_goals
          go_wp2
          go_ret
          exact ⟨rfl, HFA.out.trans0 (by (repeat (first | with_reducible exact Fr.refl _ _ | with_reducible refine Fr.drew ?_ | (with_reducible refine Fr.trans0 ?_ (by with_reducible assumption)))); done)⟩
end Go.Proofs.Ythljnnjpmdgkoaa
