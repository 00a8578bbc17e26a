/- The statement TxnNil's function returns true, whatever its argument's three slices are. -/
import Derived.Test.YthljnnjpmdgkoaaAwake12
import Derived.Test.YthljnnjpmdgkoaaFew2
namespace Go.Proofs.Ythljnnjpmdgkoaa
open Go Go.Proofs Go.RowKit
set_option maxRecDepth 100000

set_option maxHeartbeats 2000000 in
theorem txnNil_walk (w : World) (v va vb : Value) (cs : List Cmp) (la lb : List Opr) (hv : SlR w 5 cmpC v cs) (hva : SlR w 10 opC va la) (hvb : SlR w 10 opC vb lb) :
    Calls Try.prog 4 #[.agg #[v, va, vb]] w fun e w' => e = .returned (.bool true) ∧ Fr No w w' := by
  have hfw := fun W (h : Fr No w W) => fewTxn_calls W v va vb cs la lb (hv.fr0 h) (hva.fr0 h) (hvb.fr0 h)
  have hlen : fewTxn cs la lb = true → cs.length ≤ 30 := by
    intro h
    unfold fewTxn at h
    simp only [Bool.and_eq_true, decide_eq_true_eq] at h
    exact h.1.1
  obtain ⟨a, cap, rfl, hc1, hc2, ha⟩ := hv.shape
  obtain ⟨aa, acap, rfl, _, _, _⟩ := hva.shape
  obtain ⟨ab, bcap, rfl, _, _, _⟩ := hvb.shape
  have HV := Lib.hid hv; clear hv
  have HA := Lib.hid ha; clear ha
  have HFW := Lib.hid hfw; clear hfw
  clear hva hvb
  generalize fewTxn cs la lb = fb at *
  cases fb
  · clear hlen
    go_enter Try.func4, Try.ntmps4
    go_wp2_with (first
      | (go_at_call 12; refine (HFW.out _ ((Fr.refl No w).alloc _)).mono ?_; rintro e w1 ⟨rfl, hf1⟩)
      | (go_at_call 13; refine (awake12_calls _).mono ?_; rintro e w2 ⟨rfl, hf2⟩))
    go_ret
    exact ⟨rfl, (((Fr.refl No w).alloc _).trans0 hf1).trans0 hf2⟩
  · have h30 := hlen rfl
    clear hlen
    go_enter Try.func4, Try.ntmps4
    go_wp2_with (first
      | (go_at_call 12; refine (HFW.out _ ((Fr.refl No w).alloc _)).mono ?_; rintro e w1 ⟨rfl, hf1⟩))
    have hfA : Fr No w w1 := ((Fr.refl No w).alloc _).trans0 hf1
    have hbA : w1.heap[w.heap.size]? = some (.cells #[.slice a cs.length cap, .slice aa la.length acap, .slice ab lb.length bcap] 25 (0, 0)) := hf1.heap (alloc_at _ _ _ rfl) id
    have HBA := Lib.hid hbA
    clear hbA
    go_loopg [3] cs.length (fun g s3 wr => ∃ i : Nat, s3 = .int .i64 i ∧ i + g = cs.length ∧ Hid (Fr No w1 wr))
    case atStart => exact ⟨0, rfl, by simp, Lib.hid (Fr.refl No w1)⟩
    case round =>
      obtain ⟨i, rfl, hi, HF⟩ := hrel
      have hb := HF.out.heap HBA.out id
      have z0 : wr.cell? ⟨w.heap.size, 0, none⟩ = some (.slice a cs.length cap) := by simp [World.cell?, hb]
      have z1 : wr.cell? ⟨w.heap.size, 1, none⟩ = some (.slice aa la.length acap) := by simp [World.cell?, hb]
      have z2 : wr.cell? ⟨w.heap.size, 2, none⟩ = some (.slice ab lb.length bcap) := by simp [World.cell?, hb]
      have lz := heap_lt hb
      clear hb
      cases gk with
      | zero =>
        have hil : ¬ (i : Int) < (cs.length : Int) := by omega
        go_wp2_with (first
          | (go_at_call 17; refine (Run_nil _ _ _ _).mono ?_; rintro e w2 ⟨rfl, rfl⟩)
          | (go_at_call 13; refine (awake12_calls _).mono ?_; rintro e w3 ⟨rfl, hf3⟩))
        go_ret
        exact ⟨rfl, (hfA.trans0 HF.out).trans0 hf3⟩
      | succ g =>
        obtain ⟨gb, go, rfl⟩ := HA.out (by omega)
        obtain ⟨p, hx⟩ : ∃ p, cs[i]? = some p := ⟨_, List.getElem?_eq_getElem (by omega)⟩
        have hvr := HV.out.fr0 (hfA.trans0 HF.out)
        have x0 := hvr.cell0 cmpC_length i hx rfl
        have x1 := hvr.cell cmpC_length i 1 hx rfl
        have x2 := hvr.cell cmpC_length i 2 hx rfl
        have x3 := hvr.cell cmpC_length i 3 hx rfl
        have x4 := hvr.cell cmpC_length i 4 hx rfl
        have hil : (i : Int) < (cs.length : Int) := by omega
        have hho := fun W => Holds_nil W p
        unfold cmpV at hho
        have HHO := Lib.hid hho
        clear hx hvr hho
        go_wp2_with (go_at_call 16; refine (HHO.out _).mono ?_; rintro e w2 ⟨rfl, hf2⟩)
        go_roundg g
        case rel => exact ⟨i + 1, by go_num, by omega, Lib.hid (HF.out.trans0 hf2)⟩
        case measure => omega
end Go.Proofs.Ythljnnjpmdgkoaa
