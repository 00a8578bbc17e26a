/- The document's answer on transactions is the program's (chanceryref12's Check), and the statement TxnChecks's function returns true. The condition of the first: keys are not too long. -/
import Derived.Test.YthljnnjpmdgkoaaRef3
import Derived.Test.YthljnnjpmdgkoaaFew2
import Derived.Test.YthljnnjpmdgkoaaAwake12
namespace Go.Proofs.Ythljnnjpmdgkoaa
open Go Go.Proofs Go.RowKit
set_option maxRecDepth 100000

set_option maxHeartbeats 4000000 in
theorem refTxn_calls (w : World) (v va vb : Value) (cs : List Cmp) (la lb : List Opr) (hv : SlR w 5 cmpC v cs) (hva : SlR w 10 opC va la) (hvb : SlR w 10 opC vb lb) (hl : cs.length ≤ 1099511627) (hla : la.length ≤ 1099511627) (hlb : lb.length ≤ 1099511627)
    (hks : ∀ c ∈ cs, c.key.size ≤ 1099511627776) (hka : ∀ o ∈ la, o.rg.key.size ≤ 1099511627776) (hkb : ∀ o ∈ lb, o.rg.key.size ≤ 1099511627776) :
    Calls Try.prog 15 #[v, va, vb] w fun e w' => e = .returned (.int .i64 (txnE cs la lb)) ∧ Fr No w w' := by
  have hca := fun W (h : Fr No w W) => refCheck_calls W va la (hva.fr0 h) hla hka
  have hcb := fun W (h : Fr No w W) => refCheck_calls W vb lb (hvb.fr0 h) hlb hkb
  obtain ⟨a, cap, rfl, hc1, hc2, ha⟩ := hv.shape
  have HV := Lib.hid hv; clear hv
  have HA := Lib.hid ha; clear ha
  have HKS := Lib.hid hks; clear hks
  have HCA := Lib.hid hca; clear hca
  have HCB := Lib.hid hcb; clear hcb
  by_cases h16 : 16 < cs.length
  · have h16' : (16 : Int) < (cs.length : Int) := by omega
    have : txnE cs la lb = 31 := by unfold txnE; rw [if_pos h16]
    rw [this]
    go_enter Try.func15, Try.ntmps15
    go_wp2
    go_ret
    exact ⟨rfl, Fr.refl No w⟩
  · have h16' : ¬ (16 : Int) < (cs.length : Int) := by omega
    have hE : txnE cs la lb = match cs.find? fun c => cmpE c != 0 with
      | some c => cmpE c
      | none => if checkE la ≠ 0 then checkE la else checkE lb := by unfold txnE; rw [if_neg h16]; rfl
    have HE := Lib.hid hE; clear hE
    go_enter Try.func15, Try.ntmps15
    go_wp2
    go_loopg [7] cs.length (fun g s7 wr => ∃ i : Nat, s7 = .int .i64 i ∧ i + g = cs.length ∧ Hid (∀ j, j < i → ∀ p, cs[j]? = some p → cmpE p = 0) ∧ Hid (Fr No w wr))
    case atStart => exact ⟨0, rfl, by simp, Lib.hid (by simp), Lib.hid (Fr.refl No w)⟩
    case round =>
      obtain ⟨i, rfl, hi, HJ, HF⟩ := hrel
      cases gk with
      | zero =>
        have hil : ¬ (i : Int) < (cs.length : Int) := by omega
        have hE2 : txnE cs la lb = if checkE la ≠ 0 then checkE la else checkE lb := by
          rw [HE.out]
          have : cs.find? (fun o => cmpE o != 0) = none := by
            rw [List.find?_eq_none]
            intro x hx
            obtain ⟨j, hj, rfl⟩ := List.getElem_of_mem hx
            have := HJ.out j (by omega) _ (List.getElem?_eq_getElem hj)
            simp [this]
          rw [this]
        have HE2 := Lib.hid hE2
        clear hE2 HE HJ
        generalize checkE la = ka at *
        generalize checkE lb = kb at *
        by_cases h1 : ka ≠ 0
        · have h1' : (ka == 0) = false := by simpa using h1
          have HE3 : Hid (txnE cs la lb = ka) := Lib.hid (by rw [HE2.out, if_pos h1])
          go_wp2_with (go_at_call 21; refine (HCA.out _ HF.out).mono ?_; rintro e w1 ⟨rfl, hf⟩)
          go_ret
          exact ⟨by rw [HE3.out]; rfl, HF.out.trans0 hf⟩
        · have h1' : (ka == 0) = true := by simpa using h1
          have HE3 : Hid (txnE cs la lb = kb) := Lib.hid (by rw [HE2.out, if_neg h1])
          have hk0 : ka = 0 := by simpa using h1
          subst hk0
          go_upto_region 12 with (go_at_call 21; refine (HCA.out _ HF.out).mono ?_; rintro e w1 ⟨rfl, hf⟩)
          go_wp2_with (go_at_call 21; refine (HCB.out _ (HF.out.trans0 hf)).mono ?_; rintro e w2 ⟨rfl, hf2⟩)
          go_ret
          exact ⟨by rw [HE3.out]; rfl, (HF.out.trans0 hf).trans0 hf2⟩
      | succ g =>
        obtain ⟨gb, go, rfl⟩ := HA.out (by omega)
        obtain ⟨p, hx⟩ : ∃ p, cs[i]? = some p := ⟨_, List.getElem?_eq_getElem (by omega)⟩
        have hvr := HV.out.fr0 HF.out
        have x0 := hvr.cell0 cmpC_length i hx rfl
        have x1 := hvr.cell cmpC_length i 1 hx rfl
        have x2 := hvr.cell cmpC_length i 2 hx rfl
        have x3 := hvr.cell cmpC_length i 3 hx rfl
        have x4 := hvr.cell cmpC_length i 4 hx rfl
        have hil : (i : Int) < (cs.length : Int) := by omega
        have hcw := fun W => refWrong_calls W p (HKS.out p (List.mem_of_getElem? hx))
        unfold cmpV at hcw
        have HCW := Lib.hid hcw
        have Hx := Lib.hid hx
        have hfi : (∀ j, j < i → ∀ p, cs[j]? = some p → cmpE p = 0) → cmpE p ≠ 0 → txnE cs la lb = cmpE p := by
          intro hj hp
          rw [HE.out]
          have hff : cs.find? (fun o => cmpE o != 0) = some p := by
            rw [List.find?_eq_some_iff_getElem]
            have hil' : i < cs.length := (List.getElem?_eq_some_iff.1 hx).1
            refine ⟨by simpa using hp, i, hil', (List.getElem?_eq_some_iff.1 hx).2, fun j hji => ?_⟩
            have := hj j hji _ (List.getElem?_eq_getElem (by omega))
            simp [this]
          rw [hff]
        have HFI := Lib.hid hfi
        clear hvr hx hcw hfi HCA HCB
        generalize hcp : cmpE p = kp at *
        have HCP := Lib.hid hcp
        clear hcp
        by_cases h1 : kp ≠ 0
        · have h1' : (kp == 0) = false := by simpa using h1
          have HE3 := Lib.hid (HFI.out HJ.out h1)
          clear HFI
          go_wp2_with (go_at_call 47; refine (HCW.out _).mono ?_; rintro e w1 ⟨rfl, hf⟩)
          go_ret
          exact ⟨by rw [HE3.out]; rfl, HF.out.trans0 hf⟩
        · have h1' : (kp == 0) = true := by simpa using h1
          clear HFI
          go_wp2_with (go_at_call 47; refine (HCW.out _).mono ?_; rintro e w1 ⟨rfl, hf⟩)
          go_roundg g
          case rel => exact ⟨i + 1, by go_num, by omega, Lib.hid (fun j hj q hq => by
            by_cases hji : j = i
            · subst hji; rw [Hx.out] at hq; cases hq; rw [HCP.out]; simpa using h1
            · exact HJ.out j (by omega) q hq), Lib.hid (HF.out.trans0 hf)⟩
          case measure => omega

set_option maxHeartbeats 4000000 in
theorem txnChecks_walk (w : World) (v va vb : Value) (cs : List Cmp) (la lb : List Opr) (hv : SlR w 5 cmpC v cs) (hva : SlR w 10 opC va la) (hvb : SlR w 10 opC vb lb) :
    Calls Try.prog 3 #[.agg #[v, va, vb]] w fun e w' => e = .returned (.bool true) ∧ Fr No w w' := by
  have hfw := fun W (h : Fr No w W) => fewTxn_calls W v va vb cs la lb (hv.fr0 h) (hva.fr0 h) (hvb.fr0 h)
  have hfew : fewTxn cs la lb = true → cs.length ≤ 30 ∧ la.length ≤ 30 ∧ lb.length ≤ 30 ∧ (∀ c ∈ cs, c.key.size ≤ 3000) ∧ (∀ o ∈ la, o.rg.key.size ≤ 3000) ∧ (∀ o ∈ lb, o.rg.key.size ≤ 3000) := by
    intro h
    unfold fewTxn fewCals fewCal fewOps fewCmp fewOp at h
    simp only [Bool.and_eq_true, decide_eq_true_eq, List.all_eq_true, List.mem_cons, List.not_mem_nil, or_false, forall_eq_or_imp, forall_eq] at h
    obtain ⟨⟨h1, _, ha, hb⟩, hc⟩ := h
    exact ⟨h1, ha.1.1.1.1.1, hb.1.1.1.1.1, fun c h => (hc c h).1, fun o h => (ha.1.1.1.1.2 o h).1.1, fun o h => (hb.1.1.1.1.2 o h).1.1⟩
  obtain ⟨a, cap, rfl, hc1, hc2, ha⟩ := hv.shape
  obtain ⟨aa, acap, rfl, _, _, _⟩ := hva.shape
  obtain ⟨ab, bcap, rfl, _, _, _⟩ := hvb.shape
  have HFW := Lib.hid hfw; clear hfw
  cases hfb : fewTxn cs la lb
  · rw [hfb] at HFW
    clear hfew hv hva hvb hfb
    go_enter Try.func3, Try.ntmps3
    go_wp2_with (first
      | (go_at_call 12; refine (HFW.out _ ((Fr.refl No w).alloc _)).mono ?_; rintro e w1 ⟨rfl, hf1⟩)
      | (go_at_call 13; refine (awake12_calls _).mono ?_; rintro e w2 ⟨rfl, hf2⟩))
    go_ret
    exact ⟨rfl, (((Fr.refl No w).alloc _).trans0 hf1).trans0 hf2⟩
  · rw [hfb] at HFW
    obtain ⟨n1, n2, n3, k1, k2, k3⟩ := hfew hfb
    have hca := fun W (h : Fr No w W) => TxnCheck_calls W _ _ _ cs la lb (hv.fr0 h) (hva.fr0 h) (hvb.fr0 h) (by omega) (by omega) (by omega) (fun c h => by have := k1 c h; omega) (fun o h => by have := k2 o h; omega) (fun o h => by have := k3 o h; omega)
    have hcb := fun W (h : Fr No w W) => refTxn_calls W _ _ _ cs la lb (hv.fr0 h) (hva.fr0 h) (hvb.fr0 h) (by omega) (by omega) (by omega) (fun c h => by have := k1 c h; omega) (fun o h => by have := k2 o h; omega) (fun o h => by have := k3 o h; omega)
    have HCA := Lib.hid hca
    have HCB := Lib.hid hcb
    clear hca hcb hfew hfb hv hva hvb k1 k2 k3
    generalize txnE cs la lb = k at *
    have hkk : (k == k) = true := by simp
    go_enter Try.func3, Try.ntmps3
    go_wp2_with (first
      | (go_at_call 12; refine (HFW.out _ ((Fr.refl No w).alloc _)).mono ?_; rintro e w1 ⟨rfl, hf1⟩))
    have hfA : Fr No w w1 := ((Fr.refl No w).alloc _).trans0 hf1
    have hbA : w1.heap[w.heap.size]? = some (.cells #[.slice a cs.length cap, .slice aa la.length acap, .slice ab lb.length bcap] 25 (0, 0)) := hf1.heap (alloc_at _ _ _ rfl) id
    have hcell : ∀ W, Fr No w1 W → W.cell? ⟨w.heap.size, 0, none⟩ = some (.slice a cs.length cap) ∧ W.cell? ⟨w.heap.size, 1, none⟩ = some (.slice aa la.length acap) ∧ W.cell? ⟨w.heap.size, 2, none⟩ = some (.slice ab lb.length bcap) := by
      intro W hW
      have h := hW.heap hbA id
      simp [World.cell?, h]
    have lz := heap_lt hbA
    have HCELL := Lib.hid hcell
    have HFA := Lib.hid hfA
    clear hcell hbA hfA hf1 HFW
    go_region_held3 (fun W => W.cell? ⟨w.heap.size, 0, none⟩ = some (.slice a cs.length cap) ∧ W.cell? ⟨w.heap.size, 1, none⟩ = some (.slice aa la.length acap) ∧ W.cell? ⟨w.heap.size, 2, none⟩ = some (.slice ab lb.length bcap))
      (first | ((refine HCELL.out _ ?_); (repeat (first | with_reducible exact Fr.refl _ _ | with_reducible refine Fr.drew ?_ | (with_reducible refine Fr.trans0 ?_ (by with_reducible assumption)))); done))
      (first
        | (go_at_call 14; refine (HCA.out _ (HFA.out.trans0 (by (repeat (first | with_reducible exact Fr.refl _ _ | with_reducible refine Fr.drew ?_ | (with_reducible refine Fr.trans0 ?_ (by with_reducible assumption)))); done))).mono ?_; rintro e w2 ⟨rfl, hf2⟩)
        | (go_at_call 15; refine (HCB.out _ (HFA.out.trans0 (by (repeat (first | with_reducible exact Fr.refl _ _ | with_reducible refine Fr.drew ?_ | (with_reducible refine Fr.trans0 ?_ (by with_reducible assumption)))); done))).mono ?_; rintro e w3 ⟨rfl, hf3⟩)
        | (go_at_call 13; refine (awake12_calls _).mono ?_; rintro e w4 ⟨rfl, hf4⟩))
    all_goals
      go_wp2
      go_ret
      exact ⟨rfl, HFA.out.trans0 (by (repeat (first | with_reducible exact Fr.refl _ _ | with_reducible refine Fr.drew ?_ | (with_reducible refine Fr.trans0 ?_ (by with_reducible assumption)))); done)⟩
end Go.Proofs.Ythljnnjpmdgkoaa
