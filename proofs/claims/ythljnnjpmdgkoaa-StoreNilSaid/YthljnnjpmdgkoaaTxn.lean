/- What is wrong with a compare and with a transaction: the program's txn.wrong and txn.Check. The condition: keys are not too long. -/
import Derived.Test.YthljnnjpmdgkoaaCheck
import Derived.Deep.DeepCutAuto
namespace Go.Proofs.Ythljnnjpmdgkoaa
open Go Go.Proofs Go.RowKit
set_option maxRecDepth 100000

structure Cmp where
  key : ByteArray
  what : Int
  how : Int
  number : Int
  value : ByteArray
def cmpV (c : Cmp) : Value := .agg #[.string c.key, .int .i64 c.what, .int .i64 c.how, .int .i64 c.number, .string c.value]
def cmpC (c : Cmp) : List Value := [.string c.key, .int .i64 c.what, .int .i64 c.how, .int .i64 c.number, .string c.value]
theorem cmpC_length (c : Cmp) : (cmpC c).length = 5 := rfl

/-- What is wrong with a compare. -/
def cmpE (c : Cmp) : Int :=
  if keyE c.key ≠ 0 then keyE c.key else if c.what < 1 ∨ 5 < c.what then 1 else if 1024 < c.value.size then 31
  else if (c.what = 4 ∧ c.number ≠ 0) ∨ (c.what ≠ 4 ∧ c.value.toList ≠ []) then 1 else 0

theorem cmpWrong_calls (w : World) (c : Cmp) (hs : c.key.size ≤ 1099511627776) : Calls Try.prog 46 #[cmpV c] w fun e w' => e = .returned (.int .i64 (cmpE c)) ∧ Fr No w w' := by
  have hk := fun W => Key_calls W c.key hs
  obtain ⟨c1, c2, c3, c4, c5⟩ := c
  unfold cmpE cmpV
  dsimp only at *
  generalize keyE c1 = k at *
  clear hs
  by_cases h1 : k ≠ 0
  · have h1' : (k == 0) = false := by simpa using h1
    rw [if_pos h1]
    go_enter Try.func46, Try.ntmps46
    go_wp2_with (go_at_call 58; refine (hk _).mono ?_; rintro e w1 ⟨rfl, hf⟩)
    go_ret
    exact ⟨rfl, ((Fr.refl No w).alloc _).trans0 hf⟩
  · have h1' : (k == 0) = true := by simpa using h1
    rw [if_neg h1]
    by_cases h2 : c2 < 1
    · rw [if_pos (.inl h2)]
      go_enter Try.func46, Try.ntmps46
      go_wp2_with (go_at_call 58; refine (hk _).mono ?_; rintro e w1 ⟨rfl, hf⟩
                   have hb : w1.heap[w.heap.size]? = some (.cells #[.string c1, .int .i64 c2, .int .i64 c3, .int .i64 c4, .string c5] 32 (0, 0)) := hf.heap (alloc_at _ _ _ rfl) id
                   have x1 : w1.cell? ⟨w.heap.size, 1, none⟩ = some (.int .i64 c2) := by simp [World.cell?, hb])
      go_ret
      exact ⟨rfl, ((Fr.refl No w).alloc _).trans0 hf⟩
    · by_cases h3 : 5 < c2
      · rw [if_pos (.inr h3)]
        go_enter Try.func46, Try.ntmps46
        go_wp2_with (go_at_call 58; refine (hk _).mono ?_; rintro e w1 ⟨rfl, hf⟩
                     have hb : w1.heap[w.heap.size]? = some (.cells #[.string c1, .int .i64 c2, .int .i64 c3, .int .i64 c4, .string c5] 32 (0, 0)) := hf.heap (alloc_at _ _ _ rfl) id
                     have x1 : w1.cell? ⟨w.heap.size, 1, none⟩ = some (.int .i64 c2) := by simp [World.cell?, hb])
        go_ret
        exact ⟨rfl, ((Fr.refl No w).alloc _).trans0 hf⟩
      · rw [if_neg (c := c2 < 1 ∨ 5 < c2) (by omega)]
        by_cases h4 : 1024 < c5.size
        · have h4' : (1024 : Int) < (c5.size : Int) := by omega
          rw [if_pos h4]
          go_enter Try.func46, Try.ntmps46
          go_wp2_with (go_at_call 58; refine (hk _).mono ?_; rintro e w1 ⟨rfl, hf⟩
                       have hb : w1.heap[w.heap.size]? = some (.cells #[.string c1, .int .i64 c2, .int .i64 c3, .int .i64 c4, .string c5] 32 (0, 0)) := hf.heap (alloc_at _ _ _ rfl) id
                       have x1 : w1.cell? ⟨w.heap.size, 1, none⟩ = some (.int .i64 c2) := by simp [World.cell?, hb]
                       have x4 : w1.cell? ⟨w.heap.size, 4, none⟩ = some (.string c5) := by simp [World.cell?, hb])
          go_ret
          exact ⟨rfl, ((Fr.refl No w).alloc _).trans0 hf⟩
        · have h4' : ¬ (1024 : Int) < (c5.size : Int) := by omega
          rw [if_neg h4]
          by_cases h5 : c2 = 4
          · subst h5
            by_cases h6 : c4 = 0
            · subst h6
              rw [if_neg (by simp)]
              go_enter Try.func46, Try.ntmps46
              go_wp2_with (go_at_call 58; refine (hk _).mono ?_; rintro e w1 ⟨rfl, hf⟩
                           have hb : w1.heap[w.heap.size]? = some (.cells #[.string c1, .int .i64 4, .int .i64 c3, .int .i64 0, .string c5] 32 (0, 0)) := hf.heap (alloc_at _ _ _ rfl) id
                           have x1 : w1.cell? ⟨w.heap.size, 1, none⟩ = some (.int .i64 4) := by simp [World.cell?, hb]
                           have x3 : w1.cell? ⟨w.heap.size, 3, none⟩ = some (.int .i64 0) := by simp [World.cell?, hb]
                           have x4 : w1.cell? ⟨w.heap.size, 4, none⟩ = some (.string c5) := by simp [World.cell?, hb])
              go_ret
              exact ⟨rfl, ((Fr.refl No w).alloc _).trans0 hf⟩
            · have h6' : (c4 == 0) = false := by simpa using h6
              rw [if_pos (.inl ⟨rfl, h6⟩)]
              go_enter Try.func46, Try.ntmps46
              go_wp2_with (go_at_call 58; refine (hk _).mono ?_; rintro e w1 ⟨rfl, hf⟩
                           have hb : w1.heap[w.heap.size]? = some (.cells #[.string c1, .int .i64 4, .int .i64 c3, .int .i64 c4, .string c5] 32 (0, 0)) := hf.heap (alloc_at _ _ _ rfl) id
                           have x1 : w1.cell? ⟨w.heap.size, 1, none⟩ = some (.int .i64 4) := by simp [World.cell?, hb]
                           have x3 : w1.cell? ⟨w.heap.size, 3, none⟩ = some (.int .i64 c4) := by simp [World.cell?, hb]
                           have x4 : w1.cell? ⟨w.heap.size, 4, none⟩ = some (.string c5) := by simp [World.cell?, hb])
              go_ret
              exact ⟨rfl, ((Fr.refl No w).alloc _).trans0 hf⟩
          · have h5' : (c2 == 4) = false := by simpa using h5
            by_cases h6 : c5.toList = []
            · have h6' : c5.toList.isEmpty = true := by rw [h6]; rfl
              have h6'' : (c5.toList == []) = true := by rw [h6]; rfl
              rw [if_neg (by simp [h5, h6])]
              go_enter Try.func46, Try.ntmps46
              go_wp2_with (go_at_call 58; refine (hk _).mono ?_; rintro e w1 ⟨rfl, hf⟩
                           have hb : w1.heap[w.heap.size]? = some (.cells #[.string c1, .int .i64 c2, .int .i64 c3, .int .i64 c4, .string c5] 32 (0, 0)) := hf.heap (alloc_at _ _ _ rfl) id
                           have x1 : w1.cell? ⟨w.heap.size, 1, none⟩ = some (.int .i64 c2) := by simp [World.cell?, hb]
                           have x3 : w1.cell? ⟨w.heap.size, 3, none⟩ = some (.int .i64 c4) := by simp [World.cell?, hb]
                           have x4 : w1.cell? ⟨w.heap.size, 4, none⟩ = some (.string c5) := by simp [World.cell?, hb])
              go_ret
              exact ⟨rfl, ((Fr.refl No w).alloc _).trans0 hf⟩
            · have h6' : c5.toList.isEmpty = false := by simpa using h6
              have h6'' : (c5.toList == []) = false := by simpa using h6
              rw [if_pos (.inr ⟨h5, h6⟩)]
              go_enter Try.func46, Try.ntmps46
              go_wp2_with (go_at_call 58; refine (hk _).mono ?_; rintro e w1 ⟨rfl, hf⟩
                           have hb : w1.heap[w.heap.size]? = some (.cells #[.string c1, .int .i64 c2, .int .i64 c3, .int .i64 c4, .string c5] 32 (0, 0)) := hf.heap (alloc_at _ _ _ rfl) id
                           have x1 : w1.cell? ⟨w.heap.size, 1, none⟩ = some (.int .i64 c2) := by simp [World.cell?, hb]
                           have x3 : w1.cell? ⟨w.heap.size, 3, none⟩ = some (.int .i64 c4) := by simp [World.cell?, hb]
                           have x4 : w1.cell? ⟨w.heap.size, 4, none⟩ = some (.string c5) := by simp [World.cell?, hb])
              go_ret
              exact ⟨rfl, ((Fr.refl No w).alloc _).trans0 hf⟩

/-- What is wrong with a transaction. -/
def txnE (cs : List Cmp) (a b : List Opr) : Int := if 16 < cs.length then 31 else match cs.find? fun c => cmpE c != 0 with
  | some c => cmpE c
  | none => if checkE a ≠ 0 then checkE a else checkE b

set_option maxHeartbeats 4000000 in
theorem TxnCheck_calls (w : World) (v va vb : Value) (cs : List Cmp) (la lb : List Opr) (hv : SlR w 5 cmpC v cs) (hva : SlR w 10 opC va la) (hvb : SlR w 10 opC vb lb) (hl : cs.length ≤ 1099511627) (hla : la.length ≤ 1099511627) (hlb : lb.length ≤ 1099511627)
    (hks : ∀ c ∈ cs, c.key.size ≤ 1099511627776) (hka : ∀ o ∈ la, o.rg.key.size ≤ 1099511627776) (hkb : ∀ o ∈ lb, o.rg.key.size ≤ 1099511627776) :
    Calls Try.prog 14 #[v, va, vb] w fun e w' => e = .returned (.int .i64 (txnE cs la lb)) ∧ Fr No w w' := by
  have hca := fun W (h : Fr No w W) => Check_calls W va la (hva.fr0 h) hla hka
  have hcb := fun W (h : Fr No w W) => Check_calls W vb lb (hvb.fr0 h) hlb hkb
  obtain ⟨a, cap, rfl, hc1, hc2, ha⟩ := hv.shape
  have HV := Lib.hid hv; clear hv
  have HA := Lib.hid ha; clear ha
  have HKS := Lib.hid hks; clear hks
  have HCA := Lib.hid hca; clear hca
  have HCB := Lib.hid hcb; clear hcb
  by_cases h16 : 16 < cs.length
  · have h16' : (16 : Int) < (cs.length : Int) := by omega
    have : txnE cs la lb = 31 := by unfold txnE; rw [if_pos h16]
    rw [this]
    go_enter Try.func14, Try.ntmps14
    go_wp2
    go_ret
    exact ⟨rfl, Fr.refl No w⟩
  · have h16' : ¬ (16 : Int) < (cs.length : Int) := by omega
    have hE : txnE cs la lb = match cs.find? fun c => cmpE c != 0 with
      | some c => cmpE c
      | none => if checkE la ≠ 0 then checkE la else checkE lb := by unfold txnE; rw [if_neg h16]
    have HE := Lib.hid hE; clear hE
    go_enter Try.func14, Try.ntmps14
    go_wp2
    go_loopg [16] cs.length (fun g s16 wr => ∃ i : Nat, s16 = .int .i64 i ∧ i + g = cs.length ∧ Hid (∀ j, j < i → ∀ p, cs[j]? = some p → cmpE p = 0) ∧ Hid (Fr No w wr))
    case atStart => exact ⟨0, rfl, by simp, Lib.hid (by simp), Lib.hid (Fr.refl No w)⟩
    case round =>
      obtain ⟨i, rfl, hi, HJ, HF⟩ := hrel
      cases gk with
      | zero =>
        have hil : ¬ (i : Int) < (cs.length : Int) := by omega
        have hE2 : txnE cs la lb = if checkE la ≠ 0 then checkE la else checkE lb := by
          rw [HE.out]
          have : cs.find? (fun o => cmpE o != 0) = none := by
            rw [List.find?_eq_none]
            intro x hx
            obtain ⟨j, hj, rfl⟩ := List.getElem_of_mem hx
            have := HJ.out j (by omega) _ (List.getElem?_eq_getElem hj)
            simp [this]
          rw [this]
        have HE2 := Lib.hid hE2
        clear hE2 HE HJ
        generalize checkE la = ka at *
        generalize checkE lb = kb at *
        by_cases h1 : ka ≠ 0
        · have h1' : (ka == 0) = false := by simpa using h1
          have HE3 : Hid (txnE cs la lb = ka) := Lib.hid (by rw [HE2.out, if_pos h1])
          go_wp2_with (go_at_call 20; refine (HCA.out _ HF.out).mono ?_; rintro e w1 ⟨rfl, hf⟩)
          go_ret
          exact ⟨by rw [HE3.out]; rfl, HF.out.trans0 hf⟩
        · have h1' : (ka == 0) = true := by simpa using h1
          have HE3 : Hid (txnE cs la lb = kb) := Lib.hid (by rw [HE2.out, if_neg h1])
          have hk0 : ka = 0 := by simpa using h1
          subst hk0
          go_upto_region 13 with (go_at_call 20; refine (HCA.out _ HF.out).mono ?_; rintro e w1 ⟨rfl, hf⟩)
          go_wp2_with (go_at_call 20; refine (HCB.out _ (HF.out.trans0 hf)).mono ?_; rintro e w2 ⟨rfl, hf2⟩)
          go_ret
          exact ⟨by rw [HE3.out]; rfl, (HF.out.trans0 hf).trans0 hf2⟩
      | succ g =>
        obtain ⟨gb, go, rfl⟩ := HA.out (by omega)
        obtain ⟨p, hx⟩ : ∃ p, cs[i]? = some p := ⟨_, List.getElem?_eq_getElem (by omega)⟩
        have hvr := HV.out.fr0 HF.out
        have x0 := hvr.cell0 cmpC_length i hx rfl
        have x1 := hvr.cell cmpC_length i 1 hx rfl
        have x2 := hvr.cell cmpC_length i 2 hx rfl
        have x3 := hvr.cell cmpC_length i 3 hx rfl
        have x4 := hvr.cell cmpC_length i 4 hx rfl
        have hil : (i : Int) < (cs.length : Int) := by omega
        have hcw := fun W => cmpWrong_calls W p (HKS.out p (List.mem_of_getElem? hx))
        unfold cmpV at hcw
        have HCW := Lib.hid hcw
        have Hx := Lib.hid hx
        have hfi : (∀ j, j < i → ∀ p, cs[j]? = some p → cmpE p = 0) → cmpE p ≠ 0 → txnE cs la lb = cmpE p := by
          intro hj hp
          rw [HE.out]
          have hff : cs.find? (fun o => cmpE o != 0) = some p := by
            rw [List.find?_eq_some_iff_getElem]
            have hil' : i < cs.length := (List.getElem?_eq_some_iff.1 hx).1
            refine ⟨by simpa using hp, i, hil', (List.getElem?_eq_some_iff.1 hx).2, fun j hji => ?_⟩
            have := hj j hji _ (List.getElem?_eq_getElem (by omega))
            simp [this]
          rw [hff]
        have HFI := Lib.hid hfi
        clear hvr hx hcw hfi HCA HCB
        generalize hcp : cmpE p = kp at *
        have HCP := Lib.hid hcp
        clear hcp
        by_cases h1 : kp ≠ 0
        · have h1' : (kp == 0) = false := by simpa using h1
          have HE3 := Lib.hid (HFI.out HJ.out h1)
          clear HFI
          go_wp2_with (go_at_call 46; refine (HCW.out _).mono ?_; rintro e w1 ⟨rfl, hf⟩)
          go_ret
          exact ⟨by rw [HE3.out]; rfl, (HF.out.alloc _).trans0 hf⟩
        · have h1' : (kp == 0) = true := by simpa using h1
          clear HFI
          go_wp2_with (go_at_call 46; refine (HCW.out _).mono ?_; rintro e w1 ⟨rfl, hf⟩)
          go_roundg g
          case rel => exact ⟨i + 1, by go_num, by omega, Lib.hid (fun j hj q hq => by
            by_cases hji : j = i
            · subst hji; rw [Hx.out] at hq; cases hq; rw [HCP.out]; simpa using h1
            · exact HJ.out j (by omega) q hq), Lib.hid ((HF.out.alloc _).trans0 hf)⟩
          case measure => omega
end Go.Proofs.Ythljnnjpmdgkoaa
