/- The program's txn.Run: what a transaction does. The conditions: histories are small, the tree has room. -/
import Derived.Test.YthljnnjpmdgkoaaHolds
import Derived.Test.YthljnnjpmdgkoaaApply
namespace Go.Proofs.Ythljnnjpmdgkoaa
open Go Go.Proofs Go.RowKit
set_option maxRecDepth 100000

def allB (S : St) (cs : List Cmp) : Bool := cs.all (holdsB S)
def branch (S : St) (cs : List Cmp) (la lb : List Opr) : List Opr := if allB S cs then la else lb

theorem Run_nil (w : World) (v va vb : Value) : Calls Try.prog 17 #[.pointer none, v, va, vb] w fun e w' => e = .returned (.tuple #[.bool false, .slice none 0 0, .slice none 0 0, .int .i64 2]) ∧ w = w' := by
  go_enter Try.func17, Try.ntmps17
  go_wp2
  (try simp only [Exit.inBlock, Exit.then]); refine bodyPost_ret (results_tmp4 rfl _ _ _) rfl ?_
  exact ⟨rfl, rfl⟩

theorem txnE_zero {cs : List Cmp} {la lb : List Opr} (h : txnE cs la lb = 0) : cs.length ≤ 16 ∧ (∀ c ∈ cs, cmpE c = 0) ∧ checkE la = 0 ∧ checkE lb = 0 := by
  unfold txnE at h
  by_cases h1 : 16 < cs.length
  · rw [if_pos h1] at h; cases h
  · rw [if_neg h1] at h
    cases hf : cs.find? (fun c => cmpE c != 0) with
    | some c =>
      rw [hf] at h
      have := List.find?_some hf
      simp at this
      exact absurd h this
    | none =>
      rw [hf] at h
      dsimp only at h
      refine ⟨by omega, fun c hc => by simpa using List.find?_eq_none.1 hf c hc, ?_⟩
      by_cases h2 : checkE la ≠ 0
      · rw [if_pos h2] at h; exact absurd h h2
      · rw [if_neg h2] at h
        exact ⟨by simpa using h2, h⟩

set_option maxHeartbeats 4000000 in
theorem Run_calls {TA : TreeRel} {N : Nat} (hT : TreeOk TA N) {n : Nat} (hn : n ≤ 1099511627) (w : World) (s : Nat) (S : St) (F : Nat → Prop) (hS : StoreAt TA w s S F) (hok : StOk n S) (hN : S.T.length ≤ 1099511627) (hr0 : 0 ≤ S.rev) (hr : S.rev < top)
    (v va vb : Value) (cs : List Cmp) (la lb : List Opr) (hv : SlR w 5 cmpC v cs) (hva : SlR w 10 opC va la) (hvb : SlR w 10 opC vb lb)
    (haF : ∀ b, va.ownBlock = some b → ¬ F b) (hbF : ∀ b, vb.ownBlock = some b → ¬ F b) (hla : la.length ≤ 1099511627) (hlb : lb.length ≤ 1099511627)
    (hks : ∀ c ∈ cs, c.key.size ≤ 1099511627776) (hka : ∀ o ∈ la, o.rg.key.size ≤ 1099511627776) (hkb : ∀ o ∈ lb, o.rg.key.size ≤ 1099511627776) (hE : txnE cs la lb = 0) (hw : whenAll S (branch S cs la lb) = 0)
    (hrun : ∀ i o, (branch S cs la lb)[i]? = some o → StepOk N n (S.rev + 1) (runR (S.rev + 1) ⟨S, [], []⟩ ((branch S cs la lb).take i)) o) :
    Calls Try.prog 17 #[.pointer (some ⟨s, 0, none⟩), v, va, vb] w fun e w' => ∃ av ev, e = .returned (.tuple #[.bool (allB S cs), av, ev, .int .i64 0]) ∧ ∃ F' Z, StoreAt TA w' s (applyS S (branch S cs la lb)) F' ∧ AnsR w' av Z ∧
      Z.map (·.1) = (runR (S.rev + 1) ⟨S, [], []⟩ (branch S cs la lb)).A ∧ SlF w' 73 13 evC ev (runR (S.rev + 1) ⟨S, [], []⟩ (branch S cs la lb)).E ∧ Fr F w w' ∧ (∀ b, F' b → F b ∨ w.heap.size ≤ b) ∧
      (∀ b, ev.ownBlock = some b → w.heap.size ≤ b ∧ ¬ F' b) ∧ (∀ b, ansF av Z b → w.heap.size ≤ b ∧ ¬ F' b) := by
  obtain ⟨h16, hcz, hca0, hcb0⟩ := txnE_zero hE
  have hch := fun W (h : Fr No w W) => TxnCheck_calls W v va vb cs la lb (hv.fr0 h) (hva.fr0 h) (hvb.fr0 h) (by omega) hla hlb hks hka hkb
  rw [hE] at hch
  have hap := fun W (h : Fr No w W) (vo : Value) (ho : SlR W 10 opC vo (branch S cs la lb)) (hoF : ∀ b, vo.ownBlock = some b → ¬ F b) => apply_runs hT hn W s S F (hS.fr0 hT h) vo (branch S cs la lb) ho hoF
    (by unfold branch; split <;> assumption) (by unfold branch; split <;> assumption) (by unfold top; omega) hr (by unfold branch; split <;> assumption) hw hrun
  have hho := fun W (h : Fr No w W) c (hc : c ∈ cs) => Holds_calls hT hn W s S F (hS.fr0 hT h) hok hN hr0 c (hks c hc) (hcz c hc)
  obtain ⟨a, cap, rfl, hc1, hc2, ha⟩ := hv.shape
  have HV := Lib.hid hv
  have HA := Lib.hid ha
  have HCH := Lib.hid hch
  have HAP := Lib.hid hap
  have HHO := Lib.hid hho
  have HVA := Lib.hid hva
  have HVB := Lib.hid hvb
  have HAF := Lib.hid haF
  have HBF := Lib.hid hbF
  have hbr : branch S cs la lb = if allB S cs then la else lb := rfl
  have HBR := Lib.hid hbr
  clear hv ha hch hap hho hva hvb haF hbF hE hw hrun hks hka hkb hcz hca0 hcb0 hbr hok hS
  go_enter Try.func17, Try.ntmps17
  go_wp2_with (go_at_call 14; refine (HCH.out _ (Fr.refl No w)).mono ?_; rintro e w1 ⟨rfl, hf1⟩)
  go_loopg [32, 13, 14] cs.length (fun g s32 s13 s14 wr => ∃ (i : Nat) (b : Bool), s32 = .int .i64 i ∧ i + g = cs.length ∧ s13 = .bool b ∧ s14 = (if b then va else vb) ∧ b = allB S (cs.take i) ∧ Hid (Fr No w wr))
  case atStart => exact ⟨0, true, rfl, by simp, rfl, rfl, rfl, Lib.hid hf1⟩
  case round =>
    obtain ⟨i, b, rfl, hi, rfl, rfl, hb, HF⟩ := hrel
    cases gk with
    | zero =>
      have hil : ¬ (i : Int) < (cs.length : Int) := by omega
      have hti : cs.take i = cs := List.take_of_length_le (by omega)
      rw [hti] at hb
      have HB := Lib.hid hb
      clear hb
      have hvo : SlR wr 10 opC (if b then va else vb) (branch S cs la lb) := by
        rw [HBR.out, ← HB.out]
        cases b
        · exact HVB.out.fr0 HF.out
        · exact HVA.out.fr0 HF.out
      have hoF : ∀ k, (if b then va else vb).ownBlock = some k → ¬ F k := by
        cases b
        · exact HBF.out
        · exact HAF.out
      have HAPP := Lib.hid (HAP.out wr HF.out _ hvo hoF)
      clear hvo hoF
      generalize (if b then va else vb) = vo at *
      go_wp2_with (go_at_call 41; refine HAPP.out.mono ?_; rintro e w2 ⟨av, ev, rfl, F', Z, h1, h2, h3, h4, h5, h6, h7, h8⟩)
      (try simp only [Exit.inBlock, Exit.then]); refine bodyPost_ret (results_tmp4 rfl _ _ _) rfl ?_
      have hsz := HF.out.size
      refine ⟨av, ev, by rw [← HB.out]; rfl, F', Z, h1, h2, h3, h4, (HF.out.mono fun _ _ h => h.elim).trans h5 fun _ _ h => h, fun k hk => ?_, fun k hk => ?_, fun k hk => ?_⟩
      · rcases h6 k hk with h | h
        · exact .inl h
        · exact .inr (by omega)
      · have := h7 k hk; exact ⟨by omega, this.2⟩
      · have := h8 k hk; exact ⟨by omega, this.2⟩
    | succ g =>
      obtain ⟨gb, go, rfl⟩ := HA.out (by omega)
      obtain ⟨p, hx⟩ : ∃ p, cs[i]? = some p := ⟨_, List.getElem?_eq_getElem (by omega)⟩
      have hvr := HV.out.fr0 HF.out
      have x0 := hvr.cell0 cmpC_length i hx rfl
      have x1 := hvr.cell cmpC_length i 1 hx rfl
      have x2 := hvr.cell cmpC_length i 2 hx rfl
      have x3 := hvr.cell cmpC_length i 3 hx rfl
      have x4 := hvr.cell cmpC_length i 4 hx rfl
      have hil : (i : Int) < (cs.length : Int) := by omega
      have hcw := fun W (h : Fr No w W) => HHO.out W h p (List.mem_of_getElem? hx)
      unfold cmpV at hcw
      have HCW := Lib.hid hcw
      have hnx : allB S (cs.take (i + 1)) = (b && holdsB S p) := by
        rw [hb]
        unfold allB
        rw [List.take_add_one, hx, List.all_append]
        simp
      have HNX := Lib.hid hnx
      clear hvr hx hcw hnx hb
      generalize holdsB S p = hp at *
      cases hp
      · go_wp2_with (go_at_call 16; refine (HCW.out _ (HF.out.alloc _)).mono ?_; rintro e w2 ⟨rfl, hf2⟩)
        go_roundg g
        case rel => exact ⟨i + 1, false, by go_num, by omega, rfl, rfl, by rw [HNX.out]; simp, Lib.hid ((HF.out.alloc _).trans0 hf2)⟩
        case measure => omega
      · cases b
        · go_wp2_with (go_at_call 16; refine (HCW.out _ (HF.out.alloc _)).mono ?_; rintro e w2 ⟨rfl, hf2⟩)
          go_roundg g
          case rel => exact ⟨i + 1, false, by go_num, by omega, rfl, rfl, by rw [HNX.out]; simp, Lib.hid ((HF.out.alloc _).trans0 hf2)⟩
          case measure => omega
        · go_wp2_with (go_at_call 16; refine (HCW.out _ (HF.out.alloc _)).mono ?_; rintro e w2 ⟨rfl, hf2⟩)
          go_roundg g
          case rel => exact ⟨i + 1, true, by go_num, by omega, rfl, rfl, by rw [HNX.out]; simp, Lib.hid ((HF.out.alloc _).trans0 hf2)⟩
          case measure => omega
end Go.Proofs.Ythljnnjpmdgkoaa
