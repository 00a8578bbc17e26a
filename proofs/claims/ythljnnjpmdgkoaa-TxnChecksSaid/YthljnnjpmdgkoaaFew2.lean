/- Whether a transaction is not too much: the statements' own Few. -/
import Derived.Test.YthljnnjpmdgkoaaFew
namespace Go.Proofs.Ythljnnjpmdgkoaa
open Go Go.Proofs Go.RowKit
set_option maxRecDepth 100000

def rgz : Rg := ⟨ByteArray.empty, ByteArray.empty, 0, 0, false, false, false⟩
def calO (v : Value) : Cal := ⟨0, v, rgz, 0, 0, .slice none 0 0⟩
def fewCmp (c : Cmp) : Bool := decide (c.key.size ≤ 3000) && decide (c.value.size ≤ 3000)
def fewTxn (cs : List Cmp) (la lb : List Opr) : Bool := decide (cs.length ≤ 30) && fewCals [(calO (.slice none 0 0), la, []), (calO (.slice none 0 0), lb, [])] && cs.all fewCmp

theorem calR_two {W : World} {b : Nat} {va vb : Value} {la lb : List Opr} (h : W.heap[b]? = some (.cells ((calC (calO va, la, [])) ++ (calC (calO vb, lb, []))).toArray 64 (0, 0))) (ha : SlR W 10 opC va la) (hb : SlR W 10 opC vb lb) :
    CalR W (.slice (some ⟨b, 0, none⟩) 2 2) [(calO va, la, []), (calO vb, lb, [])] := by
  have two : ∀ (i : Nat) (x : Cal × List Opr × List ByteArray), [(calO va, la, []), (calO vb, lb, [])][i]? = some x → (i = 0 ∧ x = (calO va, la, [])) ∨ (i = 1 ∧ x = (calO vb, lb, [])) := by
    intro i x hx
    match i, hx with
    | 0, hx => left; simp at hx; exact ⟨rfl, hx.symm⟩
    | 1, hx => right; simp at hx; exact ⟨rfl, hx.symm⟩
    | i + 2, hx => simp at hx
  refine ⟨⟨_, 2, rfl, by simp, by decide, fun _ => ⟨b, 0, rfl, fun i x hx j u hu => ?_⟩⟩, fun i q hq => ?_, fun i q hq => ?_⟩
  · unfold World.cell?
    simp only [h, Option.isSome_none, Bool.false_eq_true, if_false]
    rcases two i x hx with ⟨rfl, rfl⟩ | ⟨rfl, rfl⟩
    · have hj : j < 12 := (List.getElem?_eq_some_iff.1 hu).1
      simp only [Nat.zero_mul, Nat.zero_add, List.getElem?_toArray]
      rw [List.getElem?_append_left (by exact hj)]
      exact hu
    · have hj : j < 12 := (List.getElem?_eq_some_iff.1 hu).1
      simp only [Nat.one_mul, Nat.zero_add, List.getElem?_toArray]
      rw [List.getElem?_append_right (by rw [calC_length]; omega), calC_length, Nat.add_sub_cancel_left]
      exact hu
  · rcases two i q hq with ⟨rfl, rfl⟩ | ⟨rfl, rfl⟩
    · exact ha
    · exact hb
  · rcases two i q hq with ⟨rfl, rfl⟩ | ⟨rfl, rfl⟩
    · exact SlR.nil _ _ _
    · exact SlR.nil _ _ _

theorem fewCals_two (va vb : Value) (la lb : List Opr) : fewCals [(calO va, la, []), (calO vb, lb, [])] = fewCals [(calO (.slice none 0 0), la, []), (calO (.slice none 0 0), lb, [])] := rfl

set_option maxHeartbeats 2000000 in
theorem fewTxn_calls (w : World) (v va vb : Value) (cs : List Cmp) (la lb : List Opr) (hv : SlR w 5 cmpC v cs) (hva : SlR w 10 opC va la) (hvb : SlR w 10 opC vb lb) :
    Calls Try.prog 12 #[.agg #[v, va, vb]] w fun e w' => e = .returned (.bool (fewTxn cs la lb)) ∧ Fr No w w' := by
  obtain ⟨a, cap, rfl, hc1, hc2, ha⟩ := hv.shape
  obtain ⟨aa, acap, rfl, _, _, _⟩ := hva.shape
  obtain ⟨ab, bcap, rfl, _, _, _⟩ := hvb.shape
  have HV := Lib.hid hv; clear hv
  have HA := Lib.hid ha; clear ha
  have HVA := Lib.hid hva; clear hva
  have HVB := Lib.hid hvb; clear hvb
  by_cases h30 : 30 < cs.length
  · have h30' : (30 : Int) < (cs.length : Int) := by omega
    have : fewTxn cs la lb = false := by unfold fewTxn; simp; omega
    rw [this]
    go_enter Try.func12, Try.ntmps12
    go_wp2
    go_ret
    exact ⟨rfl, (Fr.refl No w).alloc _⟩
  · have h30' : ¬ (30 : Int) < (cs.length : Int) := by omega
    have hE : fewTxn cs la lb = (fewCals [(calO (.slice none 0 0), la, []), (calO (.slice none 0 0), lb, [])] && cs.all fewCmp) := by
      have h30'' : decide (cs.length ≤ 30) = true := by rw [decide_eq_true_eq]; omega
      unfold fewTxn
      rw [h30'']
      rfl
    have hfc := fun W (p : Nat) h1 h2 h3 => fewCals_calls W _ _ (calR_two (b := p) (va := .slice aa la.length acap) (vb := .slice ab lb.length bcap) (la := la) (lb := lb) (W := W) h1 h2 h3)
    have hfc : ∀ W (p : Nat), _ → _ → _ → Calls Try.prog 28 #[.slice (some ⟨p, 0, none⟩) 2 2] W fun e w' => e = .returned (.bool (fewCals [(calO (.slice none 0 0), la, []), (calO (.slice none 0 0), lb, [])])) ∧ W = w' := hfc
    generalize fewCals [(calO (.slice none 0 0), la, []), (calO (.slice none 0 0), lb, [])] = fc at *
    have HE := Lib.hid hE; clear hE
    have HFC := Lib.hid hfc; clear hfc
    cases fc
    · go_enter Try.func12, Try.ntmps12
      go_wp2_with (go_at_call 28; refine (HFC.out _ (w.heap.size + 1) (alloc_at _ _ _ (by simp)) ((HVA.out.alloc _).alloc _) ((HVB.out.alloc _).alloc _)).mono ?_; rintro e w' ⟨rfl, rfl⟩)
      go_ret
      exact ⟨by rw [HE.out]; rfl, ((Fr.refl No w).alloc _).alloc _⟩
    · go_enter Try.func12, Try.ntmps12
      go_wp2_with (go_at_call 28; refine (HFC.out _ (w.heap.size + 1) (alloc_at _ _ _ (by simp)) ((HVA.out.alloc _).alloc _) ((HVB.out.alloc _).alloc _)).mono ?_; rintro e w' ⟨rfl, rfl⟩)
      go_loopg [3] cs.length (fun g s3 wr => ∃ i : Nat, s3 = .int .i64 i ∧ i + g = cs.length ∧ Hid ((cs.take i).all fewCmp = true) ∧ wr = (w.alloc (Obj.cells #[.slice a cs.length cap, .slice aa la.length acap, .slice ab lb.length bcap] 25)).alloc (Obj.cells ((calC (calO (.slice aa la.length acap), la, [])) ++ (calC (calO (.slice ab lb.length bcap), lb, []))).toArray 64))
      case atStart => exact ⟨0, rfl, by simp, Lib.hid (by simp), rfl⟩
      case round =>
        obtain ⟨i, rfl, hi, HJ, rfl⟩ := hrel
        have hb0 : ((w.alloc (Obj.cells #[.slice a cs.length cap, .slice aa la.length acap, .slice ab lb.length bcap] 25)).alloc (Obj.cells ((calC (calO (.slice aa la.length acap), la, [])) ++ (calC (calO (.slice ab lb.length bcap), lb, []))).toArray 64)).heap[w.heap.size]? = some (.cells #[.slice a cs.length cap, .slice aa la.length acap, .slice ab lb.length bcap] 25 (0, 0)) := alloc_old (alloc_at _ _ _ rfl) _
        have hfw : Fr No w ((w.alloc (Obj.cells #[.slice a cs.length cap, .slice aa la.length acap, .slice ab lb.length bcap] 25)).alloc (Obj.cells ((calC (calO (.slice aa la.length acap), la, [])) ++ (calC (calO (.slice ab lb.length bcap), lb, []))).toArray 64)) := ((Fr.refl No w).alloc _).alloc _
        generalize ((w.alloc (Obj.cells #[.slice a cs.length cap, .slice aa la.length acap, .slice ab lb.length bcap] 25)).alloc (Obj.cells ((calC (calO (.slice aa la.length acap), la, [])) ++ (calC (calO (.slice ab lb.length bcap), lb, []))).toArray 64)) = W at *
        have z0 : W.cell? ⟨w.heap.size, 0, none⟩ = some (.slice a cs.length cap) := by simp [World.cell?, hb0]
        have lz := heap_lt hb0
        clear hb0
        cases gk with
        | zero =>
          have hil : ¬ (i : Int) < (cs.length : Int) := by omega
          have hti : cs.take i = cs := List.take_of_length_le (by omega)
          rw [hti] at HJ
          go_wp2
          go_ret
          exact ⟨by rw [HE.out, HJ.out]; rfl, hfw⟩
        | succ g =>
          obtain ⟨gb, go, rfl⟩ := HA.out (by omega)
          obtain ⟨p, hx⟩ : ∃ p, cs[i]? = some p := ⟨_, List.getElem?_eq_getElem (by omega)⟩
          have hvr := HV.out.fr0 hfw
          have x0 := hvr.cell0 cmpC_length i hx rfl
          have x4 := hvr.cell cmpC_length i 4 hx rfl
          have hil : (i : Int) < (cs.length : Int) := by omega
          have hnx := take_all_next (p := fewCmp) hx
          have hfa := all_false_of (p := fewCmp) hx
          have HNX := Lib.hid hnx
          have HFA := Lib.hid hfa
          clear hx hvr hnx hfa
          by_cases h1 : 3000 < p.key.size
          · have h1' : (3000 : Int) < (p.key.size : Int) := by omega
            have hf : fewCmp p = false := by unfold fewCmp; simp; omega
            have HF := Lib.hid hf; clear hf
            go_wp2
            go_ret
            exact ⟨by rw [HE.out, HFA.out HF.out]; rfl, hfw⟩
          · have h1' : ¬ (3000 : Int) < (p.key.size : Int) := by omega
            by_cases h2 : 3000 < p.value.size
            · have h2' : (3000 : Int) < (p.value.size : Int) := by omega
              have hf : fewCmp p = false := by unfold fewCmp; simp; omega
              have HF := Lib.hid hf; clear hf
              go_wp2
              go_ret
              exact ⟨by rw [HE.out, HFA.out HF.out]; rfl, hfw⟩
            · have h2' : ¬ (3000 : Int) < (p.value.size : Int) := by omega
              have hf : fewCmp p = true := by unfold fewCmp; simp; omega
              have HF := Lib.hid hf; clear hf
              go_wp2
              go_roundg g
              case rel => exact ⟨i + 1, by go_num, by omega, Lib.hid (by rw [HNX.out, HJ.out, HF.out]; rfl), rfl⟩
              case measure => omega
end Go.Proofs.Ythljnnjpmdgkoaa
