/- Slices that are read alone (SlR): nothing is said of their blocks but the cells. Plain facts; no program is run. The store's Check: what is wrong with ops. The condition: texts are of less than 2^40 bytes. Answers in memory (AnsAt), and what a run of ops does to a store in plain terms (stepS, runS). Plain facts; no program is run. The loop of the store's Apply over its ops, in memory (LoopR), and its step. Plain facts; no program is run. slices.Reverse over pairs of keys: the list is turned in place. The condition: it is not too long. -/
import Derived.Test.YthljnnjpmdgkoaaG00
import Derived.Test.YthljnnjpmdgkoaaG06
import Derived.Test.YthljnnjpmdgkoaaG08
import Derived.Test.YthljnnjpmdgkoaaG04
import Derived.Test.YthljnnjpmdgkoaaG07
import Derived.BigRegion
namespace Go.Proofs.Ythljnnjpmdgkoaa
open Go Go.Proofs Go.RowKit

def SlR {α : Type} (w : World) (sz : Nat) (f : α → List Value) (v : Value) (L : List α) : Prop :=
  ∃ a cap, v = .slice a L.length cap ∧ L.length ≤ cap ∧ cap ≤ maxLen ∧
    (0 < L.length → ∃ g o, a = some ⟨g, o, none⟩ ∧ ∀ (i : Nat) (x : α), L[i]? = some x → ∀ (j : Nat) (u : Value), (f x)[j]? = some u → w.cell? ⟨g, o + i * sz + j, none⟩ = some u)
section
variable {α : Type} {f : α → List Value} {w : World} {e sz : Nat} {v : Value} {L : List α}
theorem SlR.nil (w : World) (sz : Nat) (f : α → List Value) : SlR w sz f (.slice none 0 0) [] := ⟨none, 0, rfl, Nat.le_refl _, by simp, fun h => by simp at h⟩
theorem SlR.shape (h : SlR w sz f v L) : ∃ a cap, v = .slice a L.length cap ∧ L.length ≤ cap ∧ cap ≤ maxLen ∧ (0 < L.length → ∃ g o, a = some ⟨g, o, none⟩) := by
  obtain ⟨a, cap, rfl, h1, h2, h3⟩ := h
  exact ⟨a, cap, rfl, h1, h2, fun hp => by obtain ⟨g, o, h4, _⟩ := h3 hp; exact ⟨g, o, h4⟩⟩
theorem SlR.cell {g o cap : Nat} (_ : ∀ x, (f x).length = sz) (h : SlR w sz f (.slice (some ⟨g, o, none⟩) L.length cap) L) (i j : Nat) {x : α} {u : Value} (hx : L[i]? = some x) (hu : (f x)[j]? = some u) :
    w.cell? ⟨g, o + i * sz + j, none⟩ = some u := by
  obtain ⟨a, cap', hv, h1, h2, h3⟩ := h
  have hi := (List.getElem?_eq_some_iff.1 hx).1
  obtain ⟨g', o', h4, h5⟩ := h3 (by omega)
  simp only [Value.slice.injEq, true_and] at hv
  obtain ⟨rfl, rfl⟩ := hv
  simp only [Option.some.injEq, Addr.mk.injEq, and_true] at h4
  obtain ⟨rfl, rfl⟩ := h4
  exact h5 i x hx j u hu
theorem SlR.cell0 {g o cap : Nat} (hf : ∀ x, (f x).length = sz) (h : SlR w sz f (.slice (some ⟨g, o, none⟩) L.length cap) L) (i : Nat) {x : α} {u : Value} (hx : L[i]? = some x) (hu : (f x)[0]? = some u) :
    w.cell? ⟨g, o + i * sz, none⟩ = some u := h.cell hf i 0 hx hu
theorem SlR.fr {w' : World} {S : Nat → Prop} (h : SlR w sz f v L) (hf : Fr S w w') (hn : ∀ k, v.ownBlock = some k → ¬ S k) : SlR w' sz f v L := by
  obtain ⟨a, cap, rfl, h1, h2, h3⟩ := h
  refine ⟨a, cap, rfl, h1, h2, fun hp => ?_⟩
  obtain ⟨g, o, rfl, h4⟩ := h3 hp
  exact ⟨g, o, rfl, fun i x hx j u hu => hf.cell (h4 i x hx j u hu) (hn g rfl)⟩
theorem SlR.fr0 {w' : World} (h : SlR w sz f v L) (hf : Fr No w w') : SlR w' sz f v L := h.fr hf fun _ _ h => h
theorem SlR.alloc (h : SlR w sz f v L) (o : Obj) : SlR (w.alloc o) sz f v L := h.fr0 ((Fr.refl No w).alloc o)
theorem SlR.drew (h : SlR w sz f v L) : SlR w.drew sz f v L := h
theorem SlR.take {a : Option Addr} {cap : Nat} (_ : ∀ x, (f x).length = sz) (h : SlR w sz f (.slice a L.length cap) L) (k : Nat) (hk : k ≤ L.length) : SlR w sz f (.slice a k cap) (L.take k) := by
  obtain ⟨a', cap', hv, h1, h2, h3⟩ := h
  simp only [Value.slice.injEq, true_and] at hv
  obtain ⟨rfl, rfl⟩ := hv
  have hl : (L.take k).length = k := by simp; omega
  refine ⟨a, cap, by rw [hl], by omega, h2, fun hp => ?_⟩
  obtain ⟨g, o, h4, h5⟩ := h3 (by omega)
  refine ⟨g, o, h4, fun i x hx => h5 i x ?_⟩
  have hi := (List.getElem?_eq_some_iff.1 hx).1
  rw [List.getElem?_take_of_lt (by omega)] at hx
  exact hx
theorem SlR.drop {g o cap : Nat} (_ : ∀ x, (f x).length = sz) (h : SlR w sz f (.slice (some ⟨g, o, none⟩) L.length cap) L) (k : Nat) (hk : k ≤ L.length) :
    SlR w sz f (.slice (if cap = k then some ⟨g, o, none⟩ else some ⟨g, o + k * sz, none⟩) (L.length - k) (cap - k)) (L.drop k) := by
  obtain ⟨a', cap', hv, h1, h2, h3⟩ := h
  simp only [Value.slice.injEq, true_and] at hv
  obtain ⟨rfl, rfl⟩ := hv
  have hl : (L.drop k).length = L.length - k := by simp
  refine ⟨_, _, by rw [hl], by omega, by omega, fun hp => ?_⟩
  obtain ⟨g', o', h4, h5⟩ := h3 (by omega)
  simp only [Option.some.injEq, Addr.mk.injEq, and_true] at h4
  obtain ⟨rfl, rfl⟩ := h4
  refine ⟨g, o + k * sz, by rw [if_neg (by omega)], fun i x hx j u hu => ?_⟩
  rw [List.getElem?_drop] at hx
  have := h5 (k + i) x hx j u hu
  rwa [Nat.add_mul, ← Nat.add_assoc] at this
end
end Go.Proofs.Ythljnnjpmdgkoaa

namespace Go.Proofs.Ythljnnjpmdgkoaa
open Go Go.Proofs Go.RowKit
set_option maxRecDepth 100000

/-- Does an op touch the key of another one? -/
def clash (o p : Opr) : Bool := (p.kind == 1 && p.rg.key.toList == o.rg.key.toList) || (p.kind == 2 && inB o.rg.key p.rg.key p.rg.end_)

theorem clash_calls (w : World) (o p : Opr) (b : Nat) (hb : w.heap[b]? = some (.cells (opC o).toArray 87 (0, 0))) :
    Calls Try.prog 53 #[opV p, .pointer (some ⟨b, 0, none⟩)] w fun e w' => e = .returned (.bool (clash o p)) ∧ Fr No w w' := by
  obtain ⟨p1, ⟨g1, g2, g3, g4, g5, g6, g7⟩, p2, p3⟩ := p
  unfold opV clash
  dsimp only
  have hbl := heap_lt hb
  have x1 : w.cell? ⟨b, 1, none⟩ = some (.string o.rg.key) := by unfold World.cell?; simp only; rw [hb]; rfl
  have hB := Lib.hid hb
  clear hb
  by_cases h1 : p1 = 1
  · subst h1
    cases h2 : (g1.toList == o.rg.key.toList)
    · go_enter Try.func53, Try.ntmps53
      go_wp2
      go_ret
      exact ⟨by simp, (Fr.refl No w).alloc _⟩
    · go_enter Try.func53, Try.ntmps53
      go_wp2
      go_ret
      exact ⟨by simp, (Fr.refl No w).alloc _⟩
  · have h1' : (p1 == 1) = false := by simpa using h1
    by_cases h2 : p1 = 2
    · subst h2
      go_enter Try.func53, Try.ntmps53
      go_wp2_with (go_at_call 54; refine (In_calls _ _ _ _).mono ?_; rintro e w' ⟨rfl, rfl⟩)
      go_ret
      exact ⟨by simp, (Fr.refl No w).alloc _⟩
    · have h2' : (p1 == 2) = false := by simpa using h2
      go_enter Try.func53, Try.ntmps53
      go_wp2
      go_ret
      exact ⟨by simp [h1', h2'], (Fr.refl No w).alloc _⟩

/-- The place of the first op of a kind; -1: none. -/
def idxOp (P : Opr → Bool) (l : List Opr) : Int := if l.findIdx P = l.length then -1 else (l.findIdx P : Int)

theorem indexClash_calls (w : World) (v : Value) (l : List Opr) (o : Opr) (b : Nat) (hb : w.heap[b]? = some (.cells (opC o).toArray 87 (0, 0))) (hv : SlR w 10 opC v l) (hl : l.length ≤ 1099511627) :
    Calls Try.prog 90 #[v, .func (.func 53) #[] #[.pointer (some ⟨b, 0, none⟩)]] w fun e w' => e = .returned (.int .i64 (idxOp (clash o) l)) ∧ Fr No w w' := by
  obtain ⟨a, cap, rfl, hc1, hc2, ha⟩ := hv.shape
  have HV := Lib.hid hv; clear hv
  have HA := Lib.hid ha; clear ha
  have HB := Lib.hid hb; clear hb
  go_enter Try.func90, Try.ntmps90
  go_wp2
  go_loopg [8] l.length (fun g s8 wr => ∃ i : Nat, s8 = .int .i64 i ∧ i + g = l.length ∧ Hid (∀ j, j < i → ∀ p, l[j]? = some p → clash o p = false) ∧ Hid (Fr No w wr))
  case atStart => exact ⟨0, rfl, by simp, Lib.hid (by simp), Lib.hid (Fr.refl No w)⟩
  case round =>
    obtain ⟨i, rfl, hi, HJ, HF⟩ := hrel
    cases gk with
    | zero =>
      have hil : ¬ (i : Int) < (l.length : Int) := by omega
      go_wp2
      go_ret
      refine ⟨?_, HF.out⟩
      have hu : l.findIdx (clash o) = l.length := by
        rw [List.findIdx_eq_length]
        intro x hx
        obtain ⟨j, hj, rfl⟩ := List.getElem_of_mem hx
        exact HJ.out j (by omega) _ (List.getElem?_eq_getElem hj)
      unfold idxOp
      rw [if_pos hu]
      rfl
    | succ g =>
      obtain ⟨gb, go, rfl⟩ := HA.out (by omega)
      obtain ⟨p, hx⟩ : ∃ p, l[i]? = some p := ⟨_, List.getElem?_eq_getElem (by omega)⟩
      have hvr := HV.out.fr0 HF.out
      have x0 := hvr.cell0 opC_length i hx rfl
      have x1 := hvr.cell opC_length i 1 hx rfl
      have x2 := hvr.cell opC_length i 2 hx rfl
      have x3 := hvr.cell opC_length i 3 hx rfl
      have x4 := hvr.cell opC_length i 4 hx rfl
      have x5 := hvr.cell opC_length i 5 hx rfl
      have x6 := hvr.cell opC_length i 6 hx rfl
      have x7 := hvr.cell opC_length i 7 hx rfl
      have x8 := hvr.cell opC_length i 8 hx rfl
      have x9 := hvr.cell opC_length i 9 hx rfl
      have hil : (i : Int) < (l.length : Int) := by omega
      have hcl := clash_calls wr o p b (HF.out.heap HB.out id)
      unfold opV at hcl
      cases hp : clash o p
      · rw [hp] at hcl
        have Hx := Lib.hid hx
        have Hp := Lib.hid hp
        clear hx hp hvr
        go_wp2_with (go_at_call 53; refine hcl.mono ?_; rintro e w1 ⟨rfl, hf⟩)
        go_roundg g
        case rel => exact ⟨i + 1, by go_num, by omega, Lib.hid (fun j hj q hq => by
          by_cases hji : j = i
          · subst hji; rw [Hx.out] at hq; cases hq; exact Hp.out
          · exact HJ.out j (by omega) q hq), Lib.hid (HF.out.trans0 hf)⟩
        case measure => omega
      · rw [hp] at hcl
        have Hx := Lib.hid hx
        have Hp := Lib.hid hp
        clear hx hp hvr
        go_wp2_with (go_at_call 53; refine hcl.mono ?_; rintro e w1 ⟨rfl, hf⟩)
        go_ret
        refine ⟨?_, HF.out.trans0 hf⟩
        have hu : l.findIdx (clash o) = i := by
          have hil' : i < l.length := by omega
          rw [List.findIdx_eq hil']
          have hgi : l[i] = p := (List.getElem?_eq_some_iff.1 Hx.out).2
          refine ⟨by rw [hgi]; exact Hp.out, fun j hj => ?_⟩
          exact HJ.out j hj _ (List.getElem?_eq_getElem (by omega))
        unfold idxOp
        rw [hu, if_neg (by omega)]
        rfl

theorem containsClash_calls (w : World) (v : Value) (l : List Opr) (o : Opr) (b : Nat) (hb : w.heap[b]? = some (.cells (opC o).toArray 87 (0, 0))) (hv : SlR w 10 opC v l) (hl : l.length ≤ 1099511627) :
    Calls Try.prog 55 #[v, .func (.func 53) #[] #[.pointer (some ⟨b, 0, none⟩)]] w fun e w' => e = .returned (.bool (l.any (clash o))) ∧ Fr No w w' := by
  have hidx := indexClash_calls w v l o b hb hv hl
  have hd : (0 ≤ idxOp (clash o) l ∧ l.any (clash o) = true) ∨ (¬ 0 ≤ idxOp (clash o) l ∧ l.any (clash o) = false) := by
    unfold idxOp
    by_cases h : l.findIdx (clash o) = l.length
    · rw [if_pos h]
      rw [List.findIdx_eq_length] at h
      exact .inr ⟨by omega, by rw [List.any_eq_false]; simpa using h⟩
    · rw [if_neg h]
      refine .inl ⟨by omega, ?_⟩
      have hlt : l.findIdx (clash o) < l.length := Nat.lt_of_le_of_ne List.findIdx_le_length h
      rw [List.any_eq_true]
      exact ⟨_, List.getElem_mem hlt, List.findIdx_getElem⟩
  generalize idxOp (clash o) l = n at *
  generalize l.any (clash o) = t at *
  clear hv hb
  rcases hd with ⟨h1, rfl⟩ | ⟨h1, rfl⟩
  all_goals
    go_enter Try.func55, Try.ntmps55
    go_wp2_with (go_at_call 90; refine hidx.mono ?_; rintro e w1 ⟨rfl, hf⟩)
    go_ret
    exact ⟨by first | rfl | (simp; omega), hf⟩

def twiceAt (l : List Opr) (i : Nat) : Bool := match l[i]? with
  | some o => o.kind == 1 && ((l.take i).any (clash o) || (l.drop (i + 1)).any (clash o))
  | none => false
def twice (l : List Opr) : Bool := (List.range l.length).any (twiceAt l)
/-- What is wrong with ops. -/
def checkE (l : List Opr) : Int := if 16 < l.length then 31 else match l.find? fun o => oneE o != 0 with
  | some o => oneE o
  | none => if twice l then 34 else 0

set_option maxHeartbeats 4000000 in
theorem Check_calls (w : World) (v : Value) (l : List Opr) (hv : SlR w 10 opC v l) (hl : l.length ≤ 1099511627) (hks : ∀ o ∈ l, o.rg.key.size ≤ 1099511627776) :
    Calls Try.prog 20 #[v] w fun e w' => e = .returned (.int .i64 (checkE l)) ∧ Fr No w w' := by
  obtain ⟨a, cap, rfl, hc1, hc2, ha⟩ := hv.shape
  have HV := Lib.hid hv; clear hv
  have HA := Lib.hid ha; clear ha
  have HKS := Lib.hid hks; clear hks
  by_cases h16 : 16 < l.length
  · have h16' : (16 : Int) < (l.length : Int) := by omega
    have : checkE l = 31 := by unfold checkE; rw [if_pos h16]
    rw [this]
    go_enter Try.func20, Try.ntmps20
    go_wp2
    go_ret
    exact ⟨rfl, Fr.refl No w⟩
  · have h16' : ¬ (16 : Int) < (l.length : Int) := by omega
    have hE : checkE l = match l.find? fun o => oneE o != 0 with
      | some o => oneE o
      | none => if twice l then 34 else 0 := by unfold checkE; rw [if_neg h16]
    have HE := Lib.hid hE; clear hE
    go_enter Try.func20, Try.ntmps20
    go_wp2
    go_loopg [14] l.length (fun g s14 wr => ∃ i : Nat, s14 = .int .i64 i ∧ i + g = l.length ∧ Hid (∀ j, j < i → ∀ p, l[j]? = some p → oneE p = 0) ∧ Hid (Fr No w wr))
    case atStart => exact ⟨0, rfl, by simp, Lib.hid (by simp), Lib.hid (Fr.refl No w)⟩
    case round =>
      obtain ⟨i, rfl, hi, HJ, HF⟩ := hrel
      cases gk with
      | zero =>
        have hil : ¬ (i : Int) < (l.length : Int) := by omega
        have hE2 : checkE l = if twice l then 34 else 0 := by
          rw [HE.out]
          have : l.find? (fun o => oneE o != 0) = none := by
            rw [List.find?_eq_none]
            intro x hx
            obtain ⟨j, hj, rfl⟩ := List.getElem_of_mem hx
            have := HJ.out j (by omega) _ (List.getElem?_eq_getElem hj)
            simp [this]
          rw [this]
        have HE2 := Lib.hid hE2; clear hE2
        have HF1 := HF
        clear HJ
        have hmf : ∀ (fn : Fn) (first cap : Array Value) (w : World), (Instr.makeFunc fn first cap).run Try.prog w = .ok (.func fn first cap) w := fun _ _ _ _ => rfl
        go_wp2
        go_loopg [26] l.length (fun g s26 wr => ∃ i : Nat, s26 = .int .i64 i ∧ i + g = l.length ∧ Hid (∀ j, j < i → twiceAt l j = false) ∧ Hid (Fr No w wr))
        case atStart => exact ⟨0, rfl, by simp, Lib.hid (by simp), HF1⟩
        case round =>
          obtain ⟨i, rfl, hi, HJ, HF⟩ := hrel
          cases gk with
          | zero =>
            have hil : ¬ (i : Int) < (l.length : Int) := by omega
            have hE3 : checkE l = 0 := by
              rw [HE2.out]
              have : twice l = false := by
                unfold twice
                rw [List.any_eq_false]
                intro j hj
                simp at hj
                simpa using HJ.out j (by omega)
              rw [this]; rfl
            have HE3 := Lib.hid hE3; clear hE3
            go_wp2
            go_ret
            exact ⟨by rw [HE3.out]; rfl, HF.out⟩
          | succ g =>
            obtain ⟨gb, go, rfl⟩ := HA.out (by omega)
            obtain ⟨p, hx⟩ : ∃ p, l[i]? = some p := ⟨_, List.getElem?_eq_getElem (by omega)⟩
            have hvr := HV.out.fr0 HF.out
            have x0 := hvr.cell0 opC_length i hx rfl
            have x1 := hvr.cell opC_length i 1 hx rfl
            have x2 := hvr.cell opC_length i 2 hx rfl
            have x3 := hvr.cell opC_length i 3 hx rfl
            have x4 := hvr.cell opC_length i 4 hx rfl
            have x5 := hvr.cell opC_length i 5 hx rfl
            have x6 := hvr.cell opC_length i 6 hx rfl
            have x7 := hvr.cell opC_length i 7 hx rfl
            have x8 := hvr.cell opC_length i 8 hx rfl
            have x9 := hvr.cell opC_length i 9 hx rfl
            have hil : (i : Int) < (l.length : Int) := by omega
            have hta : twiceAt l i = (p.kind == 1 && ((l.take i).any (clash p) || (l.drop (i + 1)).any (clash p))) := by unfold twiceAt; rw [hx]
            have HVR := Lib.hid hvr
            have HTA := Lib.hid hta
            have hsub : ∀ b : Bool, twiceAt l i = b → b = true → checkE l = 34 := by
              intro b hb hbt
              rw [HE2.out, if_pos]
              unfold twice
              rw [List.any_eq_true]
              exact ⟨i, by simp; omega, by rw [hb, hbt]⟩
            have HSUB := Lib.hid hsub
            clear hx hvr hta hsub
            obtain ⟨p1, ⟨g1, g2, g3, g4, g5, g6, g7⟩, p2, p3⟩ := p
            have hnext : ∀ (wz : World), twiceAt l i = false → Fr No w wz → ∃ k : Nat, Value.int .i64 ((i : Int) + 1) = .int .i64 k ∧ k + g = l.length ∧ Hid (∀ j, j < k → twiceAt l j = false) ∧ Hid (Fr No w wz) := fun wz h hf =>
              ⟨i + 1, by go_num, by omega, Lib.hid (fun j hj => by
                by_cases hji : j = i
                · subst hji; exact h
                · exact HJ.out j (by omega)), Lib.hid hf⟩
            have HN := Lib.hid hnext
            clear hnext
            by_cases h1 : p1 = 1
            · subst h1
              have hi0 : (0 : Int) ≤ (i : Int) + 1 := by omega
              have hi1 : (i : Int) + 1 ≤ (l.length : Int) := by omega
              have hi2 : i ≤ l.length := by omega
              have hi3 : i + 1 ≤ l.length := by omega
              have hi4 : (i : Int) ≤ (cap : Int) := by omega
              have hi5 : i ≤ cap := by omega
              have hst := HVR.out.take opC_length i hi2
              have hsd := HVR.out.drop opC_length (i + 1) hi3
              have HST := Lib.hid hst
              have HSD := Lib.hid hsd
              clear hst hsd
              have htl : (l.take i).length = i := by simp; omega
              have hdl : (l.drop (i + 1)).length = l.length - (i + 1) := by simp
              have hca := fun W hb hv => containsClash_calls W (.slice (some ⟨gb, go, none⟩) i cap) (l.take i) ⟨1, ⟨g1, g2, g3, g4, g5, g6, g7⟩, p2, p3⟩ wr.heap.size hb hv (by omega)
              have hcb := fun W A hb hv => containsClash_calls W (.slice A (l.length - (i + 1)) (cap - (i + 1))) (l.drop (i + 1)) ⟨1, ⟨g1, g2, g3, g4, g5, g6, g7⟩, p2, p3⟩ wr.heap.size hb hv (by omega)
              have HTL := Lib.hid htl
              have HDL := Lib.hid hdl
              clear htl hdl
              generalize hA1 : (if cap = i + 1 then some (⟨gb, go, none⟩ : Addr) else some ⟨gb, go + (i + 1) * 10, none⟩) = A1 at HSD
              have HTA' := HTA.out
              simp only at HTA'
              cases ht1 : (l.take i).any (clash ⟨1, ⟨g1, g2, g3, g4, g5, g6, g7⟩, p2, p3⟩)
              · rw [ht1] at hca HTA'
                have HCA := Lib.hid hca
                clear hca ht1
                cases ht2 : (l.drop (i + 1)).any (clash ⟨1, ⟨g1, g2, g3, g4, g5, g6, g7⟩, p2, p3⟩)
                · rw [ht2] at hcb HTA'
                  have HCB := Lib.hid hcb
                  have HTA2 := Lib.hid HTA'
                  clear hcb ht2 HTA'
                  go_wp2_with (first
                    | (go_at_call 55; refine (HCA.out _ (alloc_at _ _ _ rfl) (HST.out.alloc _)).mono ?_; rintro e w1 ⟨rfl, hf⟩
                       have hb1 := hf.heap (alloc_at wr (.cells #[.int .i64 1, .string g1, .string g2, .int .i64 g3, .int .i64 g4, .bool g5, .bool g6, .bool g7, .string p2, .int .i64 p3] 87) _ rfl) id
                       have hs1 := (HSD.out.alloc (.cells #[.int .i64 1, .string g1, .string g2, .int .i64 g3, .int .i64 g4, .bool g5, .bool g6, .bool g7, .string p2, .int .i64 p3] 87)).fr0 hf
                       have HB1 := Lib.hid hb1
                       have HS1 := Lib.hid hs1
                       clear hb1 hs1)
                    | (go_at_call 55; refine (HCB.out _ _ HB1.out HS1.out).mono ?_; rintro e w2 ⟨rfl, hf2⟩))
                  go_roundg g
                  case rel => exact HN.out _ (by rw [HTA2.out]; rfl) (((HF.out.alloc _).trans0 hf).trans0 hf2)
                  case measure => omega
                · rw [ht2] at hcb HTA'
                  have HCB := Lib.hid hcb
                  have HTA2 := Lib.hid HTA'
                  clear hcb ht2 HTA'
                  go_wp2_with (first
                    | (go_at_call 55; refine (HCA.out _ (alloc_at _ _ _ rfl) (HST.out.alloc _)).mono ?_; rintro e w1 ⟨rfl, hf⟩
                       have hb1 := hf.heap (alloc_at wr (.cells #[.int .i64 1, .string g1, .string g2, .int .i64 g3, .int .i64 g4, .bool g5, .bool g6, .bool g7, .string p2, .int .i64 p3] 87) _ rfl) id
                       have hs1 := (HSD.out.alloc (.cells #[.int .i64 1, .string g1, .string g2, .int .i64 g3, .int .i64 g4, .bool g5, .bool g6, .bool g7, .string p2, .int .i64 p3] 87)).fr0 hf
                       have HB1 := Lib.hid hb1
                       have HS1 := Lib.hid hs1
                       clear hb1 hs1)
                    | (go_at_call 55; refine (HCB.out _ _ HB1.out HS1.out).mono ?_; rintro e w2 ⟨rfl, hf2⟩))
                  go_ret
                  exact ⟨by rw [HSUB.out _ HTA2.out rfl]; rfl, ((HF.out.alloc _).trans0 hf).trans0 hf2⟩
              · rw [ht1] at hca HTA'
                have HCA := Lib.hid hca
                have HTA2 := Lib.hid HTA'
                clear hca ht1 hcb HTA'
                go_wp2_with (go_at_call 55; refine (HCA.out _ (alloc_at _ _ _ rfl) (HST.out.alloc _)).mono ?_; rintro e w1 ⟨rfl, hf⟩)
                go_ret
                exact ⟨by rw [HSUB.out _ HTA2.out rfl]; rfl, (HF.out.alloc _).trans0 hf⟩
            · have h1' : (p1 == 1) = false := by simpa using h1
              go_wp2
              go_roundg g
              case rel => exact HN.out _ (by rw [HTA.out, h1']; rfl) (HF.out.alloc _)
              case measure => omega
      | succ g =>
        obtain ⟨gb, go, rfl⟩ := HA.out (by omega)
        obtain ⟨p, hx⟩ : ∃ p, l[i]? = some p := ⟨_, List.getElem?_eq_getElem (by omega)⟩
        have hvr := HV.out.fr0 HF.out
        have x0 := hvr.cell0 opC_length i hx rfl
        have x1 := hvr.cell opC_length i 1 hx rfl
        have x2 := hvr.cell opC_length i 2 hx rfl
        have x3 := hvr.cell opC_length i 3 hx rfl
        have x4 := hvr.cell opC_length i 4 hx rfl
        have x5 := hvr.cell opC_length i 5 hx rfl
        have x6 := hvr.cell opC_length i 6 hx rfl
        have x7 := hvr.cell opC_length i 7 hx rfl
        have x8 := hvr.cell opC_length i 8 hx rfl
        have x9 := hvr.cell opC_length i 9 hx rfl
        have hil : (i : Int) < (l.length : Int) := by omega
        have hone := fun W => one_calls W p (HKS.out p (List.mem_of_getElem? hx))
        unfold opV at hone
        by_cases hp : oneE p = 0
        · rw [hp] at hone
          have Hx := Lib.hid hx
          have Hp := Lib.hid hp
          have Ho := Lib.hid hone
          clear hx hp hvr hone
          go_wp2_with (go_at_call 52; refine (Ho.out _).mono ?_; rintro e w1 ⟨rfl, hf⟩)
          go_roundg g
          case rel => exact ⟨i + 1, by go_num, by omega, Lib.hid (fun j hj q hq => by
            by_cases hji : j = i
            · subst hji; rw [Hx.out] at hq; cases hq; exact Hp.out
            · exact HJ.out j (by omega) q hq), Lib.hid ((HF.out.alloc _).trans0 hf)⟩
          case measure => omega
        · have hp' : (oneE p == 0) = false := by simpa using hp
          have hE2 : checkE l = oneE p := by
            rw [HE.out]
            have : l.find? (fun o => oneE o != 0) = some p := by
              rw [List.find?_eq_some_iff_getElem]
              have hil' : i < l.length := by omega
              refine ⟨by simpa using hp, i, hil', (List.getElem?_eq_some_iff.1 hx).2, fun j hj => ?_⟩
              have := HJ.out j hj _ (List.getElem?_eq_getElem (by omega))
              simp [this]
            rw [this]
          have HE2 := Lib.hid hE2
          have Ho := Lib.hid hone
          generalize oneE p = ep at *
          clear hx hp hvr hone hE2
          go_wp2_with (go_at_call 52; refine (Ho.out _).mono ?_; rintro e w1 ⟨rfl, hf⟩)
          go_ret
          exact ⟨by rw [HE2.out]; rfl, (HF.out.alloc _).trans0 hf⟩
end Go.Proofs.Ythljnnjpmdgkoaa

namespace Go.Proofs.Ythljnnjpmdgkoaa
open Go Go.Proofs Go.RowKit
set_option maxRecDepth 100000

/-- An answer. -/
structure Ans where
  kind : Int
  kvs : List Kv
  count : Int
  more : Bool
def ansC (q : Ans × Value) : List Value := [.int .i64 q.1.kind, q.2, .int .i64 q.1.count, .bool q.1.more]
theorem ansC_length (q : Ans × Value) : (ansC q).length = 4 := rfl

structure AnsR (w : World) (v : Value) (Z : List (Ans × Value)) : Prop where
  sl : SlF w 90 4 ansC v Z
  kvs : ∀ (i : Nat) (q : Ans × Value), Z[i]? = some q → SlF w 57 6 kvC q.2 q.1.kvs
  apart : ∀ (i : Nat) (q : Ans × Value), Z[i]? = some q → ∀ b, q.2.ownBlock = some b → v.ownBlock ≠ some b
def ansF (v : Value) (Z : List (Ans × Value)) (b : Nat) : Prop := v.ownBlock = some b ∨ ∃ (i : Nat) (q : Ans × Value), Z[i]? = some q ∧ q.2.ownBlock = some b
theorem AnsR.nil (w : World) : AnsR w (.slice none 0 0) [] := ⟨SlF.nil _ _ _ _, by simp, by simp⟩
theorem AnsR.lt {w : World} {v : Value} {Z : List (Ans × Value)} (h : AnsR w v Z) : ∀ b, ansF v Z b → b < w.heap.size := by
  rintro b (e | ⟨i, q, hq, e⟩)
  · exact h.sl.lt b e
  · exact (h.kvs i q hq).lt b e
theorem AnsR.fr {w w' : World} {v : Value} {Z : List (Ans × Value)} {S : Nat → Prop} (h : AnsR w v Z) (hf : Fr S w w') (hn : ∀ b, ansF v Z b → ¬ S b) : AnsR w' v Z :=
  ⟨h.sl.fr hf fun b e => hn b (.inl e), fun i q hq => (h.kvs i q hq).fr hf fun b e => hn b (.inr ⟨i, q, hq, e⟩), h.apart⟩

/-- An answer more. -/
theorem AnsR.snoc {w w' : World} {v v' : Value} {Z : List (Ans × Value)} {a : Ans} {kv : Value} (h : AnsR w v Z) (hf : Fr (fun b => v.ownBlock = some b) w w') (hs : SlF w' 90 4 ansC v' (Z ++ [(a, kv)]))
    (hk : SlF w 57 6 kvC kv a.kvs) (hd : ∀ b, kv.ownBlock = some b → v.ownBlock ≠ some b) (hn : ∀ b, v'.ownBlock = some b → v.ownBlock = some b ∨ w.heap.size ≤ b) : AnsR w' v' (Z ++ [(a, kv)]) := by
  have key : ∀ (i : Nat) (q : Ans × Value), (Z ++ [(a, kv)])[i]? = some q → (Z[i]? = some q) ∨ q = (a, kv) := by
    intro i q hq
    by_cases hi : i < Z.length
    · rw [List.getElem?_append_left hi] at hq; exact .inl hq
    · rw [List.getElem?_append_right (by omega)] at hq
      right
      have : i - Z.length = 0 := by
        have := (List.getElem?_eq_some_iff.1 hq).1
        simp at this; omega
      rw [this] at hq
      simpa using hq.symm
  refine ⟨hs, fun i q hq => ?_, fun i q hq b hb e => ?_⟩
  · rcases key i q hq with h1 | rfl
    · exact (h.kvs i q h1).fr hf fun b e => h.apart i q h1 b e
    · exact hk.fr hf hd
  · rcases key i q hq with h1 | rfl
    · rcases hn b e with h2 | h2
      · exact h.apart i q h1 b hb h2
      · have := (h.kvs i q h1).lt b hb; omega
    · rcases hn b e with h2 | h2
      · exact hd b hb h2
      · have := hk.lt b hb; omega

/-- The event of a delete. -/
def goneE (x : Kv) (rev : Int) : Ev := ⟨2, ⟨x.key, ByteArray.empty, 0, rev, 0, 0⟩, x⟩
/-- A run of ops: the store, the answers, the events. -/
structure Run where
  S : St
  A : List Ans
  E : List Ev
def goneR (rev : Int) (r : St × List Kv × List Ev) (x : Kv) : St × List Kv × List Ev := (doS r.1 (goneE x rev), r.2.1 ++ told (goneE x rev), r.2.2 ++ [goneE x rev])
def stepR (rev : Int) (r : Run) (o : Opr) : Run :=
  if o.kind = 1 then ⟨doS r.S (puttingS r.S o rev), r.A ++ [⟨1, told (puttingS r.S o rev), (told (puttingS r.S o rev)).length, false⟩], r.E ++ [puttingS r.S o rev]⟩
  else if o.kind = 2 then
    let q := (betweenS r.S o.rg.key o.rg.end_ rev).foldl (goneR rev) (r.S, [], r.E)
    ⟨q.1, r.A ++ [⟨2, q.2.1, q.2.1.length, false⟩], q.2.2⟩
  else if o.kind = 3 then ⟨r.S, r.A ++ [⟨3, getL r.S o.rg rev, (allL r.S o.rg rev).length, moreB r.S o.rg rev⟩], r.E⟩
  else ⟨r.S, r.A ++ [⟨o.kind, [], 0, false⟩], r.E⟩
def runR (rev : Int) (r : Run) (ops : List Opr) : Run := ops.foldl (stepR rev) r
/-- The first error of the gets' revisions. -/
def whenAll (S : St) (ops : List Opr) : Int := match ops.find? fun o => o.kind == 3 && whenE S o.rg.rev != 0 with
  | some o => whenE S o.rg.rev
  | none => 0
/-- What Apply answers where it changes nothing (0: it goes on). -/
def applyE (S : St) (ops : List Opr) : Int := if checkE ops ≠ 0 then checkE ops else whenAll S ops
/-- The store behind an Apply. -/
def applyS (S : St) (ops : List Opr) : St :=
  let r := runR (S.rev + 1) ⟨S, [], []⟩ ops
  if r.E = [] then r.S else { r.S with rev := S.rev + 1 }
end Go.Proofs.Ythljnnjpmdgkoaa

namespace Go.Proofs.Ythljnnjpmdgkoaa
open Go Go.Proofs Go.RowKit
set_option maxRecDepth 100000

theorem info90 : (Try.prog.info? 90).map (fun i => (i.zero, i.size, i.bytes)) = some (some (.agg #[.int .i64 0, .slice none 0 0, .int .i64 0, .bool false]), 4, 48) := by kernel_rfl

/-- The loop of Apply over its ops: what lies in memory ahead of an op. -/
structure LoopR (TA : TreeRel) (w0 w : World) (s sb vb : Nat) (F0 : Nat → Prop) (r : Run) (F : Nat → Prop) (ev out : Value) (Z : List (Ans × Value)) : Prop where
  fr : Fr F0 w0 w
  store : StoreAt TA w s r.S F
  box : Has w sb [.pointer (some ⟨s, 0, none⟩)]
  evs : Has w vb [ev]
  evl : SlF w 73 13 evC ev r.E
  ans : AnsR w out Z
  eqs : Z.map (·.1) = r.A
  new : ∀ b, F b → F0 b ∨ w0.heap.size ≤ b
  old : ∀ b, F0 b → b < w0.heap.size
  sbn : w0.heap.size ≤ sb
  vbn : w0.heap.size ≤ vb
  evn : ∀ b, ev.ownBlock = some b → w0.heap.size ≤ b
  ann : ∀ b, ansF out Z b → w0.heap.size ≤ b
  f1 : ¬ F sb
  f2 : ¬ F vb
  f4 : ∀ b, ev.ownBlock = some b → ¬ F b
  f5 : ∀ b, ansF out Z b → ¬ F b
  n1 : sb ≠ vb
  e1 : ev.ownBlock ≠ some sb
  e2 : ev.ownBlock ≠ some vb
  k1 : ¬ ansF out Z sb
  k2 : ¬ ansF out Z vb
  ek : ∀ b, ev.ownBlock = some b → ¬ ansF out Z b

theorem ansF_snoc {v : Value} {Z : List (Ans × Value)} {a : Ans} {kv : Value} {b : Nat} (h : ansF v (Z ++ [(a, kv)]) b) : v.ownBlock = some b ∨ (∃ (i : Nat) (q : Ans × Value), Z[i]? = some q ∧ q.2.ownBlock = some b) ∨ kv.ownBlock = some b := by
  rcases h with h | ⟨i, q, hq, h⟩
  · exact .inl h
  · by_cases hi : i < Z.length
    · rw [List.getElem?_append_left hi] at hq
      exact .inr (.inl ⟨i, q, hq, h⟩)
    · rw [List.getElem?_append_right (by omega)] at hq
      have h0 : i - Z.length = 0 := by
        have := (List.getElem?_eq_some_iff.1 hq).1
        simp at this; omega
      rw [h0] at hq
      simp at hq
      subst hq
      exact .inr (.inr h)

/-- The loop of Apply behind an op. -/
theorem LoopR.next {TA : TreeRel} {N : Nat} (hT : TreeOk TA N) {w0 wr w5 w6 : World} {s sb vb : Nat} {F0 F F' : Nat → Prop} {r : Run} {ev out ev' out' kv : Value} {Z : List (Ans × Value)} {S' : St} {E' : List Ev} {a : Ans} {X : Nat → Prop}
    (hl : LoopR TA w0 wr s sb vb F0 r F ev out Z) (hS : StoreAt TA w5 s S' F') (hbox : Has w5 sb [.pointer (some ⟨s, 0, none⟩)]) (hevs : Has w5 vb [ev']) (hevl : SlF w5 73 13 evC ev' E') (hkv : SlF w5 57 6 kvC kv a.kvs)
    (hf : Fr X wr w5) (hX : ∀ b, b < wr.heap.size → X b → F b ∨ b = vb ∨ ev.ownBlock = some b) (hF' : ∀ b, F' b → F b ∨ wr.heap.size ≤ b) (hev' : ∀ b, ev'.ownBlock = some b → ev.ownBlock = some b ∨ wr.heap.size ≤ b)
    (hkv' : ∀ b, kv.ownBlock = some b → wr.heap.size ≤ b) (d1 : ∀ b, ev'.ownBlock = some b → ¬ F' b) (d2 : ∀ b, kv.ownBlock = some b → ¬ F' b) (d3 : ∀ b, ev'.ownBlock = some b → kv.ownBlock ≠ some b)
    (hf6 : Fr (fun b => out.ownBlock = some b) w5 w6) (hs6 : SlF w6 90 4 ansC out' (Z ++ [(a, kv)])) (hn6 : ∀ b, out'.ownBlock = some b → out.ownBlock = some b ∨ w5.heap.size ≤ b) :
    LoopR TA w0 w6 s sb vb F0 ⟨S', r.A ++ [a], E'⟩ F' ev' out' (Z ++ [(a, kv)]) := by
  have lF := hl.store.lt hT
  have lF' := hS.lt hT
  have lA := hl.ans.lt
  have lev' := hevl.lt
  have lkv := hkv.lt
  have lsb := hl.box.lt
  have lvb := hl.evs.lt
  have hsz := hf.size
  have hsz0 := hl.fr.size
  have nout : ∀ b, out.ownBlock = some b → ¬ F' b := fun b hb h => by
    rcases hF' b h with h1 | h1
    · exact hl.f5 b (.inl hb) h1
    · have := lA b (.inl hb); omega
  have kvout : ∀ b, kv.ownBlock = some b → out.ownBlock ≠ some b := fun b hb h => by
    have := lA b (.inl h); have := hkv' b hb; omega
  have evout : ∀ b, ev'.ownBlock = some b → ¬ ansF out Z b := fun b hb h => by
    rcases hev' b hb with h1 | h1
    · exact hl.ek b h1 h
    · have := lA b h; omega
  -- what the answers' blocks are
  have split : ∀ b, ansF out' (Z ++ [(a, kv)]) b → ansF out Z b ∨ w5.heap.size ≤ b ∨ kv.ownBlock = some b := fun b h => by
    rcases ansF_snoc h with h | h | h
    · rcases hn6 b h with h | h
      · exact .inl (.inl h)
      · exact .inr (.inl h)
    · exact .inl (.inr h)
    · exact .inr (.inr h)
  have hfr : Fr F0 w0 w6 := by
    refine (hl.fr.trans (hf.mono (T := fun b => F b ∨ b = vb ∨ ev.ownBlock = some b) hX) fun b hb h => ?_).trans hf6 fun b hb h => ?_
    · rcases h with h | h | h
      · rcases hl.new b h with h | h
        · exact h
        · omega
      · have := hl.vbn; omega
      · have := hl.evn b h; omega
    · have := hl.ann b (.inl h); omega
  exact {
    fr := hfr
    store := hS.fr hT hf6 fun b hb h => nout b h hb
    box := hbox.fr hf6 fun h => hl.k1 (.inl h)
    evs := hevs.fr hf6 fun h => hl.k2 (.inl h)
    evl := hevl.fr hf6 fun b hb h => evout b hb (.inl h)
    ans := (hl.ans.fr (hf.mono hX) fun b hb h => by
      rcases h with h | h | h
      · exact hl.f5 b hb h
      · exact hl.k2 (h ▸ hb)
      · exact hl.ek b h hb).snoc hf6 hs6 hkv kvout hn6
    eqs := by rw [List.map_append, hl.eqs]; rfl
    new := fun b h => by
      rcases hF' b h with h | h
      · exact hl.new b h
      · exact .inr (by omega)
    old := hl.old
    sbn := hl.sbn
    vbn := hl.vbn
    evn := fun b h => by
      rcases hev' b h with h | h
      · exact hl.evn b h
      · omega
    ann := fun b h => by
      rcases split b h with h | h | h
      · exact hl.ann b h
      · omega
      · have := hkv' b h; omega
    f1 := fun h => by
      rcases hF' _ h with h | h
      · exact hl.f1 h
      · omega
    f2 := fun h => by
      rcases hF' _ h with h | h
      · exact hl.f2 h
      · omega
    f4 := d1
    f5 := fun b h hF => by
      rcases split b h with h | h | h
      · rcases hF' b hF with h1 | h1
        · exact hl.f5 b h h1
        · have := lA b h; omega
      · have := lF' b hF; omega
      · exact d2 b h hF
    n1 := hl.n1
    e1 := fun h => by
      rcases hev' _ h with h | h
      · exact hl.e1 h
      · omega
    e2 := fun h => by
      rcases hev' _ h with h | h
      · exact hl.e2 h
      · omega
    k1 := fun h => by
      rcases split _ h with h | h | h
      · exact hl.k1 h
      · omega
      · have := hkv' _ h; omega
    k2 := fun h => by
      rcases split _ h with h | h | h
      · exact hl.k2 h
      · omega
      · have := hkv' _ h; omega
    ek := fun b h h' => by
      rcases split b h' with h' | h' | h'
      · exact evout b h h'
      · have := lev' b h; omega
      · exact d3 b h h' }

end Go.Proofs.Ythljnnjpmdgkoaa

namespace Go.Proofs.Ythljnnjpmdgkoaa
open Go Go.Proofs Go.RowKit
set_option maxRecDepth 100000

/-- A whole pair laid down in a list. -/
def layKv (w : World) (g o : Nat) (y : Kv) : World :=
  (((((w.setCell ⟨g, o, none⟩ (.string y.key)).setCell ⟨g, o + 1, none⟩ (.string y.value)).setCell ⟨g, o + 2, none⟩ (.int .i64 y.create)).setCell ⟨g, o + 3, none⟩ (.int .i64 y.mod)).setCell ⟨g, o + 4, none⟩ (.int .i64 y.version)).setCell ⟨g, o + 5, none⟩ (.int .i64 y.lease)
theorem layKv_sl {w : World} {g o cap : Nat} {L : List Kv} (h : SlF w 57 6 kvC (.slice (some ⟨g, o, none⟩) L.length cap) L) (i : Nat) {x : Kv} (hx : L[i]? = some x) (y : Kv) :
    SlF (layKv w g (o + i * 6) y) 57 6 kvC (.slice (some ⟨g, o, none⟩) L.length cap) (L.set i y) := by
  have hi := (List.getElem?_eq_some_iff.1 hx).1
  have step : ∀ {w : World} {M : List Kv} {z : Kv} (j : Nat) (u : Value) (z' : Kv), j < 6 → M.length = L.length → SlF w 57 6 kvC (.slice (some ⟨g, o, none⟩) L.length cap) M → M[i]? = some z → kvC z' = (kvC z).set j u →
      SlF (w.setCell ⟨g, o + i * 6 + j, none⟩ u) 57 6 kvC (.slice (some ⟨g, o, none⟩) L.length cap) (M.set i z') := by
    intro w M z j u z' hj hM hs hz he
    rw [← hM] at hs ⊢
    exact hs.set kvC_length i j hj z z' u hz he
  have s0 := step 0 (.string y.key) ({ x with key := y.key }) (by omega) rfl h hx rfl
  have s1 := step (z := { x with key := y.key }) 1 (.string y.value) ({ x with key := y.key, value := y.value }) (by omega) (by simp) s0 (by simp [hi]) rfl
  have s2 := step (z := { x with key := y.key, value := y.value }) 2 (.int .i64 y.create) ({ x with key := y.key, value := y.value, create := y.create }) (by omega) (by simp) s1 (by simp [hi]) rfl
  have s3 := step (z := { x with key := y.key, value := y.value, create := y.create }) 3 (.int .i64 y.mod) ({ x with key := y.key, value := y.value, create := y.create, mod := y.mod }) (by omega) (by simp) s2 (by simp [hi]) rfl
  have s4 := step (z := { x with key := y.key, value := y.value, create := y.create, mod := y.mod }) 4 (.int .i64 y.version) ({ x with key := y.key, value := y.value, create := y.create, mod := y.mod, version := y.version }) (by omega) (by simp) s3 (by simp [hi]) rfl
  have s5 := step (z := { x with key := y.key, value := y.value, create := y.create, mod := y.mod, version := y.version }) 5 (.int .i64 y.lease) (y) (by omega) (by simp) s4 (by simp [hi]) rfl
  simpa [layKv, List.set_set] using s5
theorem layKv_fr {S : Nat → Prop} {a w : World} (h : Fr S a w) (g o : Nat) (y : Kv) (hg : S g) : Fr S a (layKv w g o y) := by
  unfold layKv
  exact (((((h.setCell (.inl hg) _).setCell (.inl hg) _).setCell (.inl hg) _).setCell (.inl hg) _).setCell (.inl hg) _).setCell (.inl hg) _

/-- A list turned as far as the place i: what stands at k. -/
def Turned (L M : List Kv) (i : Nat) : Prop := M.length = L.length ∧ ∀ k, k < L.length → M[k]? = if k < i ∨ L.length - i ≤ k then L[L.length - 1 - k]? else L[k]?
theorem Turned.start (L : List Kv) : Turned L L 0 := ⟨rfl, fun k hk => by rw [if_neg (by omega)]⟩
theorem Turned.done {L M : List Kv} {i : Nat} (h : Turned L M i) (hi : L.length ≤ 2 * i + 1) : M = L.reverse := by
  refine List.ext_getElem? fun k => ?_
  by_cases hk : k < L.length
  · rw [h.2 k hk, List.getElem?_reverse hk]
    split
    · rfl
    · rename_i hn
      congr 1; omega
  · rw [List.getElem?_eq_none (by rw [h.1]; omega), List.getElem?_eq_none (by simp; omega)]
theorem Turned.next {L M : List Kv} {i j : Nat} (h : Turned L M i) (hij : i + j + 1 = L.length) (hlt : i < j) {x y : Kv} (hx : L[i]? = some x) (hy : L[j]? = some y) : Turned L ((M.set i y).set j x) (i + 1) := by
  refine ⟨by simp [h.1], fun k hk => ?_⟩
  have hM := h.1
  by_cases hkj : k = j
  · subst hkj
    rw [List.getElem?_set_self (by simp; omega), if_pos (by omega), show L.length - 1 - k = i by omega, hx]
  · rw [List.getElem?_set_ne (fun e => hkj e.symm)]
    by_cases hki : k = i
    · subst hki
      rw [List.getElem?_set_self (by omega), if_pos (by omega), show L.length - 1 - k = j by omega, hy]
    · rw [List.getElem?_set_ne (fun e => hki e.symm), h.2 k hk]
      by_cases hc : k < i ∨ L.length - i ≤ k
      · rw [if_pos hc, if_pos (by omega)]
      · rw [if_neg hc, if_neg (by omega)]
theorem Turned.at {L M : List Kv} {i k : Nat} (h : Turned L M i) (h1 : i ≤ k) (h2 : k + i < L.length) : M[k]? = L[k]? := by rw [h.2 k (by omega), if_neg (by omega)]

set_option maxHeartbeats 4000000 in
theorem reverse_calls (w : World) (v : Value) (L : List Kv) (hv : SlF w 57 6 kvC v L) (hl : L.length ≤ 1099511627) :
    Calls Try.prog 107 #[v] w fun e w' => (∃ u, e = .returned u) ∧ SlF w' 57 6 kvC v L.reverse ∧ Fr (fun b => v.ownBlock = some b) w w' := by
  obtain ⟨a, cap, rfl, hc1, hc2, ha⟩ := hv.shape
  rcases Nat.eq_zero_or_pos L.length with h0 | hp
  · obtain rfl := List.eq_nil_of_length_eq_zero h0
    have HV := Lib.hid hv
    clear hv ha
    go_enter Try.func107, Try.ntmps107
    go_wp2
    go_loopg [2, 3] 0 (fun g s2 s3 wr => g = 0 ∧ s2 = .int .i64 0 ∧ s3 = .int .i64 (-1) ∧ w = wr)
    case atStart => exact ⟨rfl, rfl, rfl, rfl⟩
    case round =>
      obtain ⟨rfl, rfl, rfl, rfl⟩ := hrel
      go_wp2
      refine bodyPost_end (results_none rfl _ _ _) rfl ?_
      exact ⟨⟨_, rfl⟩, HV.out, Fr.refl _ w⟩
  · obtain ⟨gb, go, rfl⟩ := ha hp
    have HV := Lib.hid hv
    clear hv
    go_enter Try.func107, Try.ntmps107
    go_wp2
    go_loopg [2, 3] L.length (fun g s2 s3 wr => ∃ (i j : Nat) (M : List Kv), s2 = .int .i64 i ∧ s3 = .int .i64 j ∧ i + j + 1 = L.length ∧ i ≤ j + 1 ∧ i + g = L.length ∧ Hid (Turned L M i) ∧ Hid (SlF wr 57 6 kvC (.slice (some ⟨gb, go, none⟩) L.length cap) M) ∧ Hid (Fr (fun b => b = gb) w wr))
    case atStart => exact ⟨0, L.length - 1, L, rfl, by go_num, by omega, by omega, by omega, Lib.hid (Turned.start L), HV, Lib.hid (Fr.refl _ w)⟩
    case round =>
      obtain ⟨i, j, M, rfl, rfl, hij, hle, hi, HT, HS, HF⟩ := hrel
      by_cases hlt : i < j
      · cases gk with
        | zero => omega
        | succ g =>
          have hlt' : (i : Int) < (j : Int) := by omega
          have hiL : (i : Int) < (L.length : Int) := by omega
          have hjL : (j : Int) < (L.length : Int) := by omega
          obtain ⟨x, hx⟩ : ∃ x, L[i]? = some x := ⟨_, List.getElem?_eq_getElem (by omega)⟩
          obtain ⟨y, hy⟩ : ∃ y, L[j]? = some y := ⟨_, List.getElem?_eq_getElem (by omega)⟩
          have hMx := (HT.out.at (k := i) (by omega) (by omega)).trans hx
          have hMy := (HT.out.at (k := j) (by omega) (by omega)).trans hy
          have hsl : SlF wr 57 6 kvC (.slice (some ⟨gb, go, none⟩) M.length cap) M := by rw [HT.out.1]; exact HS.out
          have lgb : gb < wr.heap.size := hsl.lt gb rfl
          obtain ⟨x1, x2, x3, x4, x5, x6⟩ := x
          obtain ⟨y1, y2, y3, y4, y5, y6⟩ := y
          have u0 := hsl.cell0 kvC_length i hMx rfl
          have u1 := hsl.cell kvC_length i 1 hMx rfl
          have u2 := hsl.cell kvC_length i 2 hMx rfl
          have u3 := hsl.cell kvC_length i 3 hMx rfl
          have u4 := hsl.cell kvC_length i 4 hMx rfl
          have u5 := hsl.cell kvC_length i 5 hMx rfl
          have v0 := hsl.cell0 kvC_length j hMy rfl
          have v1 := hsl.cell kvC_length j 1 hMy rfl
          have v2 := hsl.cell kvC_length j 2 hMy rfl
          have v3 := hsl.cell kvC_length j 3 hMy rfl
          have v4 := hsl.cell kvC_length j 4 hMy rfl
          have v5 := hsl.cell kvC_length j 5 hMy rfl
          have hfz : ∀ k, wr.frozen? ⟨gb, k, none⟩ = false := fun k => hsl.free k
          have s1 := layKv_sl hsl i hMx ⟨y1, y2, y3, y4, y5, y6⟩
          have s2 := layKv_sl (L := M.set i ⟨y1, y2, y3, y4, y5, y6⟩) (by rw [List.length_set]; exact s1) j (x := ⟨y1, y2, y3, y4, y5, y6⟩) (by rw [List.getElem?_set_ne (by omega)]; exact hMy) ⟨x1, x2, x3, x4, x5, x6⟩
          have hfr := layKv_fr (layKv_fr HF.out gb (go + i * 6) ⟨y1, y2, y3, y4, y5, y6⟩ rfl) gb (go + j * 6) ⟨x1, x2, x3, x4, x5, x6⟩ rfl
          have HN := Lib.hid (HT.out.next hij hlt hx hy)
          rw [List.length_set, HT.out.1] at s2
          have HS2 := Lib.hid s2
          have HFR := Lib.hid hfr
          clear hx hy hMx hMy hsl s1 s2 hfr
          unfold layKv at HS2 HFR
          dsimp only at HS2 HFR
          go_wp2_with fail
          go_region
          go_wp2
          go_roundg g
          case rel => exact ⟨i + 1, j - 1, _, by go_num, by go_num, by omega, by omega, by omega, HN, Lib.hid HS2.out.drew, Lib.hid HFR.out.drew⟩
          case measure => omega
      · have hlt' : ¬ (i : Int) < (j : Int) := by omega
        go_wp2
        refine bodyPost_end (results_none rfl _ _ _) rfl ?_
        exact ⟨⟨_, rfl⟩, by rw [← HT.out.done (by omega)]; exact HS.out, HF.out.mono fun b _ h => by rw [h]; rfl⟩
end Go.Proofs.Ythljnnjpmdgkoaa
