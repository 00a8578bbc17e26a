/- Keys as lists of bytes in Go's order. Plain facts; no program. -/
import Derived.Test.YtlomeohcgjgpjaaLib
import Derived.Lib.Strings
import Derived.Sort.Walk0
namespace Go.Proofs.Ytlomeohcgjgpjaa
open Go Go.RowKit

def klt (a b : ByteArray) : Bool := Op.bytesLess a.toList b.toList
def keq (a b : ByteArray) : Bool := a.toList == b.toList
theorem keq_iff {a b : ByteArray} : keq a b = true ↔ a = b := by
  unfold keq
  rw [beq_iff_eq, Lib.toList_data, Lib.toList_data]
  constructor
  · intro h
    cases a; cases b
    simp at h
    simp [h]
  · rintro rfl; rfl
theorem klt_iff {a b : ByteArray} : klt a b = true ↔ a.data.toList < b.data.toList := by
  unfold klt
  rw [Go.Proofs.bytesLess_eq, decide_eq_true_eq, Lib.toList_data, Lib.toList_data]
theorem klt_irrefl (a : ByteArray) : klt a a = false := by
  rw [Bool.eq_false_iff]; intro h; exact List.lt_irrefl _ (klt_iff.1 h)
theorem klt_trans {a b c : ByteArray} (h : klt a b = true) (h' : klt b c = true) : klt a c = true := klt_iff.2 (List.lt_trans (klt_iff.1 h) (klt_iff.1 h'))
theorem klt_asymm {a b : ByteArray} (h : klt a b = true) : klt b a = false := by
  rw [Bool.eq_false_iff]; intro h'
  have := klt_trans h h'
  rw [klt_irrefl] at this; cases this
theorem klt_ne {a b : ByteArray} (h : klt a b = true) : keq a b = false := by
  rw [Bool.eq_false_iff]; intro h'
  obtain rfl := keq_iff.1 h'
  rw [klt_irrefl] at h; cases h
theorem klt_tri (a b : ByteArray) : klt a b = true ∨ a = b ∨ klt b a = true := by
  by_cases h : a.data.toList < b.data.toList
  · exact .inl (klt_iff.2 h)
  · by_cases h' : b.data.toList < a.data.toList
    · exact .inr (.inr (klt_iff.2 h'))
    · right; left
      have := List.le_antisymm (List.not_lt.1 h') (List.not_lt.1 h)
      cases a; cases b
      simp at this
      simp [this]
theorem not_klt {a b : ByteArray} (h : klt a b = false) (h' : keq a b = false) : klt b a = true := by
  rcases klt_tri a b with h1 | h1 | h1
  · rw [h] at h1; cases h1
  · rw [keq_iff.2 h1] at h'; cases h'
  · exact h1
theorem keq_comm (a b : ByteArray) : keq a b = keq b a := by
  rw [Bool.eq_iff_iff, keq_iff, keq_iff]; exact eq_comm
theorem klt_of_le_lt {a b c : ByteArray} (h : klt b a = false) (h' : klt b c = true) : klt a c = true := by
  rcases klt_tri a b with h1 | rfl | h1
  · exact klt_trans h1 h'
  · exact h'
  · rw [h] at h1; cases h1

abbrev Pairs := List (ByteArray × Int)
/-- Keys rise. -/
def Sorted (T : Pairs) : Prop := T.Pairwise fun p q => klt p.1 q.1 = true
def spotOf (T : Pairs) (key : ByteArray) : Nat := T.findIdx fun p => !klt p.1 key
def hitOf (T : Pairs) (key : ByteArray) : Bool := match T[spotOf T key]? with
  | some p => keq p.1 key
  | none => false
/-- What a key has. -/
def getT (T : Pairs) (key : ByteArray) : Int × Bool := match T.find? fun p => keq p.1 key with
  | some p => (p.2, true)
  | none => (0, false)
/-- A key given a number. -/
def insT (T : Pairs) (key : ByteArray) (n : Int) : Pairs := match T with
  | [] => [(key, n)]
  | p :: T => if klt p.1 key then p :: insT T key n else if keq p.1 key then (key, n) :: T else (key, n) :: p :: T
def delT (T : Pairs) (key : ByteArray) : Pairs := T.filter fun p => !keq p.1 key
/-- The pairs from a key on, ahead of another one ('to' empty: no end). -/
def rangeT (T : Pairs) (frm to : ByteArray) : Pairs := T.filter fun p => !klt p.1 frm && (to.toList.isEmpty || klt p.1 to)

theorem spotOf_le (T : Pairs) (key : ByteArray) : spotOf T key ≤ T.length := List.findIdx_le_length
theorem insT_eq (T : Pairs) (hT : Sorted T) (key : ByteArray) (n : Int) :
    insT T key n = if hitOf T key then T.set (spotOf T key) (key, n) else T.take (spotOf T key) ++ (key, n) :: T.drop (spotOf T key) := by
  induction T with
  | nil => simp [insT, hitOf, spotOf]
  | cons p T ih =>
    have hT' : Sorted T := (List.pairwise_cons.1 hT).2
    by_cases h : klt p.1 key = true
    · have e1 : spotOf (p :: T) key = spotOf T key + 1 := by simp [spotOf, List.findIdx_cons, h]
      have e2 : hitOf (p :: T) key = hitOf T key := by simp [hitOf, e1]
      rw [e1, e2]
      simp only [insT, h, if_true, ih hT']
      by_cases h2 : hitOf T key = true <;> simp [h2]
    · simp only [Bool.not_eq_true] at h
      have e1 : spotOf (p :: T) key = 0 := by simp [spotOf, List.findIdx_cons, h]
      have e2 : hitOf (p :: T) key = keq p.1 key := by simp [hitOf, e1]
      rw [e1, e2]
      simp only [insT, h, Bool.false_eq_true, if_false]
      by_cases h2 : keq p.1 key = true <;> simp [h2]
theorem getT_eq (T : Pairs) (hT : Sorted T) (key : ByteArray) : getT T key = if hitOf T key then ((T[spotOf T key]?.getD default).2, true) else (0, false) := by
  induction T with
  | nil => simp [getT, hitOf, spotOf]
  | cons p T ih =>
    have hT' : Sorted T := (List.pairwise_cons.1 hT).2
    by_cases h : klt p.1 key = true
    · have e1 : spotOf (p :: T) key = spotOf T key + 1 := by simp [spotOf, List.findIdx_cons, h]
      have e2 : hitOf (p :: T) key = hitOf T key := by simp [hitOf, e1]
      have e3 : getT (p :: T) key = getT T key := by simp [getT, klt_ne h]
      rw [e1, e2, e3, ih hT']
      simp
    · simp only [Bool.not_eq_true] at h
      have e1 : spotOf (p :: T) key = 0 := by simp [spotOf, List.findIdx_cons, h]
      have e2 : hitOf (p :: T) key = keq p.1 key := by simp [hitOf, e1]
      rw [e1, e2]
      by_cases h2 : keq p.1 key = true
      · simp [getT, h2]
      · simp only [Bool.not_eq_true] at h2
        have hn : (T.find? fun p => keq p.1 key) = none := by
          rw [List.find?_eq_none]
          intro q hq
          have := (List.pairwise_cons.1 hT).1 q hq
          have h3 := klt_trans (not_klt h h2) this
          rw [keq_comm, klt_ne h3]; simp
        simp [getT, h2, hn]
theorem insT_sorted (T : Pairs) (hT : Sorted T) (key : ByteArray) (n : Int) : Sorted (insT T key n) ∧ ∀ q ∈ insT T key n, q ∈ T ∨ q.1 = key := by
  induction T with
  | nil => simp [insT, Sorted]
  | cons p T ih =>
    obtain ⟨hp, hT'⟩ := List.pairwise_cons.1 hT
    obtain ⟨ih1, ih2⟩ := ih hT'
    by_cases h : klt p.1 key = true
    · simp only [insT, h, if_true]
      refine ⟨List.pairwise_cons.2 ⟨fun q hq => ?_, ih1⟩, fun q hq => ?_⟩
      · rcases ih2 q hq with h1 | h1
        · exact hp q h1
        · rw [h1]; exact h
      · rcases List.mem_cons.1 hq with rfl | h1
        · simp
        · rcases ih2 q h1 with h2 | h2 <;> simp [h2]
    · simp only [Bool.not_eq_true] at h
      by_cases h2 : keq p.1 key = true
      · simp only [insT, h, h2, Bool.false_eq_true, if_false, if_true]
        have e := keq_iff.1 h2
        refine ⟨List.pairwise_cons.2 ⟨fun q hq => ?_, hT'⟩, fun q hq => ?_⟩
        · have := hp q hq; rw [e] at this; exact this
        · rcases List.mem_cons.1 hq with rfl | h1
          · simp
          · simp [h1]
      · simp only [Bool.not_eq_true] at h2
        simp only [insT, h, h2, Bool.false_eq_true, if_false]
        have e := not_klt h h2
        refine ⟨List.pairwise_cons.2 ⟨fun q hq => ?_, hT⟩, fun q hq => ?_⟩
        · rcases List.mem_cons.1 hq with rfl | h1
          · exact e
          · exact klt_trans e (hp q h1)
        · rcases List.mem_cons.1 hq with rfl | h1
          · simp
          · left; exact h1

theorem drop_spot (T : Pairs) (hT : Sorted T) (frm : ByteArray) : T.drop (spotOf T frm) = T.filter fun p => !klt p.1 frm := by
  induction T with
  | nil => simp
  | cons p T ih =>
    obtain ⟨hp, hT'⟩ := List.pairwise_cons.1 hT
    by_cases h : klt p.1 frm = true
    · have e1 : spotOf (p :: T) frm = spotOf T frm + 1 := by simp [spotOf, List.findIdx_cons, h]
      rw [e1, List.drop_succ_cons, ih hT', List.filter_cons]
      simp [h]
    · simp only [Bool.not_eq_true] at h
      have e1 : spotOf (p :: T) frm = 0 := by simp [spotOf, List.findIdx_cons, h]
      rw [e1, List.drop_zero]
      symm
      rw [List.filter_eq_self]
      intro q hq
      rcases List.mem_cons.1 hq with rfl | hq
      · simp [h]
      · have h1 := hp q hq
        have : klt q.1 frm = false := by
          rw [Bool.eq_false_iff]; intro h2
          rw [klt_trans h1 h2] at h; cases h
        simp [this]
theorem Sorted.filter {T : Pairs} (hT : Sorted T) (f : ByteArray × Int → Bool) : Sorted (T.filter f) := List.Pairwise.filter f hT
/-- Is a pair ahead of the end ('to' empty: there is none)? -/
def ahead (to : ByteArray) (p : ByteArray × Int) : Bool := to.toList.isEmpty || klt p.1 to
theorem filter_ahead (D : Pairs) (hD : Sorted D) (to : ByteArray) : D.filter (ahead to) = D.takeWhile (ahead to) := by
  induction D with
  | nil => simp
  | cons p D ih =>
    obtain ⟨hp, hD'⟩ := List.pairwise_cons.1 hD
    rw [List.filter_cons, List.takeWhile_cons]
    by_cases h : ahead to p = true
    · simp [h, ih hD']
    · simp only [h]
      simp only [Bool.not_eq_true] at h
      simp only [Bool.false_eq_true, if_false]
      rw [List.filter_eq_nil_iff]
      intro q hq
      have h1 := hp q hq
      unfold ahead at *
      simp only [Bool.or_eq_false_iff] at h
      simp only [h.1, Bool.false_or, Bool.not_eq_true]
      rw [Bool.eq_false_iff]; intro h2
      rw [klt_trans h1 h2] at h; cases h.2
theorem rangeT_eq (T : Pairs) (hT : Sorted T) (frm to : ByteArray) : rangeT T frm to = (T.drop (spotOf T frm)).takeWhile (ahead to) := by
  rw [drop_spot T hT, ← filter_ahead _ (hT.filter _), List.filter_filter]
  unfold rangeT ahead
  congr 1
  funext p
  rw [Bool.and_comm]
theorem takeWhile_stop {α : Type} {p : α → Bool} {l a r : List α} {x : α} (h : l = a ++ x :: r) (ha : ∀ y ∈ a, p y = true) (hx : p x = false) : l.takeWhile p = a := by
  subst h
  induction a with
  | nil => simp [hx]
  | cons y a ih =>
    rw [List.cons_append, List.takeWhile_cons, ha y (by simp)]
    simp only [if_true]
    rw [ih fun z hz => ha z (by simp [hz])]
theorem takeWhile_all {α : Type} {p : α → Bool} {l : List α} (h : ∀ y ∈ l, p y = true) : l.takeWhile p = l := by
  induction l with
  | nil => rfl
  | cons y l ih => rw [List.takeWhile_cons, h y (by simp)]; simp only [if_true]; rw [ih fun z hz => h z (by simp [hz])]
end Go.Proofs.Ytlomeohcgjgpjaa
