/- The document's store in plain terms: what lives behind events (doneL), what a key has (hasL), At. No program is run. A key's history in plain terms: what it shows behind a put and behind a tombstone. No program is run. What an event does to a store's bounds (StOk), and keys looked up behind a key was set. Plain facts; no program is run. What a store shows of a key behind a put and a tombstone. Plain facts; no program is run. The program's store and the document's: the coupling (Cpl), and that an event keeps it. Plain facts; no program is run. What the program's 'between' tells is what the document's store has in the range. Plain facts; no program is run. The document's store behind a Compact. Plain facts; no program is run. -/
import Derived.Test.YthljnnjpmdgkoaaG04
import Derived.Test.YthljnnjpmdgkoaaG07
import Derived.Test.YthljnnjpmdgkoaaG09
namespace Go.Proofs.Ythljnnjpmdgkoaa
open Go Go.Proofs Go.RowKit

/-- Kvs in the order of their keys, no key twice. -/
def KSorted (l : List Kv) : Prop := l.Pairwise fun a b => klt a.key b.key = true
/-- What a key has. -/
def hasL (l : List Kv) (key : ByteArray) : Option Kv := l.find? fun k => keq k.key key
/-- What lives behind an event. -/
def doneL : List Kv → Ev → List Kv
  | [], x => if x.kind = 1 then [x.kv] else []
  | k :: l, x => if klt k.key x.kv.key = true then k :: doneL l x else (if x.kind = 1 then [x.kv] else []) ++ (if keq k.key x.kv.key = true then l else k :: l)

theorem mem_doneL {l : List Kv} (h : KSorted l) (x : Ev) (y : Kv) : y ∈ doneL l x ↔ (x.kind = 1 ∧ y = x.kv) ∨ (y ∈ l ∧ keq y.key x.kv.key = false) := by
  induction l with
  | nil => unfold doneL; split <;> simp_all
  | cons k l ih =>
    obtain ⟨h1, h2⟩ := List.pairwise_cons.1 h
    unfold doneL
    split
    · rename_i hk
      rw [List.mem_cons, ih h2, List.mem_cons]
      have := klt_ne hk
      constructor
      · rintro (rfl | h | ⟨h, h'⟩)
        · exact .inr ⟨.inl rfl, this⟩
        · exact .inl h
        · exact .inr ⟨.inr h, h'⟩
      · rintro (h | ⟨rfl | h, h'⟩)
        · exact .inr (.inl h)
        · exact .inl rfl
        · exact .inr (.inr ⟨h, h'⟩)
    · rename_i hk
      have hk' : klt k.key x.kv.key = false := by simpa using hk
      have hl : ∀ z ∈ l, keq z.key x.kv.key = false := fun z hz => by
        have h3 := klt_of_le_lt hk' (h1 z hz)
        rw [keq_comm]; exact klt_ne h3
      rw [List.mem_append]
      refine or_congr ?_ ?_
      · split <;> simp_all
      · split
        · rename_i he
          constructor
          · exact fun hy => ⟨List.mem_cons_of_mem _ hy, hl y hy⟩
          · rintro ⟨hy, hy'⟩
            rcases List.mem_cons.1 hy with rfl | hy
            · rw [he] at hy'; cases hy'
            · exact hy
        · rename_i he
          constructor
          · intro hy
            refine ⟨hy, ?_⟩
            rcases List.mem_cons.1 hy with rfl | hy
            · simpa using he
            · exact hl y hy
          · exact fun hy => hy.1

theorem doneL_sorted {l : List Kv} (h : KSorted l) (x : Ev) : KSorted (doneL l x) := by
  induction l with
  | nil => unfold doneL KSorted; split <;> simp
  | cons k l ih =>
    obtain ⟨h1, h2⟩ := List.pairwise_cons.1 h
    unfold doneL
    split
    · rename_i hk
      refine List.pairwise_cons.2 ⟨fun y hy => ?_, ih h2⟩
      rcases (mem_doneL h2 x y).1 hy with ⟨_, rfl⟩ | ⟨h3, _⟩
      · exact hk
      · exact h1 y h3
    · rename_i hk
      have hk' : klt k.key x.kv.key = false := by simpa using hk
      have hl : ∀ z ∈ l, klt x.kv.key z.key = true := fun z hz => klt_of_le_lt hk' (h1 z hz)
      refine List.pairwise_append.2 ⟨by split <;> simp, ?_, fun a ha b hb => ?_⟩
      · split
        · exact h2
        · exact h
      · split at ha
        · obtain rfl := List.mem_singleton.1 ha
          split at hb
          · exact hl b hb
          · rename_i he
            rcases List.mem_cons.1 hb with rfl | hb
            · rcases klt_tri x.kv.key b.key with e | e | e
              · exact e
              · exact absurd (keq_iff.2 e.symm) he
              · rw [e] at hk'; cases hk'
            · exact hl b hb
        · simp at ha

theorem hasL_iff {l : List Kv} (h : KSorted l) (key : ByteArray) (y : Kv) : hasL l key = some y ↔ y ∈ l ∧ y.key = key := by
  constructor
  · intro hy
    exact ⟨List.mem_of_find?_eq_some hy, keq_iff.1 (by simpa using List.find?_some hy)⟩
  · rintro ⟨hy, rfl⟩
    unfold hasL
    induction l with
    | nil => cases hy
    | cons k l ih =>
      obtain ⟨h1, h2⟩ := List.pairwise_cons.1 h
      rw [List.find?_cons]
      rcases List.mem_cons.1 hy with rfl | hy
      · rw [keq_iff.2 rfl]
      · rw [klt_ne (h1 y hy)]
        exact ih h2 hy

theorem opt_ext {α : Type} {a b : Option α} (h : ∀ y, a = some y ↔ b = some y) : a = b := by
  cases a with
  | none =>
    cases b with
    | none => rfl
    | some y => exact ((h y).2 rfl)
  | some x => exact ((h x).1 rfl).symm

theorem hasL_doneL {l : List Kv} (h : KSorted l) (x : Ev) (key : ByteArray) : hasL (doneL l x) key = if keq key x.kv.key = true then (if x.kind = 1 then some x.kv else none) else hasL l key := by
  refine opt_ext fun y => ?_
  rw [hasL_iff (doneL_sorted h x), mem_doneL h]
  by_cases hk : keq key x.kv.key = true
  · rw [if_pos hk]
    have hk' := keq_iff.1 hk
    constructor
    · rintro ⟨⟨h1, rfl⟩ | ⟨_, h2⟩, h3⟩
      · rw [if_pos h1]
      · rw [h3, hk] at h2; cases h2
    · intro hy
      split at hy
      · rename_i h1
        obtain rfl := Option.some.inj hy
        exact ⟨.inl ⟨h1, rfl⟩, hk'.symm⟩
      · cases hy
  · rw [if_neg hk, hasL_iff h]
    constructor
    · rintro ⟨⟨h1, rfl⟩ | ⟨h1, _⟩, rfl⟩
      · exact absurd (keq_iff.2 rfl) hk
      · exact ⟨h1, rfl⟩
    · rintro ⟨h1, rfl⟩
      exact ⟨.inr ⟨h1, by simpa using hk⟩, rfl⟩

/-- Two lists in order that have the same of every key are one. -/
theorem ksorted_ext {l m : List Kv} (h : KSorted l) (h' : KSorted m) (he : ∀ key, hasL l key = hasL m key) : l = m := by
  have hm : ∀ y, y ∈ l ↔ y ∈ m := fun y => by
    have h1 := hasL_iff h y.key y
    have h2 := hasL_iff h' y.key y
    rw [he] at h1
    constructor
    · intro hy; exact (h2.1 (h1.2 ⟨hy, rfl⟩)).1
    · intro hy; exact (h1.1 (h2.2 ⟨hy, rfl⟩)).1
  clear he
  induction l generalizing m with
  | nil =>
    cases m with
    | nil => rfl
    | cons b m => exact absurd ((hm b).2 List.mem_cons_self) (by simp)
  | cons a l ih =>
    obtain ⟨a1, a2⟩ := List.pairwise_cons.1 h
    cases m with
    | nil => exact absurd ((hm a).1 List.mem_cons_self) (by simp)
    | cons b m =>
      obtain ⟨b1, b2⟩ := List.pairwise_cons.1 h'
      have hab : a = b := by
        rcases List.mem_cons.1 ((hm a).1 List.mem_cons_self) with e | e
        · exact e
        · rcases List.mem_cons.1 ((hm b).2 List.mem_cons_self) with e' | e'
          · exact e'.symm
          · have h1 := b1 a e
            have h2 := klt_asymm (a1 b e')
            rw [h1] at h2; cases h2
      subst hab
      congr 1
      refine ih a2 b2 fun y => ?_
      constructor
      · intro hy
        rcases List.mem_cons.1 ((hm y).1 (List.mem_cons_of_mem _ hy)) with rfl | e
        · have := a1 y hy; rw [klt_irrefl] at this; cases this
        · exact e
      · intro hy
        rcases List.mem_cons.1 ((hm y).2 (List.mem_cons_of_mem _ hy)) with rfl | e
        · have := b1 y hy; rw [klt_irrefl] at this; cases this
        · exact e

/-- The document's store. -/
structure Doc where
  rev : Int
  mark : Int
  kvs : List Kv
  events : List Ev
/-- What lives at a revision from the mark on. -/
def Doc.at (D : Doc) (r : Int) : List Kv := (D.events.filter fun e => decide (D.mark < e.kv.mod) && decide (e.kv.mod ≤ r)).foldl doneL D.kvs
theorem foldl_doneL_sorted {l : List Kv} (h : KSorted l) (es : List Ev) : KSorted (es.foldl doneL l) := by
  induction es generalizing l with
  | nil => exact h
  | cons e es ih => exact ih (doneL_sorted h e)
theorem Doc.at_sorted {D : Doc} (h : KSorted D.kvs) (r : Int) : KSorted (D.at r) := foldl_doneL_sorted h _
end Go.Proofs.Ythljnnjpmdgkoaa

namespace Go.Proofs.Ythljnnjpmdgkoaa
open Go Go.Proofs Go.RowKit

/-- A history whose changes are at most M. -/
structure HInv (M : Int) (H : Hist) : Prop where
  puts : ∀ x ∈ H.gens, ∀ p ∈ x.puts, 1 ≤ p ∧ p ≤ M
  ends : ∀ x ∈ H.gens, 0 ≤ x.end_ ∧ x.end_ ≤ M
  full : ∀ x ∈ H.gens, x.puts ≠ []
  zero : H.kvs 0 = none

theorem upTo_all {l : List Int} {r : Int} (h : ∀ p ∈ l, p ≤ r) : upTo l r = l.length := by
  unfold upTo
  exact List.findIdx_eq_length_of_false fun p hp => by have := h p hp; simp; omega
theorem upTo_snoc_lt {l : List Int} {r R : Int} (h : r < R) : upTo (l ++ [R]) r = upTo l r := by
  unfold upTo
  rw [List.findIdx_append]
  split
  · rfl
  · rename_i hn
    have h1 : l.findIdx (fun p => decide (r < p)) = l.length := by
      have := List.findIdx_le_length (p := fun p => decide (r < p)) (xs := l); omega
    rw [h1]
    simp [List.findIdx_cons, h]

theorem atK_nil (r : Int) : atK [] r = ((0, 0, 0), false) := rfl
theorem atK_snoc (K : List Gen) (x : Gen) (r : Int) : atK (K ++ [x]) r = if upTo x.puts r ≠ 0 then (if 0 < x.end_ ∧ x.end_ ≤ r then ((0, 0, 0), false) else ((x.create, x.puts[upTo x.puts r - 1]?.getD 0, x.cut + upTo x.puts r), true)) else atK K r := by
  unfold atK
  rw [List.reverse_append, List.reverse_singleton, List.singleton_append, List.find?_cons]
  by_cases h : upTo x.puts r = 0
  · simp [h]
  · have hb : (upTo x.puts r != 0) = true := by simpa using h
    rw [hb, if_pos h]
theorem open_snoc {K : List Gen} (h : isOpen K = true) : ∃ L x, K = L ++ [x] ∧ x.end_ = 0 := by
  unfold isOpen at h
  cases hl : K.getLast? with
  | none => rw [hl] at h; cases h
  | some x =>
    rw [hl] at h
    obtain ⟨L, rfl⟩ := List.getLast?_eq_some_iff.1 hl
    exact ⟨L, x, rfl, by simpa using h⟩
theorem modify_snoc (L : List Gen) (x : Gen) (f : Gen → Gen) : (L ++ [x]).modify ((L ++ [x]).length - 1) f = L ++ [f x] := by
  apply List.ext_getElem?
  intro i
  rw [List.getElem?_modify]
  simp only [List.length_append, List.length_singleton, Nat.add_sub_cancel]
  rcases Nat.lt_trichotomy i L.length with h | h | h
  · rw [List.getElem?_append_left h, List.getElem?_append_left h]; have : ¬ L.length = i := by omega
    cases L[i]? <;> simp [this]
  · subst h; simp
  · rw [List.getElem?_eq_none (by simp; omega), List.getElem?_eq_none (by simp; omega)]; simp

theorem atK_put_lt (K : List Gen) {r R : Int} (h : r < R) : atK (putK K R) r = atK K r := by
  unfold putK
  split
  · rename_i ho
    obtain ⟨L, x, rfl, hx⟩ := open_snoc ho
    rw [modify_snoc, atK_snoc, atK_snoc, upTo_snoc_lt h]
    have := upTo_le x.puts r
    split
    · rw [List.getElem?_append_left (by omega)]
    · rfl
  · rw [atK_snoc, if_neg]
    simp [upTo, List.findIdx_cons, h]
theorem atK_put_ge {K : List Gen} {r R : Int} (hK : ∀ x ∈ K, ∀ p ∈ x.puts, p < R) (h : R ≤ r) : (atK (putK K R) r).1.2.1 = R ∧ (atK (putK K R) r).2 = true := by
  unfold putK
  split
  · rename_i ho
    obtain ⟨L, x, rfl, hx⟩ := open_snoc ho
    have hu : upTo (x.puts ++ [R]) r = x.puts.length + 1 := by
      rw [upTo_all]
      · simp
      · intro p hp
        rcases List.mem_append.1 hp with e | e
        · have := hK x (by simp) p e; omega
        · rw [List.mem_singleton.1 e]; exact h
    rw [modify_snoc, atK_snoc]
    dsimp only
    rw [hu, if_pos (by omega), if_neg (by omega)]
    simp
  · have hu : upTo [R] r = 1 := upTo_all (by simpa using h)
    rw [atK_snoc]
    dsimp only
    rw [hu, if_pos (by omega), if_neg (by omega)]
    simp
theorem atK_tomb_lt {K : List Gen} (ho : isOpen K = true) {r R : Int} (h : r < R) : atK (tombK K R) r = atK K r := by
  obtain ⟨L, x, rfl, hx⟩ := open_snoc ho
  unfold tombK
  rw [modify_snoc, atK_snoc, atK_snoc]
  dsimp only
  rw [if_neg (show ¬ (0 < R ∧ R ≤ r) by omega), if_neg (show ¬ (0 < x.end_ ∧ x.end_ ≤ r) by omega)]
theorem atK_tomb_ge {K : List Gen} (ho : isOpen K = true) {r R : Int} (hK : ∀ x ∈ K, ∀ p ∈ x.puts, p ≤ R) (hf : ∀ x ∈ K, x.puts ≠ []) (h1 : 1 ≤ R) (h : R ≤ r) : atK (tombK K R) r = ((0, 0, 0), false) := by
  obtain ⟨L, x, rfl, hx⟩ := open_snoc ho
  unfold tombK
  rw [modify_snoc, atK_snoc]
  dsimp only
  have hu : upTo x.puts r = x.puts.length := upTo_all fun p hp => by have := hK x (by simp) p hp; omega
  have : 0 < x.puts.length := List.length_pos_iff.2 (hf x (by simp))
  rw [hu, if_pos (by omega), if_pos (by omega)]

/-- What a history shows is one of its puts. -/
theorem atK_mem {K : List Gen} {r M : Int} (hK : ∀ x ∈ K, ∀ p ∈ x.puts, p ≤ M) : (atK K r).1.2.1 ≤ M ∨ (atK K r).1.2.1 = 0 := by
  unfold atK
  split
  · exact .inr rfl
  · rename_i x hx
    have hm := List.mem_reverse.1 (List.mem_of_find?_eq_some hx)
    split
    · exact .inr rfl
    · dsimp only
      cases hp : x.puts[upTo x.puts r - 1]? with
      | none => exact .inr rfl
      | some p => exact .inl (hK x hm p (List.mem_of_getElem? hp))
theorem hadH_put {M : Int} {H : Hist} (h : HInv M H) (x : Kv) (hM : M < x.mod) (h1 : 1 ≤ x.mod) (r : Int) : hadH (putH H x) r = if r < x.mod then hadH H r else (x, true) := by
  split
  · rename_i hr
    unfold hadH putH
    dsimp only
    rw [atK_put_lt _ hr, if_neg]
    rcases atK_mem (r := r) fun y hy p hp => (h.puts y hy p hp).2 with e | e <;> omega
  · rename_i hr
    obtain ⟨e1, e2⟩ := atK_put_ge (r := r) (R := x.mod) (K := H.gens) (fun y hy p hp => by have := (h.puts y hy p hp).2; omega) (by omega)
    unfold hadH putH
    dsimp only
    rw [e1, e2, if_pos rfl]
    rfl
theorem hadH_tomb {M : Int} {H : Hist} (h : HInv M H) (ho : isOpen H.gens = true) {R : Int} (hM : M < R) (h1 : 1 ≤ R) (r : Int) : hadH (tombH H R) r = if r < R then hadH H r else (kv0, false) := by
  split
  · rename_i hr
    unfold hadH tombH
    dsimp only
    rw [atK_tomb_lt ho hr]
  · rename_i hr
    unfold hadH tombH
    dsimp only
    rw [atK_tomb_ge ho (fun y hy p hp => by have := (h.puts y hy p hp).2; omega) h.full h1 (by omega)]
    dsimp only
    rw [h.zero]
    rfl
theorem HInv.put {M : Int} {H : Hist} (h : HInv M H) (x : Kv) (hM : M < x.mod) (h1 : 1 ≤ x.mod) : HInv x.mod (putH H x) := by
  have hz : (putH H x).kvs 0 = none := by unfold putH; dsimp only; rw [if_neg (by omega)]; exact h.zero
  have hg : ∀ y ∈ (putH H x).gens, (∀ p ∈ y.puts, 1 ≤ p ∧ p ≤ x.mod) ∧ (0 ≤ y.end_ ∧ y.end_ ≤ x.mod) ∧ y.puts ≠ [] := by
    unfold putH putK
    dsimp only
    split
    · rename_i ho
      obtain ⟨L, z, hLz, hz⟩ := open_snoc ho
      rw [hLz, modify_snoc]
      have hb := h.puts
      have he := h.ends
      have hf := h.full
      rw [hLz] at hb he hf
      intro y hy
      rcases List.mem_append.1 hy with e | e
      · have hm := List.mem_append_left [z] e
        exact ⟨fun p hp => by have := hb y hm p hp; omega, by have := he y hm; omega, hf y hm⟩
      · rw [List.mem_singleton.1 e]
        refine ⟨fun p hp => ?_, by dsimp only; omega, by simp⟩
        rcases List.mem_append.1 hp with e | e
        · have := hb z (by simp) p e; omega
        · rw [List.mem_singleton.1 e]; omega
    · intro y hy
      rcases List.mem_append.1 hy with e | e
      · exact ⟨fun p hp => by have := h.puts y e p hp; omega, by have := h.ends y e; omega, h.full y e⟩
      · rw [List.mem_singleton.1 e]
        exact ⟨fun p hp => by rw [List.mem_singleton.1 hp]; omega, by dsimp only; omega, by simp⟩
  exact ⟨fun y hy => (hg y hy).1, fun y hy => (hg y hy).2.1, fun y hy => (hg y hy).2.2, hz⟩
theorem HInv.tomb {M : Int} {H : Hist} (h : HInv M H) (ho : isOpen H.gens = true) {R : Int} (hM : M < R) (h1 : 1 ≤ R) : HInv R (tombH H R) := by
  obtain ⟨L, z, hLz, hz⟩ := open_snoc ho
  have hb := h.puts
  have he := h.ends
  have hf := h.full
  have hg : ∀ y ∈ (tombH H R).gens, (∀ p ∈ y.puts, 1 ≤ p ∧ p ≤ R) ∧ (0 ≤ y.end_ ∧ y.end_ ≤ R) ∧ y.puts ≠ [] := by
    unfold tombH tombK
    dsimp only
    rw [hLz, modify_snoc]
    rw [hLz] at hb he hf
    intro y hy
    rcases List.mem_append.1 hy with e | e
    · have hm := List.mem_append_left [z] e
      exact ⟨fun p hp => by have := hb y hm p hp; omega, by have := he y hm; omega, hf y hm⟩
    · rw [List.mem_singleton.1 e]
      exact ⟨fun p hp => by have := hb z (by simp) p hp; omega, ⟨by dsimp only; omega, Int.le_refl _⟩, hf z (by simp)⟩
  exact ⟨fun y hy => (hg y hy).1, fun y hy => (hg y hy).2.1, fun y hy => (hg y hy).2.2, h.zero⟩
theorem HInv.new (M : Int) : HInv M newH := ⟨by simp [newH], by simp [newH], by simp [newH], rfl⟩
theorem HInv.mono {M M' : Int} {H : Hist} (h : HInv M H) (hM : M ≤ M') : HInv M' H := ⟨fun x hx p hp => by have := h.puts x hx p hp; omega, fun x hx => by have := h.ends x hx; omega, h.full, h.zero⟩
/-- Behind its last change a history shows just what is open. -/
theorem hadH_open {M : Int} {H : Hist} (h : HInv M H) {r : Int} (hr : M ≤ r) : (hadH H r).2 = isOpen H.gens := by
  show (atK H.gens r).2 = isOpen H.gens
  unfold isOpen
  cases hl : H.gens.getLast? with
  | none => rw [List.getLast?_eq_none_iff.1 hl]; rfl
  | some x =>
    obtain ⟨L, hL⟩ := List.getLast?_eq_some_iff.1 hl
    have hx : x ∈ H.gens := by rw [hL]; simp
    have hu : upTo x.puts r = x.puts.length := upTo_all fun p hp => by have := (h.puts x hx p hp).2; omega
    have := List.length_pos_iff.2 (h.full x hx)
    have he := h.ends x hx
    rw [hL, atK_snoc, hu, if_pos (by omega)]
    dsimp only
    by_cases h0 : x.end_ = 0
    · rw [if_neg (by omega)]; simp [h0]
    · rw [if_pos (by omega)]; simp [h0]
end Go.Proofs.Ythljnnjpmdgkoaa

namespace Go.Proofs.Ythljnnjpmdgkoaa
open Go Go.Proofs Go.RowKit
set_option maxRecDepth 100000

theorem getT_cons (q : ByteArray × Int) (X : Pairs) (k : ByteArray) : getT (q :: X) k = if keq q.1 k then (q.2, true) else getT X k := by
  unfold getT
  rw [List.find?_cons]
  cases h : keq q.1 k <;> simp
theorem getT_insT (T : Pairs) (k : ByteArray) (m : Int) (k' : ByteArray) : getT (insT T k m) k' = if keq k k' then (m, true) else getT T k' := by
  induction T with
  | nil =>
    unfold insT
    rw [getT_cons]
  | cons p T ih =>
    unfold insT
    split
    · rename_i h
      rw [getT_cons, getT_cons, ih]
      cases h1 : keq p.1 k' <;> cases h2 : keq k k' <;> simp
      have e1 := keq_iff.1 h1
      have e2 := keq_iff.1 h2
      rw [e1, e2, klt_irrefl] at h
      cases h
    · split
      · rename_i h2
        rw [getT_cons, getT_cons]
        cases h1 : keq k k' with
        | true => simp
        | false =>
          have : keq p.1 k' = false := by rw [keq_iff.1 h2]; exact h1
          simp [this]
      · rw [getT_cons]
theorem mem_insT {T : Pairs} {k : ByteArray} {m : Int} {q : ByteArray × Int} (h : q ∈ insT T k m) : q ∈ T ∨ q = (k, m) := by
  induction T with
  | nil => exact .inr (by simpa [insT] using h)
  | cons p T ih =>
    unfold insT at h
    split at h
    · rcases List.mem_cons.1 h with h | h
      · exact .inl (by simp [h])
      · rcases ih h with h | h
        · exact .inl (by simp [h])
        · exact .inr h
    · split at h
      · rcases List.mem_cons.1 h with h | h
        · exact .inr h
        · exact .inl (by simp [h])
      · rcases List.mem_cons.1 h with h | h
        · exact .inr h
        · exact .inl h
theorem getT_mem {T : Pairs} {k : ByteArray} (h : (getT T k).2 = true) : (k, (getT T k).1) ∈ T := by
  unfold getT at h ⊢
  cases hf : T.find? fun p => keq p.1 k with
  | none => rw [hf] at h; cases h
  | some p =>
    have h1 := List.mem_of_find?_eq_some hf
    have h2 := List.find?_some hf
    have h3 := keq_iff.1 h2
    obtain ⟨a, b⟩ := p
    dsimp only at h3 ⊢
    subst h3
    exact h1

theorem mem_modify' {α : Type} {l : List α} {i : Nat} {f : α → α} {y : α} (h : y ∈ l.modify i f) : ∃ x ∈ l, y = x ∨ y = f x := by
  obtain ⟨j, hj⟩ := List.mem_iff_getElem?.1 h
  rw [List.getElem?_modify] at hj
  cases hx : l[j]? with
  | none => rw [hx] at hj; simp at hj
  | some x =>
    rw [hx] at hj
    refine ⟨x, List.mem_of_getElem? hx, ?_⟩
    by_cases hi : i = j
    · right; simpa [hi] using hj.symm
    · left; simpa [hi] using hj.symm

theorem HistOk.mono {n m : Nat} {H : Hist} (h : HistOk n H) (hm : n ≤ m) : HistOk m H :=
  ⟨Nat.le_trans h.len hm, fun x hx => ⟨Nat.le_trans (h.puts x hx).1 hm, (h.puts x hx).2⟩⟩
theorem newH_ok (n : Nat) : HistOk n newH := ⟨by simp [newH], by simp [newH]⟩
theorem putH_ok {n : Nat} {H : Hist} (h : HistOk n H) (x : Kv) (h1 : 1 ≤ x.mod) (h2 : x.mod ≤ top) : HistOk (n + 1) (putH H x) := by
  unfold putH putK
  refine ⟨?_, fun y hy => ?_⟩
  · have := h.len
    dsimp only
    split
    · rw [List.length_modify]; omega
    · simp; omega
  · dsimp only at hy
    split at hy
    · obtain ⟨z, hz, e | e⟩ := mem_modify' hy
      · subst e
        exact ⟨Nat.le_succ_of_le (h.puts y hz).1, (h.puts y hz).2⟩
      · subst e
        have := h.puts z hz
        refine ⟨by simp; omega, this.2.1, this.2.2.1, fun p hp => ?_⟩
        rcases List.mem_append.1 hp with hp | hp
        · exact this.2.2.2 p hp
        · rw [List.mem_singleton.1 hp]; exact ⟨h1, h2⟩
    · rcases List.mem_append.1 hy with hy | hy
      · exact ⟨Nat.le_succ_of_le (h.puts y hy).1, (h.puts y hy).2⟩
      · rw [List.mem_singleton.1 hy]
        refine ⟨by simp, by simp, by simp [top], fun p hp => ?_⟩
        rw [List.mem_singleton.1 hp]; exact ⟨h1, h2⟩
theorem tombH_ok {n : Nat} {H : Hist} (h : HistOk n H) (rev : Int) : HistOk n (tombH H rev) := by
  unfold tombH tombK
  refine ⟨by rw [List.length_modify]; exact h.len, fun y hy => ?_⟩
  obtain ⟨z, hz, e | e⟩ := mem_modify' hy
  · subst e; exact h.puts y hz
  · subst e; exact h.puts z hz

theorem StOk.mono {n m : Nat} {S : St} (h : StOk n S) (hm : n ≤ m) : StOk m S :=
  { h with next := Int.le_trans h.next (by omega), hist := fun i H hi => ⟨(h.hist i H hi).1.mono hm, (h.hist i H hi).2⟩, ev := Nat.le_trans h.ev hm }

theorem madeS_ok {n : Nat} {S : St} (h : StOk n S) (key : ByteArray) :
    StOk (n + 1) (madeS S key) ∧ (0 ≤ idS S key ∧ idS S key < (madeS S key).next) ∧ ∃ H, (madeS S key).past (idS S key) = some H ∧ HistOk n H ∧ H.last ≤ top := by
  unfold madeS idS
  cases hg : (getT S.T key).2 with
  | true =>
    simp only [if_true]
    obtain ⟨H, hH⟩ := h.id _ (getT_mem hg)
    exact ⟨h.mono (by omega), h.ids _ H hH, H, hH, (h.hist _ H hH).1, (h.hist _ H hH).2⟩
  | false =>
    simp only [if_false, Bool.false_eq_true]
    refine ⟨{ pos := by have := h.pos; dsimp only; omega, next := by have := h.next; dsimp only; omega, id := fun p hp => ?_, ids := fun i H hi => ?_, hist := fun i H hi => ?_, rev0 := h.rev0, rev1 := h.rev1, mark0 := h.mark0, ev := Nat.le_succ_of_le h.ev }, ⟨h.pos, by omega⟩, newH, by simp, newH_ok n, by simp [newH, top]⟩
    · dsimp only at hp ⊢
      by_cases e : p.2 = S.next
      · exact ⟨newH, by rw [if_pos e]⟩
      · rw [if_neg e]
        rcases mem_insT hp with hp | hp
        · exact h.id p hp
        · exact absurd (by rw [hp]) e
    · dsimp only at hi ⊢
      have := h.pos
      by_cases e : i = S.next
      · omega
      · rw [if_neg e] at hi
        have := h.ids i H hi
        omega
    · dsimp only at hi
      by_cases e : i = S.next
      · rw [if_pos e] at hi
        obtain rfl := Option.some.inj hi
        exact ⟨newH_ok _, by simp [newH, top]⟩
      · rw [if_neg e] at hi
        exact ⟨(h.hist i H hi).1.mono (by omega), (h.hist i H hi).2⟩

theorem putS_ok {n : Nat} {S : St} (h : StOk n S) (x : Kv) (h1 : 1 ≤ x.mod) (h2 : x.mod ≤ top) : StOk (n + 1) (putS S x) := by
  obtain ⟨hm, hid, H0, hH0, hk0, hl0⟩ := madeS_ok h x.key
  unfold putS
  rw [hH0]
  refine { pos := hm.pos, next := hm.next, id := fun p hp => ?_, ids := fun i H hi => ?_, hist := fun i H hi => ?_, rev0 := hm.rev0, rev1 := hm.rev1, mark0 := hm.mark0, ev := hm.ev }
  · dsimp only
    split
    · exact ⟨_, rfl⟩
    · exact hm.id p hp
  · dsimp only at hi ⊢
    split at hi
    · rename_i e; rw [e]; exact hid
    · exact hm.ids i H hi
  · dsimp only at hi
    split at hi
    · obtain rfl := Option.some.inj hi
      exact ⟨putH_ok hk0 x h1 h2, h2⟩
    · exact hm.hist i H hi

theorem tombS_ok {n : Nat} {S : St} (h : StOk n S) (x : Kv) (h2 : x.mod ≤ top) : StOk n (tombS S x) := by
  unfold tombS
  split
  · rename_i hg
    refine { pos := h.pos, next := h.next, id := fun p hp => ?_, ids := fun i H hi => ?_, hist := fun i H hi => ?_, rev0 := h.rev0, rev1 := h.rev1, mark0 := h.mark0, ev := h.ev }
    · dsimp only
      split
      · obtain ⟨H, hH⟩ := h.id _ (getT_mem hg)
        dsimp only at hH
        exact ⟨_, by rw [hH]; rfl⟩
      · exact h.id p hp
    · dsimp only at hi ⊢
      split at hi
      · rename_i e
        cases hH : S.past (getT S.T x.key).1 with
        | none => rw [hH] at hi; cases hi
        | some H0 => rw [e]; exact h.ids _ H0 hH
      · exact h.ids i H hi
    · dsimp only at hi
      split at hi
      · cases hH : S.past (getT S.T x.key).1 with
        | none => rw [hH] at hi; cases hi
        | some H0 =>
          rw [hH] at hi
          obtain rfl := Option.some.inj hi
          exact ⟨tombH_ok (h.hist _ H0 hH).1 _, h2⟩
      · exact h.hist i H hi
  · exact h

theorem doneS_ok {n : Nat} {S : St} (h : StOk n S) (x : Ev) (h1 : 1 ≤ x.kv.mod) (h2 : x.kv.mod ≤ top) : StOk (n + 1) (doneS S x) := by
  unfold doneS
  split
  · exact putS_ok h _ h1 h2
  · exact (tombS_ok h _ h2).mono (by omega)
theorem doS_ok {n : Nat} {S : St} (h : StOk n S) (x : Ev) (h1 : 1 ≤ x.kv.mod) (h2 : x.kv.mod ≤ top) : StOk (n + 1) (doS S x) := by
  have hd := doneS_ok h x h1 h2
  have he := doneS_events S x
  unfold doS
  refine { hd with ev := ?_ }
  dsimp only
  rw [he]
  have := h.ev
  simp; omega
theorem StOk.setRev {n : Nat} {S : St} (h : StOk n S) (r : Int) (h0 : -top ≤ r) (h1 : r ≤ top) : StOk n { S with rev := r } := { h with rev0 := h0, rev1 := h1 }
end Go.Proofs.Ythljnnjpmdgkoaa

namespace Go.Proofs.Ythljnnjpmdgkoaa
open Go Go.Proofs Go.RowKit

/-- Each key of the tree has a history of its own; changes are at most M. -/
structure SInv (M : Int) (S : St) : Prop where
  inj : ∀ k k', (getT S.T k).2 = true → (getT S.T k').2 = true → (getT S.T k).1 = (getT S.T k').1 → k = k'
  has : ∀ k, (getT S.T k).2 = true → ∃ H, S.past (getT S.T k).1 = some H
  hist : ∀ i H, S.past i = some H → (HInv H.last H ∧ H.last ≤ M) ∧ i < S.next
theorem hadH_new (r : Int) : hadH newH r = (kv0, false) := rfl
theorem SInv.made {M : Int} {S : St} (h : SInv M S) (hM0 : 0 ≤ M) (key : ByteArray) : SInv M (madeS S key) ∧ (getT (madeS S key).T key).2 = true ∧ (getT (madeS S key).T key).1 = idS S key ∧ ∀ k r, livesS (madeS S key) k r = livesS S k r := by
  unfold madeS idS
  cases hg : (getT S.T key).2 with
  | true => simp only [if_true]; exact ⟨h, by first | trivial | exact hg, by trivial, fun _ _ => by trivial⟩
  | false =>
    simp only [Bool.false_eq_true, if_false]
    have hlt : ∀ k, (getT S.T k).2 = true → (getT S.T k).1 < S.next := fun k hk => by
      obtain ⟨H, hH⟩ := h.has k hk; exact (h.hist _ _ hH).2
    refine ⟨⟨fun k k' a b e => ?_, fun k a => ?_, fun i H a => ?_⟩, ?_, ?_, fun k r => ?_⟩
    · dsimp only at a b e
      rw [getT_insT] at a b e
      rw [getT_insT] at e
      split at a <;> split at b <;> rename_i c1 c2
      · exact (keq_iff.1 c1).symm.trans (keq_iff.1 c2)
      · rw [if_pos c1, if_neg c2] at e; have := hlt k' b; dsimp only at e; omega
      · rw [if_neg c1, if_pos c2] at e; have := hlt k a; dsimp only at e; omega
      · rw [if_neg c1, if_neg c2] at e; exact h.inj k k' a b e
    · dsimp only at a ⊢
      rw [getT_insT] at a ⊢
      split at a
      · exact ⟨newH, by simp [*]⟩
      · rename_i c
        rw [if_neg c]
        have := hlt k a
        rw [if_neg (by omega)]
        exact h.has k a
    · dsimp only at a ⊢
      split at a
      · obtain rfl := Option.some.inj a; exact ⟨⟨HInv.new 0, hM0⟩, by omega⟩
      · have := h.hist i H a; exact ⟨this.1, by omega⟩
    · rw [getT_insT, if_pos (keq_iff.2 rfl)]
    · rw [getT_insT, if_pos (keq_iff.2 rfl)]
    · unfold livesS
      dsimp only
      rw [getT_insT]
      by_cases c : keq key k = true
      · obtain rfl := keq_iff.1 c
        rw [if_pos c, hg]
        simp [hadH_new]
      · rw [if_neg c]
        cases ha : (getT S.T k).2 with
        | false => rfl
        | true => have := hlt k ha; simp only [if_true]; rw [if_neg (by omega)]
theorem SInv.put {M : Int} {S : St} (h : SInv M S) (hM0 : 0 ≤ M) (x : Kv) (hM : M ≤ x.mod) (h1 : 1 ≤ x.mod) (hlast : (getT S.T x.key).2 = true → ∀ H, S.past (getT S.T x.key).1 = some H → H.last < x.mod) : SInv x.mod (putS S x) ∧ ∀ k r, livesS (putS S x) k r = if keq x.key k = true ∧ x.mod ≤ r then (x, true) else livesS S k r := by
  obtain ⟨a, b, c, d⟩ := h.made hM0 x.key
  obtain ⟨H, hH⟩ := a.has _ b
  rw [c] at hH
  have hl : H.last < x.mod := by
    unfold madeS idS at hH
    cases hg : (getT S.T x.key).2 with
    | true => rw [hg, if_pos rfl, if_pos rfl] at hH; exact hlast hg H hH
    | false =>
      simp only [hg, Bool.false_eq_true, if_false, if_true] at hH
      obtain rfl := Option.some.inj hH
      show (0 : Int) < x.mod
      omega
  have hI := (a.hist _ _ hH)
  unfold putS
  rw [hH]
  generalize madeS S x.key = S' at *
  generalize idS S x.key = id at *
  dsimp only [Option.getD_some]
  refine ⟨⟨a.inj, fun k hk => ?_, fun i G hG => ?_⟩, fun k r => ?_⟩
  · dsimp only at hk ⊢
    split
    · exact ⟨_, rfl⟩
    · exact a.has k hk
  · dsimp only at hG ⊢
    split at hG
    · rename_i e
      obtain rfl := Option.some.inj hG
      exact ⟨⟨hI.1.1.put x hl h1, Int.le_refl _⟩, by rw [e]; exact hI.2⟩
    · have := a.hist i G hG
      exact ⟨⟨this.1.1, by omega⟩, this.2⟩
  · rw [← d k r]
    unfold livesS
    dsimp only
    cases hk : (getT S'.T k).2 with
    | false =>
      have hno : ¬ (keq x.key k = true ∧ x.mod ≤ r) := by
        rintro ⟨e, _⟩
        rw [keq_iff.1 e, hk] at b; cases b
      simp only [Bool.false_eq_true, if_false, hno]
    | true =>
      simp only [if_true]
      by_cases e : keq x.key k = true
      · obtain rfl := keq_iff.1 e
        rw [c, if_pos rfl, hH]
        dsimp only
        rw [hadH_put hI.1.1 x hl h1 r]
        by_cases hr : r < x.mod
        · rw [if_pos hr, if_neg (by omega)]
        · rw [if_neg hr, if_pos ⟨e, by omega⟩]
      · have hne : (getT S'.T k).1 ≠ id := fun e' => e (keq_iff.2 (a.inj x.key k b hk (c.trans e'.symm)))
        rw [if_neg hne, if_neg fun h => e h.1]
theorem SInv.tomb {M : Int} {S : St} (h : SInv M S) (x : Kv) (hM : M ≤ x.mod) (h1 : 1 ≤ x.mod) (hk : (getT S.T x.key).2 = true) (hlast : ∀ H, S.past (getT S.T x.key).1 = some H → H.last < x.mod) (ho : ∀ H, S.past (getT S.T x.key).1 = some H → isOpen H.gens = true) :
    SInv x.mod (tombS S x) ∧ ∀ k r, livesS (tombS S x) k r = if keq x.key k = true ∧ x.mod ≤ r then (kv0, false) else livesS S k r := by
  obtain ⟨H, hH⟩ := h.has _ hk
  have hI := h.hist _ _ hH
  have ho' := ho H hH
  unfold tombS
  rw [if_pos hk, hH]
  dsimp only [Option.map_some]
  refine ⟨⟨h.inj, fun k a => ?_, fun i G hG => ?_⟩, fun k r => ?_⟩
  · dsimp only at a ⊢
    split
    · exact ⟨_, rfl⟩
    · exact h.has k a
  · dsimp only at hG ⊢
    split at hG
    · rename_i e
      obtain rfl := Option.some.inj hG
      exact ⟨⟨hI.1.1.tomb ho' (hlast H hH) h1, Int.le_refl _⟩, by rw [e]; exact hI.2⟩
    · have := h.hist i G hG
      exact ⟨⟨this.1.1, by omega⟩, this.2⟩
  · unfold livesS
    dsimp only
    cases ha : (getT S.T k).2 with
    | false =>
      have hno : ¬ (keq x.key k = true ∧ x.mod ≤ r) := by
        rintro ⟨e, _⟩
        rw [keq_iff.1 e, ha] at hk; cases hk
      simp only [Bool.false_eq_true, if_false, hno]
    | true =>
      simp only [if_true]
      by_cases e : keq x.key k = true
      · obtain rfl := keq_iff.1 e
        rw [if_pos rfl, hH]
        dsimp only
        rw [hadH_tomb hI.1.1 ho' (hlast H hH) h1 r]
        by_cases hr : r < x.mod
        · rw [if_pos hr, if_neg (by omega)]
        · rw [if_neg hr, if_pos ⟨e, by omega⟩]
      · have hne : (getT S.T k).1 ≠ (getT S.T x.key).1 := fun e' => e (keq_iff.2 (h.inj x.key k hk ha e'.symm))
        rw [if_neg hne, if_neg fun h => e h.1]
end Go.Proofs.Ythljnnjpmdgkoaa

namespace Go.Proofs.Ythljnnjpmdgkoaa
open Go Go.Proofs Go.RowKit

/-- What a key has, as the program's 'lives' tells it. -/
def seen (o : Option Kv) : Kv × Bool := match o with
  | some k => (k, true)
  | none => (kv0, false)
/-- The program's store (ahead of its new revision's number) has what the document's has. -/
structure Cpl (S : St) (D : Doc) : Prop where
  mark : S.mark = D.mark
  events : S.events = D.events
  inv : SInv D.rev S
  ks : KSorted D.kvs
  m0 : 0 ≤ D.mark ∧ D.mark ≤ D.rev
  lives : ∀ key r, D.mark ≤ r → livesS S key r = seen (hasL (D.at r) key)

/-- The document's store behind an event. -/
def Doc.add (D : Doc) (x : Ev) : Doc := { D with rev := x.kv.mod, events := D.events ++ [x] }
theorem Doc.add_at (D : Doc) (x : Ev) (h : D.mark < x.kv.mod) (r : Int) : (D.add x).at r = if x.kv.mod ≤ r then doneL (D.at r) x else D.at r := by
  unfold Doc.at Doc.add
  dsimp only
  rw [List.filter_append, List.foldl_append]
  by_cases hr : x.kv.mod ≤ r
  · rw [if_pos hr]; simp [h, hr]
  · rw [if_neg hr]; simp [hr]
theorem livesS_doS (S : St) (x : Ev) (k : ByteArray) (r : Int) : livesS (doS S x) k r = livesS (doneS S x) k r := rfl
theorem doneS_mark (S : St) (x : Ev) : (doneS S x).mark = S.mark := by
  unfold doneS putS tombS madeS
  dsimp only
  split
  · split <;> rfl
  · split <;> rfl

theorem Cpl.does {S : St} {D : Doc} (h : Cpl S D) (x : Ev) (hM : D.rev ≤ x.kv.mod) (h1 : 1 ≤ x.kv.mod) (hm : D.mark < x.kv.mod) (hlast : (getT S.T x.kv.key).2 = true → ∀ H, S.past (getT S.T x.kv.key).1 = some H → H.last < x.kv.mod)
    (hdel : x.kind ≠ 1 → (getT S.T x.kv.key).2 = true ∧ ∀ H, S.past (getT S.T x.kv.key).1 = some H → isOpen H.gens = true) : Cpl (doS S x) (D.add x) := by
  have hM0 : 0 ≤ D.rev := by have := h.m0; omega
  have key : SInv x.kv.mod (doneS S x) ∧ ∀ k r, livesS (doneS S x) k r = if keq x.kv.key k = true ∧ x.kv.mod ≤ r then (if x.kind = 1 then (x.kv, true) else (kv0, false)) else livesS S k r := by
    unfold doneS
    by_cases hk : x.kind = 1
    · rw [if_pos hk, if_pos hk]
      exact h.inv.put hM0 x.kv hM h1 hlast
    · rw [if_neg hk, if_neg hk]
      obtain ⟨a, b⟩ := hdel hk
      exact h.inv.tomb x.kv hM h1 a (hlast a) b
  refine ⟨(doneS_mark S x).trans h.mark, ?_, ?_, h.ks, ⟨h.m0.1, by have := h.m0; show D.mark ≤ x.kv.mod; omega⟩, fun k r hr => ?_⟩
  · show (doneS S x).events ++ [x] = D.events ++ [x]
    rw [doneS_events, h.events]
  · exact ⟨key.1.inj, key.1.has, key.1.hist⟩
  · rw [livesS_doS, key.2, Doc.add_at D x hm r, h.lives k r hr]
    by_cases hr2 : x.kv.mod ≤ r
    · rw [if_pos hr2, hasL_doneL (Doc.at_sorted h.ks r), keq_comm k]
      by_cases hk : keq x.kv.key k = true
      · rw [if_pos ⟨hk, hr2⟩, if_pos hk]
        split <;> rfl
      · rw [if_neg fun e => hk e.1, if_neg hk]
    · rw [if_neg hr2, if_neg fun e => hr2 e.2]
end Go.Proofs.Ythljnnjpmdgkoaa

namespace Go.Proofs.Ythljnnjpmdgkoaa
open Go Go.Proofs Go.RowKit

theorem getT_of_mem {T : Pairs} (h : Sorted T) {p : ByteArray × Int} (hp : p ∈ T) : getT T p.1 = (p.2, true) := by
  induction T with
  | nil => cases hp
  | cons q T ih =>
    obtain ⟨h1, h2⟩ := List.pairwise_cons.1 h
    rw [getT_cons]
    rcases List.mem_cons.1 hp with rfl | hp
    · rw [keq_iff.2 rfl]; rfl
    · rw [klt_ne (h1 p hp)]; exact ih h2 hp
/-- Is a key at or behind a key, and ahead of another one (empty: no end)? -/
def rgB (frm upr k : ByteArray) : Bool := !klt k frm && (upr.toList.isEmpty || klt k upr)
theorem Cpl.has {S : St} {D : Doc} (h : Cpl S D) {k : ByteArray} {r : Int} (hr : D.mark ≤ r) {y : Kv} (hy : hasL (D.at r) k = some y) : (getT S.T k).2 = true := by
  have h1 := h.lives k r hr
  rw [hy] at h1
  cases hg : (getT S.T k).2 with
  | true => rfl
  | false =>
    unfold livesS at h1
    rw [hg] at h1
    simp [seen] at h1
theorem Cpl.oneL {S : St} {D : Doc} (h : Cpl S D) (hT : Sorted S.T) {r : Int} (hr : D.mark ≤ r) {p : ByteArray × Int} (hp : p ∈ S.T) : Go.Proofs.Ythljnnjpmdgkoaa.oneL S r p = hasL (D.at r) p.1 := by
  have h1 := h.lives p.1 r hr
  have hg := getT_of_mem hT hp
  unfold livesS at h1
  rw [hg] at h1
  simp only [if_true] at h1
  obtain ⟨H, hH⟩ := h.inv.has p.1 (by rw [hg])
  rw [hg] at hH
  unfold Go.Proofs.Ythljnnjpmdgkoaa.oneL
  dsimp only at hH
  rw [hH] at h1 ⊢
  dsimp only at h1 ⊢
  rw [h1]
  cases hasL (D.at r) p.1 <;> simp [seen]
theorem Cpl.between {S : St} {D : Doc} (h : Cpl S D) (hT : Sorted S.T) (frm upr : ByteArray) {r : Int} (hr : D.mark ≤ r) : betweenL S (rangeT S.T frm upr) r = (D.at r).filter fun y => rgB frm upr y.key := by
  have hL := Doc.at_sorted h.ks r
  have hmem : ∀ y, y ∈ betweenL S (rangeT S.T frm upr) r ↔ y ∈ D.at r ∧ rgB frm upr y.key = true := by
    intro y
    unfold betweenL rangeT
    rw [List.mem_filterMap]
    constructor
    · rintro ⟨p, hp, hy⟩
      obtain ⟨hp1, hp2⟩ := List.mem_filter.1 hp
      rw [h.oneL hT hr hp1] at hy
      obtain ⟨a, b⟩ := (hasL_iff hL _ _).1 hy
      exact ⟨a, by rw [b]; exact hp2⟩
    · rintro ⟨hy, hf⟩
      have h1 := (hasL_iff hL y.key y).2 ⟨hy, rfl⟩
      have h2 := getT_mem (h.has hr h1)
      exact ⟨_, List.mem_filter.2 ⟨h2, hf⟩, by rw [h.oneL hT hr h2]; exact h1⟩
  have hs : KSorted (betweenL S (rangeT S.T frm upr) r) := by
    unfold betweenL KSorted
    rw [List.pairwise_filterMap]
    have hR : Sorted (rangeT S.T frm upr) := List.Pairwise.sublist List.filter_sublist hT
    refine List.Pairwise.imp_of_mem (fun {p q} hp hq hpq => ?_) hR
    intro a ha b hb
    rw [h.oneL hT hr (mem_rangeT hp)] at ha
    rw [h.oneL hT hr (mem_rangeT hq)] at hb
    rw [((hasL_iff hL _ _).1 ha).2, ((hasL_iff hL _ _).1 hb).2]
    exact hpq
  have hs2 : KSorted ((D.at r).filter fun y => rgB frm upr y.key) := List.Pairwise.sublist List.filter_sublist hL
  refine ksorted_ext hs hs2 fun key => opt_ext fun y => ?_
  rw [hasL_iff hs, hasL_iff hs2, hmem, List.mem_filter]
end Go.Proofs.Ythljnnjpmdgkoaa

namespace Go.Proofs.Ythljnnjpmdgkoaa
open Go Go.Proofs Go.RowKit

/-- Events in the order of their revisions. -/
def ESorted (l : List Ev) : Prop := l.Pairwise fun a b => a.kv.mod ≤ b.kv.mod
def Doc.cut (D : Doc) (r : Int) : Doc := ⟨D.rev, r, D.at r, D.events.filter fun e => decide (r ≤ e.kv.mod) && decide (e.kv.mod ≤ D.rev)⟩
theorem filter_parts {l : List Ev} (h : ESorted l) (m R r : Int) (h1 : m ≤ R) (h2 : R ≤ r) :
    (l.filter fun e => decide (m < e.kv.mod) && decide (e.kv.mod ≤ r)) = (l.filter fun e => decide (m < e.kv.mod) && decide (e.kv.mod ≤ R)) ++ l.filter fun e => decide (R < e.kv.mod) && decide (e.kv.mod ≤ r) := by
  induction l with
  | nil => rfl
  | cons x l ih =>
    obtain ⟨a1, a2⟩ := List.pairwise_cons.1 h
    have ih := ih a2
    by_cases hx : x.kv.mod ≤ R
    · have hn : ¬ R < x.kv.mod := by omega
      have hr : x.kv.mod ≤ r := by omega
      by_cases hm : m < x.kv.mod
      · simp only [List.filter_cons, hx, hn, hr, hm, decide_true, decide_false, Bool.and_true, Bool.and_self, if_true, Bool.false_eq_true, if_false, List.cons_append]
        rw [ih]
      · simp only [List.filter_cons, hm, hn, decide_false, Bool.false_and, Bool.false_eq_true, if_false]
        exact ih
    · have hnil : (l.filter fun e => decide (m < e.kv.mod) && decide (e.kv.mod ≤ R)) = [] := List.filter_eq_nil_iff.2 fun e he => by have := a1 e he; simp; omega
      rw [hnil] at ih
      have hm : m < x.kv.mod := by omega
      have hR : R < x.kv.mod := by omega
      simp only [List.filter_cons, hx, hm, hR, hnil, decide_true, decide_false, Bool.and_false, Bool.true_and, Bool.false_eq_true, if_false, List.nil_append]
      rw [ih]; rfl
theorem Doc.cut_at {D : Doc} (h : ESorted D.events) {R r : Int} (h1 : D.mark ≤ R) (h2 : R ≤ r) (hm : ∀ e ∈ D.events, e.kv.mod ≤ D.rev) : (D.cut R).at r = D.at r := by
  unfold Doc.at Doc.cut
  dsimp only
  rw [filter_parts h D.mark R r h1 h2, List.foldl_append, List.filter_filter]
  unfold Doc.at
  congr 1
  refine List.filter_congr fun e he => ?_
  have := hm e he
  by_cases a : R < e.kv.mod <;> by_cases b : e.kv.mod ≤ r <;> simp [a, b] <;> omega
end Go.Proofs.Ythljnnjpmdgkoaa
