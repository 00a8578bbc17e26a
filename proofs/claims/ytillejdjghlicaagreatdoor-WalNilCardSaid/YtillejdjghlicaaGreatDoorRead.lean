/- Slices that are read alone (SlR): nothing is said of their blocks but the cells. Plain facts; no program is run. -/
import Derived.Test.YtillejdjghlicaaGreatDoorLib
namespace Go.Proofs.YtillejdjghlicaaGreatDoor
open Go Go.Proofs Go.RowKit

def SlR {α : Type} (w : World) (sz : Nat) (f : α → List Value) (v : Value) (L : List α) : Prop :=
  ∃ a cap, v = .slice a L.length cap ∧ L.length ≤ cap ∧ cap ≤ maxLen ∧
    (0 < L.length → ∃ g o, a = some ⟨g, o, none⟩ ∧ ∀ (i : Nat) (x : α), L[i]? = some x → ∀ (j : Nat) (u : Value), (f x)[j]? = some u → w.cell? ⟨g, o + i * sz + j, none⟩ = some u)
section
variable {α : Type} {f : α → List Value} {w : World} {e sz : Nat} {v : Value} {L : List α}
theorem SlF.toR (hf : ∀ x, (f x).length = sz) (h : SlF w e sz f v L) : SlR w sz f v L := by
  obtain ⟨a, cap, rfl, h1, h2, h3⟩ := h.shape
  refine ⟨a, cap, rfl, h1, h2, fun hp => ?_⟩
  obtain ⟨g, o, rfl⟩ := h3 hp
  exact ⟨g, o, rfl, fun i x hx j u hu => h.cell hf i j hx hu⟩
theorem SlR.nil (w : World) (sz : Nat) (f : α → List Value) : SlR w sz f (.slice none 0 0) [] := ⟨none, 0, rfl, Nat.le_refl _, by simp, fun h => by simp at h⟩
theorem SlR.shape (h : SlR w sz f v L) : ∃ a cap, v = .slice a L.length cap ∧ L.length ≤ cap ∧ cap ≤ maxLen ∧ (0 < L.length → ∃ g o, a = some ⟨g, o, none⟩) := by
  obtain ⟨a, cap, rfl, h1, h2, h3⟩ := h
  exact ⟨a, cap, rfl, h1, h2, fun hp => by obtain ⟨g, o, h4, _⟩ := h3 hp; exact ⟨g, o, h4⟩⟩
theorem SlR.cell {g o cap : Nat} (_ : ∀ x, (f x).length = sz) (h : SlR w sz f (.slice (some ⟨g, o, none⟩) L.length cap) L) (i j : Nat) {x : α} {u : Value} (hx : L[i]? = some x) (hu : (f x)[j]? = some u) :
    w.cell? ⟨g, o + i * sz + j, none⟩ = some u := by
  obtain ⟨a, cap', hv, h1, h2, h3⟩ := h
  have hi := (List.getElem?_eq_some_iff.1 hx).1
  obtain ⟨g', o', h4, h5⟩ := h3 (by omega)
  simp only [Value.slice.injEq, true_and] at hv
  obtain ⟨rfl, rfl⟩ := hv
  simp only [Option.some.injEq, Addr.mk.injEq, and_true] at h4
  obtain ⟨rfl, rfl⟩ := h4
  exact h5 i x hx j u hu
theorem SlR.cell0 {g o cap : Nat} (hf : ∀ x, (f x).length = sz) (h : SlR w sz f (.slice (some ⟨g, o, none⟩) L.length cap) L) (i : Nat) {x : α} {u : Value} (hx : L[i]? = some x) (hu : (f x)[0]? = some u) :
    w.cell? ⟨g, o + i * sz, none⟩ = some u := h.cell hf i 0 hx hu
theorem SlR.cells2 {g o cap : Nat} {v0 v1 : Value} (hf : ∀ x, (f x).length = 2) (h : SlR w 2 f (.slice (some ⟨g, o, none⟩) L.length cap) L) (i : Nat) {x : α} (hx : L[i]? = some x) (hv : f x = [v0, v1]) : w.cell? ⟨g, o + i * 2, none⟩ = some v0 ∧ w.cell? ⟨g, o + i * 2 + 1, none⟩ = some v1 := ⟨h.cell0 hf i hx (by rw [hv]; rfl), h.cell hf i 1 hx (by rw [hv]; rfl)⟩
theorem SlR.cells4 {g o cap : Nat} {v0 v1 v2 v3 : Value} (hf : ∀ x, (f x).length = 4) (h : SlR w 4 f (.slice (some ⟨g, o, none⟩) L.length cap) L) (i : Nat) {x : α} (hx : L[i]? = some x) (hv : f x = [v0, v1, v2, v3]) : w.cell? ⟨g, o + i * 4, none⟩ = some v0 ∧ w.cell? ⟨g, o + i * 4 + 1, none⟩ = some v1 ∧ w.cell? ⟨g, o + i * 4 + 2, none⟩ = some v2 ∧ w.cell? ⟨g, o + i * 4 + 3, none⟩ = some v3 := ⟨h.cell0 hf i hx (by rw [hv]; rfl), h.cell hf i 1 hx (by rw [hv]; rfl), h.cell hf i 2 hx (by rw [hv]; rfl), h.cell hf i 3 hx (by rw [hv]; rfl)⟩
theorem SlR.cells5 {g o cap : Nat} {v0 v1 v2 v3 v4 : Value} (hf : ∀ x, (f x).length = 5) (h : SlR w 5 f (.slice (some ⟨g, o, none⟩) L.length cap) L) (i : Nat) {x : α} (hx : L[i]? = some x) (hv : f x = [v0, v1, v2, v3, v4]) : w.cell? ⟨g, o + i * 5, none⟩ = some v0 ∧ w.cell? ⟨g, o + i * 5 + 1, none⟩ = some v1 ∧ w.cell? ⟨g, o + i * 5 + 2, none⟩ = some v2 ∧ w.cell? ⟨g, o + i * 5 + 3, none⟩ = some v3 ∧ w.cell? ⟨g, o + i * 5 + 4, none⟩ = some v4 := ⟨h.cell0 hf i hx (by rw [hv]; rfl), h.cell hf i 1 hx (by rw [hv]; rfl), h.cell hf i 2 hx (by rw [hv]; rfl), h.cell hf i 3 hx (by rw [hv]; rfl), h.cell hf i 4 hx (by rw [hv]; rfl)⟩
theorem SlR.cells6 {g o cap : Nat} {v0 v1 v2 v3 v4 v5 : Value} (hf : ∀ x, (f x).length = 6) (h : SlR w 6 f (.slice (some ⟨g, o, none⟩) L.length cap) L) (i : Nat) {x : α} (hx : L[i]? = some x) (hv : f x = [v0, v1, v2, v3, v4, v5]) : w.cell? ⟨g, o + i * 6, none⟩ = some v0 ∧ w.cell? ⟨g, o + i * 6 + 1, none⟩ = some v1 ∧ w.cell? ⟨g, o + i * 6 + 2, none⟩ = some v2 ∧ w.cell? ⟨g, o + i * 6 + 3, none⟩ = some v3 ∧ w.cell? ⟨g, o + i * 6 + 4, none⟩ = some v4 ∧ w.cell? ⟨g, o + i * 6 + 5, none⟩ = some v5 := ⟨h.cell0 hf i hx (by rw [hv]; rfl), h.cell hf i 1 hx (by rw [hv]; rfl), h.cell hf i 2 hx (by rw [hv]; rfl), h.cell hf i 3 hx (by rw [hv]; rfl), h.cell hf i 4 hx (by rw [hv]; rfl), h.cell hf i 5 hx (by rw [hv]; rfl)⟩
theorem SlR.cells7 {g o cap : Nat} {v0 v1 v2 v3 v4 v5 v6 : Value} (hf : ∀ x, (f x).length = 7) (h : SlR w 7 f (.slice (some ⟨g, o, none⟩) L.length cap) L) (i : Nat) {x : α} (hx : L[i]? = some x) (hv : f x = [v0, v1, v2, v3, v4, v5, v6]) : w.cell? ⟨g, o + i * 7, none⟩ = some v0 ∧ w.cell? ⟨g, o + i * 7 + 1, none⟩ = some v1 ∧ w.cell? ⟨g, o + i * 7 + 2, none⟩ = some v2 ∧ w.cell? ⟨g, o + i * 7 + 3, none⟩ = some v3 ∧ w.cell? ⟨g, o + i * 7 + 4, none⟩ = some v4 ∧ w.cell? ⟨g, o + i * 7 + 5, none⟩ = some v5 ∧ w.cell? ⟨g, o + i * 7 + 6, none⟩ = some v6 := ⟨h.cell0 hf i hx (by rw [hv]; rfl), h.cell hf i 1 hx (by rw [hv]; rfl), h.cell hf i 2 hx (by rw [hv]; rfl), h.cell hf i 3 hx (by rw [hv]; rfl), h.cell hf i 4 hx (by rw [hv]; rfl), h.cell hf i 5 hx (by rw [hv]; rfl), h.cell hf i 6 hx (by rw [hv]; rfl)⟩
theorem SlR.cells10 {g o cap : Nat} {v0 v1 v2 v3 v4 v5 v6 v7 v8 v9 : Value} (hf : ∀ x, (f x).length = 10) (h : SlR w 10 f (.slice (some ⟨g, o, none⟩) L.length cap) L) (i : Nat) {x : α} (hx : L[i]? = some x) (hv : f x = [v0, v1, v2, v3, v4, v5, v6, v7, v8, v9]) : w.cell? ⟨g, o + i * 10, none⟩ = some v0 ∧ w.cell? ⟨g, o + i * 10 + 1, none⟩ = some v1 ∧ w.cell? ⟨g, o + i * 10 + 2, none⟩ = some v2 ∧ w.cell? ⟨g, o + i * 10 + 3, none⟩ = some v3 ∧ w.cell? ⟨g, o + i * 10 + 4, none⟩ = some v4 ∧ w.cell? ⟨g, o + i * 10 + 5, none⟩ = some v5 ∧ w.cell? ⟨g, o + i * 10 + 6, none⟩ = some v6 ∧ w.cell? ⟨g, o + i * 10 + 7, none⟩ = some v7 ∧ w.cell? ⟨g, o + i * 10 + 8, none⟩ = some v8 ∧ w.cell? ⟨g, o + i * 10 + 9, none⟩ = some v9 := ⟨h.cell0 hf i hx (by rw [hv]; rfl), h.cell hf i 1 hx (by rw [hv]; rfl), h.cell hf i 2 hx (by rw [hv]; rfl), h.cell hf i 3 hx (by rw [hv]; rfl), h.cell hf i 4 hx (by rw [hv]; rfl), h.cell hf i 5 hx (by rw [hv]; rfl), h.cell hf i 6 hx (by rw [hv]; rfl), h.cell hf i 7 hx (by rw [hv]; rfl), h.cell hf i 8 hx (by rw [hv]; rfl), h.cell hf i 9 hx (by rw [hv]; rfl)⟩
theorem SlR.cells12 {g o cap : Nat} {v0 v1 v2 v3 v4 v5 v6 v7 v8 v9 v10 v11 : Value} (hf : ∀ x, (f x).length = 12) (h : SlR w 12 f (.slice (some ⟨g, o, none⟩) L.length cap) L) (i : Nat) {x : α} (hx : L[i]? = some x) (hv : f x = [v0, v1, v2, v3, v4, v5, v6, v7, v8, v9, v10, v11]) : w.cell? ⟨g, o + i * 12, none⟩ = some v0 ∧ w.cell? ⟨g, o + i * 12 + 1, none⟩ = some v1 ∧ w.cell? ⟨g, o + i * 12 + 2, none⟩ = some v2 ∧ w.cell? ⟨g, o + i * 12 + 3, none⟩ = some v3 ∧ w.cell? ⟨g, o + i * 12 + 4, none⟩ = some v4 ∧ w.cell? ⟨g, o + i * 12 + 5, none⟩ = some v5 ∧ w.cell? ⟨g, o + i * 12 + 6, none⟩ = some v6 ∧ w.cell? ⟨g, o + i * 12 + 7, none⟩ = some v7 ∧ w.cell? ⟨g, o + i * 12 + 8, none⟩ = some v8 ∧ w.cell? ⟨g, o + i * 12 + 9, none⟩ = some v9 ∧ w.cell? ⟨g, o + i * 12 + 10, none⟩ = some v10 ∧ w.cell? ⟨g, o + i * 12 + 11, none⟩ = some v11 := ⟨h.cell0 hf i hx (by rw [hv]; rfl), h.cell hf i 1 hx (by rw [hv]; rfl), h.cell hf i 2 hx (by rw [hv]; rfl), h.cell hf i 3 hx (by rw [hv]; rfl), h.cell hf i 4 hx (by rw [hv]; rfl), h.cell hf i 5 hx (by rw [hv]; rfl), h.cell hf i 6 hx (by rw [hv]; rfl), h.cell hf i 7 hx (by rw [hv]; rfl), h.cell hf i 8 hx (by rw [hv]; rfl), h.cell hf i 9 hx (by rw [hv]; rfl), h.cell hf i 10 hx (by rw [hv]; rfl), h.cell hf i 11 hx (by rw [hv]; rfl)⟩
theorem SlR.cells13 {g o cap : Nat} {v0 v1 v2 v3 v4 v5 v6 v7 v8 v9 v10 v11 v12 : Value} (hf : ∀ x, (f x).length = 13) (h : SlR w 13 f (.slice (some ⟨g, o, none⟩) L.length cap) L) (i : Nat) {x : α} (hx : L[i]? = some x) (hv : f x = [v0, v1, v2, v3, v4, v5, v6, v7, v8, v9, v10, v11, v12]) : w.cell? ⟨g, o + i * 13, none⟩ = some v0 ∧ w.cell? ⟨g, o + i * 13 + 1, none⟩ = some v1 ∧ w.cell? ⟨g, o + i * 13 + 2, none⟩ = some v2 ∧ w.cell? ⟨g, o + i * 13 + 3, none⟩ = some v3 ∧ w.cell? ⟨g, o + i * 13 + 4, none⟩ = some v4 ∧ w.cell? ⟨g, o + i * 13 + 5, none⟩ = some v5 ∧ w.cell? ⟨g, o + i * 13 + 6, none⟩ = some v6 ∧ w.cell? ⟨g, o + i * 13 + 7, none⟩ = some v7 ∧ w.cell? ⟨g, o + i * 13 + 8, none⟩ = some v8 ∧ w.cell? ⟨g, o + i * 13 + 9, none⟩ = some v9 ∧ w.cell? ⟨g, o + i * 13 + 10, none⟩ = some v10 ∧ w.cell? ⟨g, o + i * 13 + 11, none⟩ = some v11 ∧ w.cell? ⟨g, o + i * 13 + 12, none⟩ = some v12 := ⟨h.cell0 hf i hx (by rw [hv]; rfl), h.cell hf i 1 hx (by rw [hv]; rfl), h.cell hf i 2 hx (by rw [hv]; rfl), h.cell hf i 3 hx (by rw [hv]; rfl), h.cell hf i 4 hx (by rw [hv]; rfl), h.cell hf i 5 hx (by rw [hv]; rfl), h.cell hf i 6 hx (by rw [hv]; rfl), h.cell hf i 7 hx (by rw [hv]; rfl), h.cell hf i 8 hx (by rw [hv]; rfl), h.cell hf i 9 hx (by rw [hv]; rfl), h.cell hf i 10 hx (by rw [hv]; rfl), h.cell hf i 11 hx (by rw [hv]; rfl), h.cell hf i 12 hx (by rw [hv]; rfl)⟩
theorem SlR.fr {w' : World} {S : Nat → Prop} (h : SlR w sz f v L) (hf : Fr S w w') (hn : ∀ k, v.ownBlock = some k → ¬ S k) : SlR w' sz f v L := by
  obtain ⟨a, cap, rfl, h1, h2, h3⟩ := h
  refine ⟨a, cap, rfl, h1, h2, fun hp => ?_⟩
  obtain ⟨g, o, rfl, h4⟩ := h3 hp
  exact ⟨g, o, rfl, fun i x hx j u hu => hf.cell (h4 i x hx j u hu) (hn g rfl)⟩
theorem SlR.fr0 {w' : World} (h : SlR w sz f v L) (hf : Fr No w w') : SlR w' sz f v L := h.fr hf fun _ _ h => h
theorem SlR.alloc (h : SlR w sz f v L) (o : Obj) : SlR (w.alloc o) sz f v L := h.fr0 ((Fr.refl No w).alloc o)
theorem SlR.drew (h : SlR w sz f v L) : SlR w.drew sz f v L := h
theorem SlR.take {a : Option Addr} {cap : Nat} (_ : ∀ x, (f x).length = sz) (h : SlR w sz f (.slice a L.length cap) L) (k : Nat) (hk : k ≤ L.length) : SlR w sz f (.slice a k cap) (L.take k) := by
  obtain ⟨a', cap', hv, h1, h2, h3⟩ := h
  simp only [Value.slice.injEq, true_and] at hv
  obtain ⟨rfl, rfl⟩ := hv
  have hl : (L.take k).length = k := by simp; omega
  refine ⟨a, cap, by rw [hl], by omega, h2, fun hp => ?_⟩
  obtain ⟨g, o, h4, h5⟩ := h3 (by omega)
  refine ⟨g, o, h4, fun i x hx => h5 i x ?_⟩
  have hi := (List.getElem?_eq_some_iff.1 hx).1
  rw [List.getElem?_take_of_lt (by omega)] at hx
  exact hx
theorem SlR.drop {g o cap : Nat} (_ : ∀ x, (f x).length = sz) (h : SlR w sz f (.slice (some ⟨g, o, none⟩) L.length cap) L) (k : Nat) (hk : k ≤ L.length) :
    SlR w sz f (.slice (if cap = k then some ⟨g, o, none⟩ else some ⟨g, o + k * sz, none⟩) (L.length - k) (cap - k)) (L.drop k) := by
  obtain ⟨a', cap', hv, h1, h2, h3⟩ := h
  simp only [Value.slice.injEq, true_and] at hv
  obtain ⟨rfl, rfl⟩ := hv
  have hl : (L.drop k).length = L.length - k := by simp
  refine ⟨_, _, by rw [hl], by omega, by omega, fun hp => ?_⟩
  obtain ⟨g', o', h4, h5⟩ := h3 (by omega)
  simp only [Option.some.injEq, Addr.mk.injEq, and_true] at h4
  obtain ⟨rfl, rfl⟩ := h4
  refine ⟨g, o + k * sz, by rw [if_neg (by omega)], fun i x hx j u hu => ?_⟩
  rw [List.getElem?_drop] at hx
  have := h5 (k + i) x hx j u hu
  rwa [Nat.add_mul, ← Nat.add_assoc] at this
end
end Go.Proofs.YtillejdjghlicaaGreatDoor
