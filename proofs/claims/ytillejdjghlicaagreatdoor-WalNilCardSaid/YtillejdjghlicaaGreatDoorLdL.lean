/- What Open and load do to a log in plain terms: file by file. No program is run. -/
import Derived.Test.YtillejdjghlicaaGreatDoorWalE
namespace Go.Proofs.YtillejdjghlicaaGreatDoor
open Go Go.Proofs Go.RowKit

theorem allN_le (S : List UInt8 → Nat) : ∀ (k : Nat) (d : List UInt8), (allN S k d).1.length ≤ d.length ∧ (allN S k d).2.1 ≤ d.length
  | 0, d => ⟨Nat.zero_le _, Nat.zero_le _⟩
  | k + 1, d => by
    unfold allN
    by_cases h1 : d.length = 0
    · rw [if_pos h1]
      exact ⟨Nat.zero_le _, Nat.zero_le _⟩
    · rw [if_neg h1]
      by_cases h2 : (nxtB S d).1 = 0
      · rw [if_neg (by simpa using h2)]
        obtain ⟨g1, g2⟩ := nxtB_ok h2
        have ih := allN_le S k (d.drop (nxtB S d).2.2)
        rw [List.length_drop] at ih
        dsimp only
        rw [List.length_cons]
        omega
      · rw [if_pos h2]
        exact ⟨Nat.zero_le _, Nat.zero_le _⟩
theorem allB_le (d : List UInt8) : (allB sumS d).1.length ≤ d.length ∧ (allB sumS d).2.1 ≤ d.length := allN_le sumS _ d
/-- The log when the files P are loaded, and those in R are to come. -/
def LdS (size : Nat) (P R : List Fi) : Lg := ⟨size, P.map (fun g => (g.num, (allB sumS g.data).2.1)) ++ R.map (fun g => (g.num, 0)), (P.head?.map (·.num)).getD 1, P.flatMap fun g => (allB sumS g.data).1⟩
/-- All files but the last one are whole, and their records' numbers follow each other. -/
def LdOk : List Fi → Prop
  | [] => True
  | [_] => True
  | f :: g :: l => ((allB sumS f.data).2.1 = f.data.length ∧ g.num = f.num + (allB sumS f.data).1.length) ∧ LdOk (g :: l)
theorem loadL_ok : ∀ {l : List Fi} {s : List (Nat × Nat)} {r : List (List UInt8)}, loadL sumS l = some (s, r) → LdOk l ∧ s = l.map (fun g => (g.num, (allB sumS g.data).2.1)) ∧ r = l.flatMap fun g => (allB sumS g.data).1
  | [], s, r, h => by
    simp only [loadL, Option.some.injEq, Prod.mk.injEq] at h
    exact ⟨trivial, h.1.symm, h.2.symm⟩
  | [f], s, r, h => by
    simp only [loadL, Option.some.injEq, Prod.mk.injEq] at h
    refine ⟨trivial, h.1.symm, ?_⟩
    rw [← h.2]
    simp
  | f :: g :: l, s, r, h => by
    unfold loadL at h
    split at h
    · cases h
    · rename_i hc
      cases hl : loadL sumS (g :: l) with
      | none => rw [hl] at h; cases h
      | some sr =>
        obtain ⟨s1, r1⟩ := sr
        rw [hl] at h
        simp only [Option.some.injEq, Prod.mk.injEq] at h
        obtain ⟨i1, i2, i3⟩ := loadL_ok hl
        have hle := (allB_le f.data).2
        refine ⟨⟨⟨by omega, by omega⟩, i1⟩, ?_, ?_⟩
        · rw [← h.1, i2]
          rfl
        · rw [← h.2, i3]
          rfl
theorem LdOk.tail {P : List Fi} : ∀ {R : List Fi}, LdOk (P ++ R) → LdOk R := by
  induction P with
  | nil => exact fun h => h
  | cons f P ih =>
    intro R h
    refine ih ?_
    cases hP : P ++ R with
    | nil => exact trivial
    | cons g l =>
      have h' : LdOk (f :: (P ++ R)) := h
      rw [hP] at h'
      exact h'.2
theorem LdS.first_nil (size : Nat) (R : List Fi) : (LdS size [] R).first = 1 := rfl
theorem LdS.first_snoc (size : Nat) (P R : List Fi) (f : Fi) : (LdS size (P ++ [f]) R).first = if P.length = 0 then f.num else (LdS size P (f :: R)).first := by
  cases P with
  | nil => rfl
  | cons g P => rfl
theorem LdS.segs_at (size : Nat) (P R : List Fi) (f : Fi) : (LdS size P (f :: R)).segs[P.length]? = some (f.num, 0) := by
  unfold LdS
  dsimp only
  rw [List.getElem?_append_right (by rw [List.length_map]; exact Nat.le_refl _), List.length_map, Nat.sub_self]
  rfl
theorem LdS.segs_set (size : Nat) (P R : List Fi) (f : Fi) : (LdS size P (f :: R)).segs.set P.length (f.num, (allB sumS f.data).2.1) = (LdS size (P ++ [f]) R).segs := by
  unfold LdS
  dsimp only
  rw [List.set_append_right _ _ (by rw [List.length_map]; exact Nat.le_refl _), List.length_map, Nat.sub_self]
  simp
theorem LdS.segs_len (size : Nat) (P R : List Fi) : (LdS size P R).segs.length = P.length + R.length := by
  unfold LdS
  simp
theorem LdS.l_snoc (size : Nat) (P R : List Fi) (f : Fi) : (LdS size (P ++ [f]) R).l = (LdS size P (f :: R)).l ++ (allB sumS f.data).1 := by
  unfold LdS
  simp
theorem LdS.l_len (size : Nat) (P R : List Fi) : (LdS size P R).l.length ≤ sizeF P := by
  unfold LdS
  dsimp only
  induction P with
  | nil => exact Nat.zero_le _
  | cons f P ih =>
    have e : sizeF (f :: P) = f.data.length + sizeF P := rfl
    have := (allB_le f.data).1
    rw [List.flatMap_cons, List.length_append, e]
    omega
end Go.Proofs.YtillejdjghlicaaGreatDoor
