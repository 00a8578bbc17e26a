/- Frames in plain terms: a record's bytes, what is read of bytes that were written, or of a beginning of them. No program is run. -/
import Derived.Test.YtillejdjghlicaaGreatDoorLib
namespace Go.Proofs.YtillejdjghlicaaGreatDoor
open Go Go.Proofs Go.RowKit

/-- Four bytes of a number, the least first. -/
def leB (n : Nat) : List UInt8 := [UInt8.ofNat (n % 256), UInt8.ofNat (n / 256 % 256), UInt8.ofNat (n / 65536 % 256), UInt8.ofNat (n / 16777216 % 256)]
theorem leB_length (n : Nat) : (leB n).length = 4 := rfl
/-- The number that four bytes are. -/
def leV : List UInt8 → Nat
  | [a, b, c, d] => a.toNat + 256 * b.toNat + 65536 * c.toNat + 16777216 * d.toNat
  | _ => 0
theorem leV_leB {n : Nat} (h : n < 4294967296) : leV (leB n) = n := by
  have e : ∀ m : Nat, (UInt8.ofNat (m % 256)).toNat = m % 256 := fun m => by rw [UInt8.toNat_ofNat']; omega
  show (UInt8.ofNat (n % 256)).toNat + 256 * (UInt8.ofNat (n / 256 % 256)).toNat + 65536 * (UInt8.ofNat (n / 65536 % 256)).toNat + 16777216 * (UInt8.ofNat (n / 16777216 % 256)).toNat = n
  rw [e, e, e, e]
  omega
section
variable (S : List UInt8 → Nat)
/-- A record with its length and its sum. -/
def frmB (b : List UInt8) : List UInt8 := leB b.length ++ (leB (S b) ++ b)
theorem frmB_length (b : List UInt8) : (frmB S b).length = 8 + b.length := by
  unfold frmB
  rw [List.length_append, List.length_append, leB_length, leB_length]
  omega
/-- The first record of bytes: what is wrong (or 0), the record, how many bytes it has. -/
def nxtB (d : List UInt8) : Int × List UInt8 × Nat :=
  if d.length < 8 then (10, [], 0)
  else if leV (d.take 4) < 1 ∨ 65536 < leV (d.take 4) then (11, [], 0)
  else if (d.drop 8).length < leV (d.take 4) then (10, [], 0)
  else if S ((d.drop 8).take (leV (d.take 4))) ≠ leV ((d.drop 4).take 4) then (13, [], 0)
  else (0, (d.drop 8).take (leV (d.take 4)), 8 + leV (d.take 4))
/-- May a text be a record's body? -/
def BodyOk (b : List UInt8) : Prop := 1 ≤ b.length ∧ b.length ≤ 65536
theorem nxtB_frm (hS : ∀ b, S b < 4294967296) {b : List UInt8} (hb : BodyOk b) (t : List UInt8) : nxtB S (frmB S b ++ t) = (0, b, 8 + b.length) := by
  obtain ⟨h1, h2⟩ := hb
  have e1 : (frmB S b ++ t).take 4 = leB b.length := by
    unfold frmB
    rw [List.append_assoc]
    exact List.take_left' rfl
  have e2 : (frmB S b ++ t).drop 4 = leB (S b) ++ (b ++ t) := by
    unfold frmB
    rw [List.append_assoc, List.append_assoc]
    exact List.drop_left' rfl
  have e3 : (frmB S b ++ t).drop 8 = b ++ t := by
    rw [show (8 : Nat) = 4 + 4 from rfl, ← List.drop_drop, e2]
    exact List.drop_left' rfl
  have e4 : ((frmB S b ++ t).drop 4).take 4 = leB (S b) := by
    rw [e2]
    exact List.take_left' rfl
  unfold nxtB
  rw [e1, e3, e4, leV_leB (by omega), leV_leB (hS b), List.length_append, frmB_length, List.length_append]
  rw [if_neg (by omega), if_neg (by omega), if_neg (by omega), List.take_left' rfl, if_neg (by simp)]
/-- Of a beginning of a record's bytes none is read. -/
theorem nxtB_part {b : List UInt8} (hb : BodyOk b) {n : Nat} (hn : n < (frmB S b).length) : nxtB S ((frmB S b).take n) = (10, [], 0) := by
  obtain ⟨h1, h2⟩ := hb
  rw [frmB_length] at hn
  unfold nxtB
  rw [List.length_take, frmB_length]
  by_cases h8 : n < 8
  · rw [if_pos (by omega)]
  · rw [if_neg (by omega)]
    have e1 : ((frmB S b).take n).take 4 = leB b.length := by
      rw [List.take_take, show min 4 n = 4 by omega]
      exact List.take_left' rfl
    rw [e1, leV_leB (by omega), if_neg (by omega), List.length_drop, List.length_take, frmB_length, if_pos (by omega)]
/-- All records that bytes begin with, how many bytes they have, what was wrong behind them. -/
def allN : Nat → List UInt8 → List (List UInt8) × Nat × Int
  | 0, _ => ([], 0, 0)
  | k + 1, d =>
    if d.length = 0 then ([], 0, 0)
    else if (nxtB S d).1 ≠ 0 then ([], 0, (nxtB S d).1)
    else ((nxtB S d).2.1 :: (allN k (d.drop (nxtB S d).2.2)).1, (nxtB S d).2.2 + (allN k (d.drop (nxtB S d).2.2)).2.1, (allN k (d.drop (nxtB S d).2.2)).2.2)
def allB (d : List UInt8) : List (List UInt8) × Nat × Int := allN S d.length d
def frms (l : List (List UInt8)) : List UInt8 := l.flatMap (frmB S)
theorem frms_append (a b : List (List UInt8)) : frms S (a ++ b) = frms S a ++ frms S b := List.flatMap_append ..
theorem frms_cons (a : List UInt8) (l : List (List UInt8)) : frms S (a :: l) = frmB S a ++ frms S l := List.flatMap_cons ..
/-- Bytes behind which none is a record: none, or a beginning of one. -/
def Tail (t : List UInt8) : Prop := t = [] ∨ ∃ b n, BodyOk b ∧ n < (frmB S b).length ∧ t = (frmB S b).take n
theorem allN_frms (hS : ∀ b, S b < 4294967296) {t : List UInt8} (ht : Tail S t) : ∀ (l : List (List UInt8)) (k : Nat), (∀ b ∈ l, BodyOk b) → (frms S l ++ t).length ≤ k → allN S k (frms S l ++ t) = (l, (frms S l).length, if t.length = 0 then 0 else 10)
  | [], k, _, hk => by
    show allN S k ([] ++ t) = ([], 0, _)
    rw [List.nil_append]
    have hk' : t.length ≤ k := by simpa [frms] using hk
    cases k with
    | zero =>
      rw [if_pos (by omega)]
      rfl
    | succ k =>
      unfold allN
      by_cases h0 : t.length = 0
      · rw [if_pos h0, if_pos h0]
      · rw [if_neg h0, if_neg h0]
        rcases ht with rfl | ⟨b, n, h1, h2, rfl⟩
        · exact absurd rfl h0
        · rw [nxtB_part S h1 h2, if_pos (by decide)]
  | b :: l, k, hl, hk => by
    have hb := hl b (List.mem_cons_self ..)
    rw [frms_cons, List.append_assoc] at hk ⊢
    rw [List.length_append, frmB_length] at hk
    obtain ⟨k, rfl⟩ : ∃ m, k = m + 1 := ⟨k - 1, by omega⟩
    have ih := allN_frms hS ht l k (fun x hx => hl x (List.mem_cons_of_mem _ hx)) (by omega)
    unfold allN
    rw [nxtB_frm S hS hb, if_neg (by rw [List.length_append, frmB_length]; omega), if_neg (by simp)]
    have e : (frmB S b ++ (frms S l ++ t)).drop (8 + b.length) = frms S l ++ t := List.drop_left' (frmB_length S b)
    dsimp only
    rw [e, ih, List.length_append, frmB_length]
/-- What was written is read, up to a record that is not whole. -/
theorem allB_frms (hS : ∀ b, S b < 4294967296) {t : List UInt8} (ht : Tail S t) (l : List (List UInt8)) (hl : ∀ b ∈ l, BodyOk b) : allB S (frms S l ++ t) = (l, (frms S l).length, if t.length = 0 then 0 else 10) := allN_frms S hS ht l _ hl (Nat.le_refl _)
/-- A beginning of what was written: whole records, and a beginning of the next one. -/
theorem frms_take : ∀ (l : List (List UInt8)) (n : Nat), (∀ b ∈ l, BodyOk b) → ∃ k t, k ≤ l.length ∧ Tail S t ∧ (frms S l).take n = frms S (l.take k) ++ t ∧ (frms S (l.take k)).length ≤ n ∧ ∀ j, j ≤ l.length → (frms S (l.take j)).length ≤ n → j ≤ k
  | [], n, _ => ⟨0, [], Nat.le_refl _, .inl rfl, by simp [frms], by simp [frms], fun j hj _ => by simpa using hj⟩
  | b :: l, n, hl => by
    have hb := hl b (List.mem_cons_self ..)
    by_cases hn : n < (frmB S b).length
    · refine ⟨0, (frmB S b).take n, Nat.zero_le _, .inr ⟨b, n, hb, hn, rfl⟩, ?_, by simp [frms], fun j hj hjn => ?_⟩
      · rw [frms_cons, List.take_append_of_le_length (by omega)]
        rfl
      · cases j with
        | zero => exact Nat.le_refl _
        | succ j =>
          rw [List.take_succ_cons, frms_cons, List.length_append] at hjn
          omega
    · obtain ⟨k, t, h1, h2, h3, h4, h5⟩ := frms_take l (n - (frmB S b).length) (fun x hx => hl x (List.mem_cons_of_mem _ hx))
      refine ⟨k + 1, t, by rw [List.length_cons]; omega, h2, ?_, ?_, fun j hj hjn => ?_⟩
      · rw [frms_cons, List.take_append, List.take_of_length_le (by omega), h3, List.take_succ_cons, frms_cons, List.append_assoc]
      · rw [List.take_succ_cons, frms_cons, List.length_append]
        omega
      · cases j with
        | zero => omega
        | succ j =>
          rw [List.take_succ_cons, frms_cons, List.length_append] at hjn
          have := h5 j (by simpa using hj) (by omega)
          omega
end
end Go.Proofs.YtillejdjghlicaaGreatDoor
