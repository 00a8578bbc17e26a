/- The document's way of telling whether a key may be (rune by rune), and that it is the program's. Plain facts; no program is run. -/
import Derived.Test.YthljnnjpmdgkoaaNames
import Derived.Lib.RuneCountTail
import Derived.Laws.Runes
import Derived.PlainAid
namespace Go.Proofs.Ythljnnjpmdgkoaa
open Go Go.Proofs Go.RowKit Go.PlainAid
set_option maxRecDepth 100000

theorem bt_get! (s : ByteArray) (k : Nat) : bt s k = ((s.get! k).toNat : Int) := by
  unfold bt
  split
  · rename_i h
    rw [← Go.Lib.getD_get!']
    simp [List.getD, h]
    rfl
  · rename_i h
    rw [← Go.Lib.getD_get!']
    have : s.data.toList[k]? = none := List.getElem?_eq_none (by simpa using Nat.le_of_not_lt h)
    simp [List.getD, this]
theorem bt_extract (s : ByteArray) (i k : Nat) : bt (s.extract i s.size) k = bt s (i + k) := by
  rw [bt_get!, bt_get!, Go.Lib.tail_get!]

def leadN (c : Int) : Nat := if 240 ≤ c then 4 else if 224 ≤ c then 3 else if 192 ≤ c then 2 else 1
def leadV (c : Int) : Int := if 240 ≤ c then c - 240 else if 224 ≤ c then c - 224 else if 192 ≤ c then c - 192 else c
def leadL (c : Int) : Int := if 240 ≤ c then 65536 else if 224 ≤ c then 2048 else if 192 ≤ c then 128 else 0
/-- The bytes behind the first one, from the place i on, g of them. -/
def contK (s : ByteArray) : Nat → Nat → Int → Option Int
  | 0, _, v => some v
  | g + 1, i, v => if bt s i < 128 ∨ 191 < bt s i then none else contK s g (i + 1) (v * 64 + bt s i - 128)
/-- How many bytes the first rune of a text has; 0: it is none. -/
def oneOf (s : ByteArray) : Nat :=
  if 128 ≤ bt s 0 ∧ bt s 0 < 192 then 0
  else if 248 ≤ bt s 0 ∨ s.size < leadN (bt s 0) then 0
  else match contK s (leadN (bt s 0) - 1) 1 (leadV (bt s 0)) with
    | none => 0
    | some v => if v < leadL (bt s 0) ∨ 1114111 < v ∨ (55296 ≤ v ∧ v ≤ 57343) then 0 else leadN (bt s 0)

theorem list3_eq (l : List UInt8) (h : 3 ≤ l.length) (a b c : UInt8) : (l.take 3 == [a, b, c]) = (l.getD 0 0 == a && l.getD 1 0 == b && l.getD 2 0 == c) := by
  match l, h with
  | x :: y :: z :: t, _ =>
    show ((x :: y :: z :: t).take 3 == [a, b, c]) = _
    simp [Bool.and_assoc]
theorem sign3_bt (s : ByteArray) : sign3 s = (decide (3 ≤ s.size) && decide (bt s 0 = 239) && decide (bt s 1 = 191) && decide (bt s 2 = 189)) := by
  unfold sign3
  by_cases h : 3 ≤ s.size
  · have hl : 3 ≤ s.data.toList.length := by simpa using h
    have hx : (s.extract 0 3).toList = s.data.toList.take 3 := by
      rw [Lib.toList_data]
      simp [ByteArray.data_extract]
    rw [hx, list3_eq _ hl, Go.Lib.getD_get!', Go.Lib.getD_get!', Go.Lib.getD_get!', bt_get!, bt_get!, bt_get!]
    have key : ∀ (x : UInt8) (n : Nat) (hn : n < 256), (x == UInt8.ofNat n) = decide ((x.toNat : Int) = (n : Int)) := by
      intro x n hn
      rw [Bool.eq_iff_iff, beq_iff_eq, decide_eq_true_eq]
      constructor
      · rintro rfl; simp; omega
      · intro e
        have e' : x.toNat = n := by omega
        rw [← e']; simp
    have k0 := key (s.get! 0) 239 (by omega)
    have k1 := key (s.get! 1) 191 (by omega)
    have k2 := key (s.get! 2) 189 (by omega)
    have e0 : (s.get! 0 == (239 : UInt8)) = (s.get! 0 == UInt8.ofNat 239) := rfl
    have e1 : (s.get! 1 == (191 : UInt8)) = (s.get! 1 == UInt8.ofNat 191) := rfl
    have e2 : (s.get! 2 == (189 : UInt8)) = (s.get! 2 == UInt8.ofNat 189) := rfl
    rw [e0, e1, e2, k0, k1, k2]
    simp [h, Bool.and_assoc]
  · simp [h]

set_option maxHeartbeats 4000000 in
/-- THE TWO WAYS AGREE on the first rune of a text. -/
theorem one_decode (s : ByteArray) (hs : 0 < s.size) : (((Utf8.decode s 0).1 == 65533 && !sign3 s) = true ∧ oneOf s = 0) ∨
    (((Utf8.decode s 0).1 == 65533 && !sign3 s) = false ∧ 1 ≤ oneOf s ∧ oneOf s = (Utf8.decode s 0).2 ∧ oneOf s ≤ s.size ∧ ∀ k, 1 ≤ k → k < oneOf s → bt s k ≠ 0) := by
  have hd := Go.Lib.decode_at s 0
  rw [sign3_bt]
  have c0 := bt_get! s 0
  have c1 := bt_get! s 1
  have c2 := bt_get! s 2
  have c3 := bt_get! s 3
  have l0 : (s.get! 0).toNat < 256 := (s.get! 0).toNat_lt
  have l1 : (s.get! 1).toNat < 256 := (s.get! 1).toNat_lt
  have l2 : (s.get! 2).toNat < 256 := (s.get! 2).toNat_lt
  have l3 : (s.get! 3).toNat < 256 := (s.get! 3).toNat_lt
  simp only [Nat.zero_add, Nat.sub_zero] at hd
  rw [hd]
  unfold oneOf
  have hbt : ∀ k, 1 ≤ k → k < 4 → bt s k = if k = 1 then ((s.get! 1).toNat : Int) else if k = 2 then ((s.get! 2).toNat : Int) else ((s.get! 3).toNat : Int) := by
    intro k h1 h2
    have : k = 1 ∨ k = 2 ∨ k = 3 := by omega
    rcases this with rfl | rfl | rfl <;> simp [c1, c2, c3]
  generalize hb0 : (s.get! 0).toNat = b0 at *
  generalize hb1 : (s.get! 1).toNat = b1 at *
  generalize hb2 : (s.get! 2).toNat = b2 at *
  generalize hb3 : (s.get! 3).toNat = b3 at *
  have hK : contK s (leadN (b0 : Int) - 1) 1 (leadV (b0 : Int)) =
      if b0 < 192 then some (b0 : Int)
      else if b0 < 224 then (if b1 < 128 ∨ 191 < b1 then none else some (((b0 : Int) - 192) * 64 + b1 - 128))
      else if b0 < 240 then (if b1 < 128 ∨ 191 < b1 then none else if b2 < 128 ∨ 191 < b2 then none else some ((((b0 : Int) - 224) * 64 + b1 - 128) * 64 + b2 - 128))
      else (if b1 < 128 ∨ 191 < b1 then none else if b2 < 128 ∨ 191 < b2 then none else if b3 < 128 ∨ 191 < b3 then none else some (((((b0 : Int) - 240) * 64 + b1 - 128) * 64 + b2 - 128) * 64 + b3 - 128)) := by
    have q1 : ((b1 : Int) < 128 ∨ 191 < (b1 : Int)) ↔ (b1 < 128 ∨ 191 < b1) := by omega
    have q2 : ((b2 : Int) < 128 ∨ 191 < (b2 : Int)) ↔ (b2 < 128 ∨ 191 < b2) := by omega
    have q3 : ((b3 : Int) < 128 ∨ 191 < (b3 : Int)) ↔ (b3 < 128 ∨ 191 < b3) := by omega
    unfold leadN leadV
    by_cases h1 : b0 < 192
    · rw [if_pos h1, if_neg (by omega), if_neg (by omega), if_neg (by omega), if_neg (by omega), if_neg (by omega), if_neg (by omega)]
      rfl
    · rw [if_neg h1]
      by_cases h2 : b0 < 224
      · rw [if_pos h2, if_neg (by omega), if_neg (by omega), if_pos (by omega), if_neg (by omega), if_neg (by omega), if_pos (by omega)]
        simp only [contK, c1, Nat.reduceSub, q1]
      · rw [if_neg h2]
        by_cases h3 : b0 < 240
        · rw [if_pos h3, if_neg (by omega), if_pos (by omega), if_neg (by omega), if_pos (by omega)]
          simp only [contK, c1, c2, Nat.reduceSub, Nat.reduceAdd, q1, q2]
        · rw [if_neg h3, if_pos (by omega), if_pos (by omega)]
          simp only [contK, c1, c2, c3, Nat.reduceSub, Nat.reduceAdd, q1, q2, q3]
  rw [c0, hK]
  rw [c1, c2]
  have hN : leadN (b0 : Int) = if b0 < 192 then 1 else if b0 < 224 then 2 else if b0 < 240 then 3 else 4 := by
    unfold leadN
    repeat' split
    all_goals omega
  have hL : leadL (b0 : Int) = if b0 < 192 then 0 else if b0 < 224 then 128 else if b0 < 240 then 2048 else 65536 := by
    unfold leadL
    repeat' split
    all_goals omega
  rw [hN, hL]
  clear hN hL hK hd
  have fin : ∀ (m w r : Nat), m ≤ 4 → (r, w) = (r, w) → True := fun _ _ _ _ _ => trivial
  clear fin
  unfold Go.Lib.decodeN
  by_cases h1 : b0 < 128
  · right
    simp only [h1, if_true]
    have e1 : ¬ (128 ≤ (b0 : Int) ∧ (b0 : Int) < 192) := by omega
    have e2 : b0 < 192 := by omega
    have e3 : ¬ (248 ≤ (b0 : Int) ∨ s.size < 1) := by omega
    have e4 : ¬ ((b0 : Int) < 0 ∨ 1114111 < (b0 : Int) ∨ (55296 ≤ (b0 : Int) ∧ (b0 : Int) ≤ 57343)) := by omega
    simp only [if_neg e1, if_pos e2, if_neg e3, if_neg e4]
    refine ⟨?_, by omega, trivial, by omega, fun k h2 h3 => by omega⟩
    have : (b0 == 65533) = false := by rw [beq_eq_false_iff_ne]; omega
    rw [this]; rfl
  · by_cases h2 : b0 < 192
    · left
      have e1 : (128 ≤ (b0 : Int) ∧ (b0 : Int) < 192) := by omega
      rw [if_neg h1, if_neg (by omega), if_neg (by omega), if_neg (by omega), if_pos e1]
      have : (decide ((b0 : Int) = 239)) = false := by rw [decide_eq_false_iff_not]; omega
      simp [this]
    · have e1 : ¬ (128 ≤ (b0 : Int) ∧ (b0 : Int) < 192) := by omega
      rw [if_neg e1, if_neg h1]
      simp only [if_neg h2]
      by_cases h3 : b0 < 224
      · simp only [if_pos h3]
        by_cases h4 : 1 < s.size ∧ b1 / 64 = 2
        · rw [if_pos ⟨by omega, h4⟩, if_neg (by omega : ¬ (248 ≤ (b0 : Int) ∨ s.size < 2)), if_neg (by omega : ¬ (b1 < 128 ∨ 191 < b1))]
          by_cases h5 : 128 ≤ b0 % 32 * 64 + b1 % 64
          · right
            rw [if_pos h5]
            dsimp only
            rw [if_neg (by omega)]
            refine ⟨?_, by omega, rfl, by omega, fun k h6 h7 => by rw [hbt k h6 (by omega)]; have : k = 1 := by omega
                                                                   subst this; simp; omega⟩
            have : (b0 % 32 * 64 + b1 % 64 == 65533) = false := by rw [beq_eq_false_iff_ne]; omega
            rw [this]; rfl
          · left
            rw [if_neg h5]
            dsimp only
            rw [if_pos (by omega)]
            have : (decide ((b0 : Int) = 239)) = false := by rw [decide_eq_false_iff_not]; omega
            simp [this]
        · left
          rw [if_neg (fun h => h4 h.2), if_neg (by omega), if_neg (by omega)]
          have : (decide ((b0 : Int) = 239)) = false := by rw [decide_eq_false_iff_not]; omega
          refine ⟨by simp [this], ?_⟩
          by_cases h5 : 248 ≤ (b0 : Int) ∨ s.size < 2
          · rw [if_pos h5]
          · rw [if_neg h5, if_pos (by omega)]
      · simp only [if_neg h3]
        rw [if_neg (by omega : ¬ (b0 / 32 = 6 ∧ (1 < s.size ∧ b1 / 64 = 2)))]
        by_cases h3' : b0 < 240
        · simp only [if_pos h3']
          by_cases h4 : (1 < s.size ∧ b1 / 64 = 2) ∧ (2 < s.size ∧ b2 / 64 = 2)
          · rw [if_pos ⟨by omega, h4⟩, if_neg (by omega : ¬ (248 ≤ (b0 : Int) ∨ s.size < 3)), if_neg (by omega : ¬ (b1 < 128 ∨ 191 < b1)), if_neg (by omega : ¬ (b2 < 128 ∨ 191 < b2))]
            by_cases h5 : b0 % 16 * 4096 + b1 % 64 * 64 + b2 % 64 ≥ 2048 ∧ (b0 % 16 * 4096 + b1 % 64 * 64 + b2 % 64 < 55296 ∨ (57344 ≤ b0 % 16 * 4096 + b1 % 64 * 64 + b2 % 64 ∧ b0 % 16 * 4096 + b1 % 64 * 64 + b2 % 64 ≤ 1114111))
            · right
              rw [if_pos h5]
              dsimp only
              rw [if_neg (by omega)]
              refine ⟨?_, by omega, rfl, by omega, fun k h6 h7 => ?_⟩
              · by_cases h8 : b0 % 16 * 4096 + b1 % 64 * 64 + b2 % 64 = 65533
                · have : (decide (3 ≤ s.size) && decide ((b0 : Int) = 239) && decide ((b1 : Int) = 191) && decide ((b2 : Int) = 189)) = true := by
                    simp only [Bool.and_eq_true, decide_eq_true_eq]; omega
                  rw [this]; simp
                · have : (b0 % 16 * 4096 + b1 % 64 * 64 + b2 % 64 == 65533) = false := by rw [beq_eq_false_iff_ne]; omega
                  rw [this]; rfl
              · rw [hbt k h6 (by omega)]
                have : k = 1 ∨ k = 2 := by omega
                rcases this with rfl | rfl <;> simp <;> omega
            · left
              rw [if_neg h5]
              dsimp only
              rw [if_pos (by omega)]
              have : (decide (3 ≤ s.size) && decide ((b0 : Int) = 239) && decide ((b1 : Int) = 191) && decide ((b2 : Int) = 189)) = false := by
                rw [Bool.eq_false_iff]; simp only [ne_eq, Bool.and_eq_true, decide_eq_true_eq]; omega
              rw [this]; simp
          · left
            rw [if_neg (fun h => h4 h.2), if_neg (by omega)]
            have : (decide (3 ≤ s.size) && decide ((b0 : Int) = 239) && decide ((b1 : Int) = 191) && decide ((b2 : Int) = 189)) = false := by
              rw [Bool.eq_false_iff]; simp only [ne_eq, Bool.and_eq_true, decide_eq_true_eq]; omega
            refine ⟨by rw [this]; simp, ?_⟩
            by_cases h5 : 248 ≤ (b0 : Int) ∨ s.size < 3
            · rw [if_pos h5]
            · rw [if_neg h5]
              by_cases h6 : b1 < 128 ∨ 191 < b1
              · rw [if_pos h6]
              · rw [if_neg h6, if_pos (by omega)]
        · simp only [if_neg h3']
          have hn239 : (decide ((b0 : Int) = 239)) = false := by rw [decide_eq_false_iff_not]; omega
          rw [if_neg (by omega : ¬ (b0 / 16 = 14 ∧ (1 < s.size ∧ b1 / 64 = 2) ∧ (2 < s.size ∧ b2 / 64 = 2)))]
          by_cases h4 : b0 / 8 = 30 ∧ (1 < s.size ∧ b1 / 64 = 2) ∧ (2 < s.size ∧ b2 / 64 = 2) ∧ (3 < s.size ∧ b3 / 64 = 2)
          · rw [if_pos h4, if_neg (by omega : ¬ (248 ≤ (b0 : Int) ∨ s.size < 4)), if_neg (by omega : ¬ (b1 < 128 ∨ 191 < b1)), if_neg (by omega : ¬ (b2 < 128 ∨ 191 < b2)), if_neg (by omega : ¬ (b3 < 128 ∨ 191 < b3))]
            by_cases h5 : b0 % 8 * 262144 + b1 % 64 * 4096 + b2 % 64 * 64 + b3 % 64 ≥ 65536 ∧ (b0 % 8 * 262144 + b1 % 64 * 4096 + b2 % 64 * 64 + b3 % 64 < 55296 ∨ (57344 ≤ b0 % 8 * 262144 + b1 % 64 * 4096 + b2 % 64 * 64 + b3 % 64 ∧ b0 % 8 * 262144 + b1 % 64 * 4096 + b2 % 64 * 64 + b3 % 64 ≤ 1114111))
            · right
              rw [if_pos h5]
              dsimp only
              rw [if_neg (by omega)]
              refine ⟨?_, by omega, rfl, by omega, fun k h6 h7 => ?_⟩
              · have : (b0 % 8 * 262144 + b1 % 64 * 4096 + b2 % 64 * 64 + b3 % 64 == 65533) = false := by rw [beq_eq_false_iff_ne]; omega
                rw [this]; rfl
              · rw [hbt k h6 (by omega)]
                have : k = 1 ∨ k = 2 ∨ k = 3 := by omega
                rcases this with rfl | rfl | rfl <;> simp <;> omega
            · left
              rw [if_neg h5]
              dsimp only
              rw [if_pos (by omega)]
              simp [hn239]
          · left
            rw [if_neg h4]
            refine ⟨by simp [hn239], ?_⟩
            by_cases h5 : 248 ≤ (b0 : Int) ∨ s.size < 4
            · rw [if_pos h5]
            · rw [if_neg h5]
              by_cases h6 : b1 < 128 ∨ 191 < b1
              · rw [if_pos h6]
              · rw [if_neg h6]
                by_cases h7 : b2 < 128 ∨ 191 < b2
                · rw [if_pos h7]
                · rw [if_neg h7, if_pos (by omega)]

/-- Are all runes from a place on right, and none of them 0? -/
def refK (s : ByteArray) : Nat → Nat → Bool
  | 0, _ => true
  | g + 1, i => if i < s.size then (if oneOf (s.extract i s.size) = 0 ∨ bt s i = 0 then false else refK s g (i + oneOf (s.extract i s.size))) else true
/-- What is wrong with a key, as the document says it. -/
def refKeyE (s : ByteArray) : Int := if s.size = 0 then 30 else if refK s s.size 0 = false then 30 else if 64 < s.size then 31 else 0

theorem one_at (s : ByteArray) (i : Nat) (h : i < s.size) : (wrongAt s i = true ∧ oneOf (s.extract i s.size) = 0) ∨
    (wrongAt s i = false ∧ 1 ≤ oneOf (s.extract i s.size) ∧ oneOf (s.extract i s.size) = (Utf8.decode s i).2 ∧ i + oneOf (s.extract i s.size) ≤ s.size ∧ ∀ k, i + 1 ≤ k → k < i + oneOf (s.extract i s.size) → bt s k ≠ 0) := by
  have hz : (s.extract i s.size).size = s.size - i := by simp
  have h1 := one_decode (s.extract i s.size) (by omega)
  rw [Go.Lib.tail_decode] at h1
  unfold wrongAt
  rcases h1 with h1 | ⟨h1, h2, h3, h4, h5⟩
  · exact .inl h1
  · refine .inr ⟨h1, h2, h3, by omega, fun k hk1 hk2 => ?_⟩
    have := h5 (k - i) (by omega) (by omega)
    rw [bt_extract] at this
    rw [show k = i + (k - i) by omega]
    exact this

theorem refK_runes (s : ByteArray) : ∀ (g i : Nat) (n : Int), i ≤ s.size → s.size ≤ i + g → 0 ≤ n →
    (refK s g i = true → n ≤ runesK s g i n ∧ (i < s.size → n < runesK s g i n) ∧ ∀ k, i ≤ k → k < s.size → bt s k ≠ 0) ∧
    (refK s g i = false → runesK s g i n = -1 ∨ ∃ k, i ≤ k ∧ k < s.size ∧ bt s k = 0)
  | 0, i, n, h, hg, hn => by
    refine ⟨fun _ => ⟨by simp [runesK], fun h' => by omega, fun k h1 h2 => by omega⟩, fun h' => by simp [refK] at h'⟩
  | g + 1, i, n, h, hg, hn => by
    unfold refK runesK
    by_cases hi : i < s.size
    · simp only [if_pos hi]
      rcases one_at s i hi with ⟨h1, h2⟩ | ⟨h1, h2, h3, h4, h5⟩
      · rw [if_pos (.inl h2), h1]
        exact ⟨fun h' => by simp at h', fun _ => .inl (by simp)⟩
      · by_cases hb : bt s i = 0
        · rw [if_pos (.inr hb)]
          exact ⟨fun h' => by simp at h', fun _ => .inr ⟨i, Nat.le_refl _, hi, hb⟩⟩
        · rw [if_neg (fun h' => h'.elim (fun e => by omega) (fun e => hb e)), h1, if_neg (by simp), ← h3]
          obtain ⟨ha, hc⟩ := refK_runes s g (i + oneOf (s.extract i s.size)) (n + 1) h4 (by omega) (by omega)
          refine ⟨fun hr => ?_, fun hr => ?_⟩
          · obtain ⟨q1, q2, q3⟩ := ha hr
            refine ⟨by omega, fun _ => by omega, fun k hk1 hk2 => ?_⟩
            by_cases e : k = i
            · rw [e]; exact hb
            · by_cases e' : k < i + oneOf (s.extract i s.size)
              · exact h5 k (by omega) e'
              · exact q3 k (by omega) hk2
          · rcases hc hr with q | ⟨k, q1, q2, q3⟩
            · exact .inl q
            · exact .inr ⟨k, by omega, q2, q3⟩
    · rw [if_neg hi, if_neg hi]
      exact ⟨fun _ => ⟨Int.le_refl _, fun h' => absurd h' hi, fun k h1 h2 => by omega⟩, fun h' => by simp at h'⟩

theorem firstIdx_bt (s : ByteArray) : 0 ≤ firstIdx s 0 ↔ ∃ k, k < s.size ∧ bt s k = 0 := by
  have h := firstIdx_nonneg s 0
  have h1 : (0 ≤ firstIdx s 0) ↔ s.data.toList.any (· == 0) = true := by rw [← h, decide_eq_true_eq]
  rw [h1, List.any_eq_true]
  constructor
  · rintro ⟨x, hx, h0⟩
    obtain ⟨k, hk⟩ := List.mem_iff_getElem?.1 hx
    have hlt : k < s.data.toList.length := (List.getElem?_eq_some_iff.1 hk).1
    refine ⟨k, by simpa using hlt, ?_⟩
    rw [bt_get!, ← Go.Lib.getD_get!', List.getD, hk]
    rw [beq_iff_eq] at h0
    subst h0
    rfl
  · rintro ⟨k, hk, h0⟩
    have hlt : k < s.data.toList.length := by simpa using hk
    refine ⟨s.data.toList[k], List.getElem_mem hlt, ?_⟩
    rw [bt_get!, ← Go.Lib.getD_get!', List.getD, List.getElem?_eq_getElem hlt] at h0
    rw [beq_iff_eq]
    have : (s.data.toList[k]).toNat = 0 := by simpa using h0
    exact UInt8.toNat_inj.1 (by simpa using this)

/-- THE DOCUMENT's KEY IS THE PROGRAM's. -/
theorem refKeyE_eq (s : ByteArray) : refKeyE s = keyE s := by
  unfold refKeyE keyE runes
  obtain ⟨ha, hb⟩ := refK_runes s s.size 0 0 (by omega) (by omega) (by omega)
  by_cases h0 : s.size = 0
  · have h1 : runesK s s.size 0 0 < 1 := by rw [h0]; exact Int.zero_lt_one
    rw [if_pos h0, if_pos (.inl h1)]
  · rw [if_neg h0]
    cases hr : refK s s.size 0 with
    | true =>
      obtain ⟨q1, q2, q3⟩ := ha hr
      have := q2 (by omega)
      rw [if_neg (by simp), if_neg (c := _ ∨ _)]
      rintro (h | h)
      · omega
      · obtain ⟨k, hk, h'⟩ := (firstIdx_bt s).1 h
        exact q3 k (by omega) hk h'
    | false =>
      rw [if_pos rfl, if_pos]
      rcases hb hr with q | ⟨k, q1, q2, q3⟩
      · left; omega
      · right; exact (firstIdx_bt s).2 ⟨k, q2, q3⟩
end Go.Proofs.Ythljnnjpmdgkoaa
