/- What the store needs of the package index (TreeOk), and that a tree of one node has it. The condition there: at most nine keys. -/
import Derived.Test.YthljnnjpmdgkoaaRange
import Derived.Test.YthljnnjpmdgkoaaIndex3
namespace Go.Proofs.Ythljnnjpmdgkoaa
open Go Go.Proofs Go.RowKit Go.Shelf
set_option maxRecDepth 100000

theorem Range1_nil (w : World) (t : Nat) (frm to : ByteArray) :
    Calls Try.prog 69 #[.pointer (some ⟨t, 0, none⟩), .string frm, .string to, .int .i64 0] w fun e w' => e = .returned (.slice none 0 0) ∧ Fr No w w' := by
  go_enter Try.func69, Try.ntmps69
  go_wp2
  go_ret
  exact ⟨rfl, (((Fr.refl No w).alloc _).alloc _).alloc _⟩

abbrev TreeRel := World → Nat → Pairs → (Nat → Prop) → Prop
/-- What the store needs of a tree. -/
structure TreeOk (TA : TreeRel) (N : Nat) : Prop where
  lt : ∀ {w t T F}, TA w t T F → ∀ b, F b → b < w.heap.size
  fr : ∀ {w w' t T F S}, TA w t T F → Fr S w w' → (∀ b, F b → ¬ S b) → TA w' t T F
  root : ∀ {w t T F}, TA w t T F → F t
  sorted : ∀ {w t T F}, TA w t T F → Sorted T
  new : ∀ w : World, Calls Try.prog 67 #[] w fun e w' => ∃ t, e = .returned (.pointer (some ⟨t, 0, none⟩)) ∧ ∃ F, TA w' t [] F ∧ Fr No w w' ∧ (∀ b, F b → w.heap.size ≤ b)
  len : ∀ {w t T F}, TA w t T F → Calls Try.prog 70 #[.pointer (some ⟨t, 0, none⟩)] w fun e w' => e = .returned (.int .i64 T.length) ∧ w = w'
  get : ∀ {w t T F} (key : ByteArray), TA w t T F → Calls Try.prog 112 #[.pointer (some ⟨t, 0, none⟩), .string key] w fun e w' => e = .returned (getTuple (getT T key)) ∧ Fr No w w'
  set : ∀ {w t T F} (key : ByteArray) (m : Int), TA w t T F → T.length < N →
    Calls Try.prog 123 #[.pointer (some ⟨t, 0, none⟩), .string key, .int .i64 m] w fun e w' => (∃ v, e = .returned v) ∧ ∃ F', TA w' t (insT T key m) F' ∧ Fr F w w' ∧ (∀ b, F' b → F b ∨ w.heap.size ≤ b)
  range : ∀ {w t T F} (frm to : ByteArray), TA w t T F →
    Calls Try.prog 69 #[.pointer (some ⟨t, 0, none⟩), .string frm, .string to, .int .i64 T.length] w fun e w' => ∃ v, e = .returned v ∧ SlF w' 127 2 pairC v (rangeT T frm to) ∧ Fr No w w' ∧ (∀ b, v.ownBlock = some b → w.heap.size ≤ b)

theorem treeOk1 : TreeOk TreeAt1 9 where
  lt h := h.lt
  fr h := h.fr
  root h := by obtain ⟨_, _, _, _, _, hF⟩ := h; exact (hF _).2 (.inl rfl)
  sorted h := by obtain ⟨_, _, _, hs, _⟩ := h; exact hs
  new := IndexNew_calls
  len h := Len1_calls _ _ _ _ h
  get key h := Get1_calls _ _ _ _ key h
  set key m h hl := Set1_calls _ _ _ _ key m h hl
  range {w t T F} frm to h := by
    obtain ⟨nv, pv, h, hs, hl, _⟩ := h
    rcases Nat.eq_zero_or_pos T.length with h0 | hp
    · obtain rfl := List.eq_nil_of_length_eq_zero h0
      refine (Range1_nil w t frm to).mono ?_
      rintro e w' ⟨rfl, hf⟩
      exact ⟨_, rfl, SlF.nil _ _ _ _, hf, by simp [Value.ownBlock]⟩
    · refine (callsIn_wide.1 (Range1_in 6 (by omega) w t nv pv T frm to h hs hl hp)).mono ?_
      rintro e w' ⟨v, rfl, h1, h2, h3⟩
      exact ⟨v, rfl, h1, Fr.of_below h2, h3⟩
end Go.Proofs.Ythljnnjpmdgkoaa
