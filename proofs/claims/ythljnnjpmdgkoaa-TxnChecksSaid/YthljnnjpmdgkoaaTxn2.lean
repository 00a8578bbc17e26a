/- The two sides of a compare and their order: the program's txn.sides and cmp.Compare. -/
import Derived.Test.YthljnnjpmdgkoaaTxn
import Derived.Test.YthljnnjpmdgkoaaSmall
namespace Go.Proofs.Ythljnnjpmdgkoaa
open Go Go.Proofs Go.RowKit
set_option maxRecDepth 100000

def sgnI (a b : Int) : Int := if a < b then -1 else if b < a then 1 else 0
def sgnS (a b : ByteArray) : Int := if klt a b then -1 else if klt b a then 1 else 0

theorem nanI_calls (w : World) (a : Int) : Calls Try.prog 88 #[.int .i64 a] w fun e w' => e = .returned (.bool false) ∧ w = w' := by
  go_enter Try.func88, Try.ntmps88
  go_wp2
  go_ret
  exact ⟨by simp, rfl⟩
theorem nanS_calls (w : World) (a : ByteArray) : Calls Try.prog 89 #[.string a] w fun e w' => e = .returned (.bool false) ∧ w = w' := by
  go_enter Try.func89, Try.ntmps89
  go_wp2
  go_ret
  exact ⟨by simp, rfl⟩
theorem sgnI_calls (w : World) (a b : Int) : Calls Try.prog 49 #[.int .i64 a, .int .i64 b] w fun e w' => e = .returned (.int .i64 (sgnI a b)) ∧ w = w' := by
  unfold sgnI
  by_cases h1 : a < b
  · rw [if_pos h1]
    go_enter Try.func49, Try.ntmps49
    go_wp2_with (go_at_call 88; refine (nanI_calls _ _).mono ?_; rintro e w' ⟨rfl, rfl⟩)
    go_ret
    exact ⟨rfl, rfl⟩
  · rw [if_neg h1]
    by_cases h2 : b < a
    · rw [if_pos h2]
      go_enter Try.func49, Try.ntmps49
      go_wp2_with (go_at_call 88; refine (nanI_calls _ _).mono ?_; rintro e w' ⟨rfl, rfl⟩)
      go_ret
      exact ⟨rfl, rfl⟩
    · rw [if_neg h2]
      go_enter Try.func49, Try.ntmps49
      go_wp2_with (go_at_call 88; refine (nanI_calls _ _).mono ?_; rintro e w' ⟨rfl, rfl⟩)
      go_ret
      exact ⟨rfl, rfl⟩
theorem sgnS_calls (w : World) (a b : ByteArray) : Calls Try.prog 50 #[.string a, .string b] w fun e w' => e = .returned (.int .i64 (sgnS a b)) ∧ w = w' := by
  unfold sgnS klt
  cases h1 : Op.bytesLess a.toList b.toList
  · cases h2 : Op.bytesLess b.toList a.toList
    · have h3 : (a.toList == b.toList) = true := by
        rcases klt_tri a b with h | h | h
        · unfold klt at h; rw [h1] at h; cases h
        · rw [h]; simp
        · unfold klt at h; rw [h2] at h; cases h
      go_enter Try.func50, Try.ntmps50
      go_wp2_with (go_at_call 89; refine (nanS_calls _ _).mono ?_; rintro e w' ⟨rfl, rfl⟩)
      go_ret
      exact ⟨rfl, rfl⟩
    · have h3 : (a.toList == b.toList) = false := by
        have := klt_ne (a := b) (b := a) h2
        rw [keq_comm] at this
        exact this
      go_enter Try.func50, Try.ntmps50
      go_wp2_with (go_at_call 89; refine (nanS_calls _ _).mono ?_; rintro e w' ⟨rfl, rfl⟩)
      go_ret
      exact ⟨rfl, rfl⟩
  · go_enter Try.func50, Try.ntmps50
    go_wp2_with (go_at_call 89; refine (nanS_calls _ _).mono ?_; rintro e w' ⟨rfl, rfl⟩)
    go_ret
    exact ⟨rfl, rfl⟩

/-- The number of a key that a compare looks at. -/
def sideN (c : Cmp) (x : Kv) : Int := if c.what = 1 then x.version else if c.what = 2 then x.create else if c.what = 3 then x.mod else x.lease
def sidesV (c : Cmp) (x : Kv) : Value :=
  if c.what = 1 ∨ c.what = 2 ∨ c.what = 3 ∨ c.what = 5 then .tuple #[.iface 3 (.int .i64 (sideN c x)), .iface 3 (.int .i64 c.number)] else .tuple #[.iface 9 (.string x.value), .iface 9 (.string c.value)]

theorem sides_calls (w : World) (c : Cmp) (x : Kv) : Calls Try.prog 48 #[cmpV c, kvV x] w fun e w' => e = .returned (sidesV c x) ∧ Fr No w w' := by
  obtain ⟨c1, c2, c3, c4, c5⟩ := c
  obtain ⟨x1, x2, x3, x4, x5, x6⟩ := x
  unfold sidesV sideN cmpV kvV
  dsimp only
  by_cases h1 : c2 = 1
  · subst h1
    simp only [if_true, true_or]
    go_enter Try.func48, Try.ntmps48
    go_wp2
    go_quiet (fail)
    have hq := Fr.drewN No ((w.alloc (Obj.cells #[.string c1, .int .i64 1, .int .i64 c3, .int .i64 c4, .string c5] 32)).alloc (Obj.cells #[.string x1, .string x2, .int .i64 x3, .int .i64 x4, .int .i64 x5, .int .i64 x6] 57)) nq
    go_wp2
    go_ret2
    exact ⟨rfl, (((Fr.refl No w).alloc _).alloc _).trans0 hq⟩
  · have h1' : (c2 == 1) = false := by simpa using h1
    by_cases h2 : c2 = 2
    · subst h2
      simp only [if_true, true_or, or_true, if_neg h1]
      go_enter Try.func48, Try.ntmps48
      go_wp2
      go_quiet (fail)
      have hq := Fr.drewN No ((w.alloc (Obj.cells #[.string c1, .int .i64 2, .int .i64 c3, .int .i64 c4, .string c5] 32)).alloc (Obj.cells #[.string x1, .string x2, .int .i64 x3, .int .i64 x4, .int .i64 x5, .int .i64 x6] 57)) nq
      go_wp2
      go_ret2
      exact ⟨rfl, (((Fr.refl No w).alloc _).alloc _).trans0 hq⟩
    · have h2' : (c2 == 2) = false := by simpa using h2
      by_cases h3 : c2 = 3
      · subst h3
        simp only [if_true, true_or, or_true, if_neg h1, if_neg h2]
        go_enter Try.func48, Try.ntmps48
        go_wp2
        go_quiet (fail)
        have hq := Fr.drewN No ((w.alloc (Obj.cells #[.string c1, .int .i64 3, .int .i64 c3, .int .i64 c4, .string c5] 32)).alloc (Obj.cells #[.string x1, .string x2, .int .i64 x3, .int .i64 x4, .int .i64 x5, .int .i64 x6] 57)) nq
        go_wp2
        go_ret2
        exact ⟨rfl, (((Fr.refl No w).alloc _).alloc _).trans0 hq⟩
      · have h3' : (c2 == 3) = false := by simpa using h3
        by_cases h5 : c2 = 5
        · subst h5
          simp only [or_true, if_true, if_neg h1, if_neg h2, if_neg h3]
          go_enter Try.func48, Try.ntmps48
          go_wp2
          go_quiet (fail)
          have hq := Fr.drewN No ((w.alloc (Obj.cells #[.string c1, .int .i64 5, .int .i64 c3, .int .i64 c4, .string c5] 32)).alloc (Obj.cells #[.string x1, .string x2, .int .i64 x3, .int .i64 x4, .int .i64 x5, .int .i64 x6] 57)) nq
          go_wp2
          go_ret2
          exact ⟨rfl, (((Fr.refl No w).alloc _).alloc _).trans0 hq⟩
        · have h5' : (c2 == 5) = false := by simpa using h5
          rw [if_neg (by simp [h1, h2, h3, h5])]
          go_enter Try.func48, Try.ntmps48
          go_wp2
          go_quiet (fail)
          have hq := Fr.drewN No ((w.alloc (Obj.cells #[.string c1, .int .i64 c2, .int .i64 c3, .int .i64 c4, .string c5] 32)).alloc (Obj.cells #[.string x1, .string x2, .int .i64 x3, .int .i64 x4, .int .i64 x5, .int .i64 x6] 57)) nq
          go_wp2
          go_ret2
          exact ⟨rfl, (((Fr.refl No w).alloc _).alloc _).trans0 hq⟩
end Go.Proofs.Ythljnnjpmdgkoaa
