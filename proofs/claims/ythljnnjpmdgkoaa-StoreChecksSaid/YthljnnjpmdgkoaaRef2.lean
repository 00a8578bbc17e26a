/- The document's answers on keys, ranges and compares are the program's: chanceryref11's Key, In, Asks, chanceryref12's wrong. The condition: texts are not too long. -/
import Derived.Test.YthljnnjpmdgkoaaRef
namespace Go.Proofs.Ythljnnjpmdgkoaa
open Go Go.Proofs Go.RowKit Go.PlainAid
set_option maxRecDepth 100000

theorem refK_more (s : ByteArray) : ∀ (g i g' : Nat), s.size ≤ i + g → g ≤ g' → refK s g' i = refK s g i
  | 0, i, g', h, _ => by
    cases g' with
    | zero => rfl
    | succ g' => unfold refK; rw [if_neg (by omega)]
  | g + 1, i, g', h, hg => by
    cases g' with
    | zero => omega
    | succ g' =>
      unfold refK
      by_cases hi : i < s.size
      · rw [if_pos hi, if_pos hi]
        split
        · rfl
        · rename_i hn
          have : 1 ≤ oneOf (s.extract i s.size) := by
            rcases Nat.eq_zero_or_pos (oneOf (s.extract i s.size)) with h0 | h0
            · exact absurd (.inl h0) hn
            · exact h0
          exact refK_more s g _ g' (by omega) (by omega)
      · rw [if_neg hi, if_neg hi]

set_option maxHeartbeats 4000000 in
theorem refKey_calls (w : World) (s : ByteArray) (hs : s.size ≤ 1099511627776) : Calls Try.prog 56 #[.string s] w fun e w' => e = .returned (.int .i64 (keyE s)) ∧ Fr No w w' := by
  have hE := refKeyE_eq s
  unfold refKeyE at hE
  have HE := Lib.hid hE
  clear hE
  by_cases h0 : s.size = 0
  · have hl : s.toList = [] := by
      rw [Lib.toList_data]
      exact List.eq_nil_of_length_eq_zero (by simpa using h0)
    have hl' : s.toList.isEmpty = true := by rw [hl]; rfl
    have hl'' : (s.toList == []) = true := by rw [hl]; rfl
    have e1 : keyE s = 30 := by rw [← HE.out, if_pos h0]
    have E1 := Lib.hid e1; clear e1
    clear hl
    go_enter Try.func56, Try.ntmps56
    go_wp2
    go_ret
    exact ⟨by rw [E1.out]; rfl, Fr.refl No w⟩
  · have hne : s.toList ≠ [] := by
      rw [Lib.toList_data]
      intro h
      have := congrArg List.length h
      simp at this
      exact h0 (by rw [this]; rfl)
    have hl' : s.toList.isEmpty = false := by simpa using hne
    have hl'' : (s.toList == []) = false := by simpa using hne
    rw [if_neg h0] at HE
    have hb := get_bt s
    clear hne
    go_enter Try.func56, Try.ntmps56
    go_wp2
    go_loopg [3] s.size (fun g s3 wr => ∃ i : Nat, s3 = .int .i64 i ∧ i + g = s.size ∧ Hid (refK s s.size 0 = refK s g i) ∧ w = wr)
    case atStart => exact ⟨0, rfl, by simp, Lib.hid rfl, rfl⟩
    case round =>
      obtain ⟨i, rfl, hi, HK, rfl⟩ := hrel
      cases gk with
      | zero =>
        have hil : ¬ (i : Int) < (s.size : Int) := by omega
        have hkt : refK s s.size 0 = true := by rw [HK.out]; rfl
        by_cases h64 : 64 < s.size
        · have h64' : (64 : Int) < (s.size : Int) := by omega
          have e1 : keyE s = 31 := by rw [← HE.out, hkt, if_neg (by simp), if_pos h64]
          have E1 := Lib.hid e1; clear e1
          clear hkt
          go_wp2
          go_ret
          exact ⟨by rw [E1.out]; rfl, Fr.refl No w⟩
        · have h64' : ¬ (64 : Int) < (s.size : Int) := by omega
          have e1 : keyE s = 0 := by rw [← HE.out, hkt, if_neg (by simp), if_neg h64]
          have E1 := Lib.hid e1; clear e1
          clear hkt
          go_wp2
          go_ret
          exact ⟨by rw [E1.out]; rfl, Fr.refl No w⟩
      | succ g =>
        have hil : (i : Int) < (s.size : Int) := by omega
        have hil' : i < s.size := by omega
        have hile : (i : Int) ≤ (s.size : Int) := by omega
        have hoc := fun W => one_calls' W (s.extract i s.size) (by simp; omega)
        have hK1 : refK s (g + 1) i = if oneOf (s.extract i s.size) = 0 ∨ bt s i = 0 then false else refK s g (i + oneOf (s.extract i s.size)) := by rw [refK]; rw [if_pos hil']
        have hst : oneOf (s.extract i s.size) ≠ 0 → 1 ≤ oneOf (s.extract i s.size) ∧ i + oneOf (s.extract i s.size) ≤ s.size := by
          intro hn
          rcases one_at s i hil' with ⟨_, h2⟩ | ⟨_, h2, _, h4, _⟩
          · exact absurd h2 hn
          · exact ⟨h2, h4⟩
        generalize oneOf (s.extract i s.size) = n at *
        have HO := Lib.hid hoc; clear hoc
        have HK1 := Lib.hid hK1; clear hK1
        by_cases t1 : n = 0
        · subst t1
          have e0 : refK s s.size 0 = false := by rw [HK.out, HK1.out]; exact if_pos (.inl rfl)
          have e1 : keyE s = 30 := by rw [← HE.out, e0]; rfl
          have E1 := Lib.hid e1; clear e1
          clear hst
          go_wp2_with (go_at_call 91; refine (HO.out _).mono ?_; rintro e w' ⟨rfl, rfl⟩)
          go_ret
          exact ⟨by rw [E1.out]; rfl, Fr.refl No w⟩
        · obtain ⟨hn1, hn2⟩ := hst t1
          have t1' : ((n : Int) == 0) = false := by simpa using t1
          have hb0 := bt_nonneg s i
          have hb1 := bt_le s i
          clear hst
          by_cases t2 : bt s i = 0
          · have t2' : (bt s i == 0) = true := by simpa using t2
            have e0 : refK s s.size 0 = false := by rw [HK.out, HK1.out]; exact if_pos (.inr t2)
            have e1 : keyE s = 30 := by rw [← HE.out, e0]; rfl
            have E1 := Lib.hid e1; clear e1
            clear t2
            go_wp2_with (go_at_call 91; refine (HO.out _).mono ?_; rintro e w' ⟨rfl, rfl⟩)
            go_ret
            exact ⟨by rw [E1.out]; rfl, Fr.refl No w⟩
          · have t2' : (bt s i == 0) = false := by simpa using t2
            have e1 : refK s s.size 0 = refK s (s.size - (i + n)) (i + n) := by
              rw [HK.out, HK1.out, if_neg (by omega)]
              exact refK_more s _ _ _ (by omega) (by omega)
            have E1 := Lib.hid e1; clear e1
            go_wp2_with (go_at_call 91; refine (HO.out _).mono ?_; rintro e w' ⟨rfl, rfl⟩)
            go_roundg (s.size - (i + n))
            case rel => exact ⟨i + n, by go_num, by omega, E1, rfl⟩
            case measure => omega

theorem refIn_calls (w : World) (key frm end_ : ByteArray) : Calls Try.prog 57 #[.string key, .string frm, .string end_] w fun e w' => e = .returned (.bool (inB key frm end_)) ∧ w = w' := by
  unfold inB
  cases h1 : end_.toList.isEmpty
  · cases h2 : (end_.toList == [0])
    · cases h3 : Op.bytesLess key.toList frm.toList <;>
      · go_enter Try.func57, Try.ntmps57
        go_wp2
        go_ret
        exact ⟨by simp, rfl⟩
    · cases h3 : Op.bytesLess key.toList frm.toList <;>
      · go_enter Try.func57, Try.ntmps57
        go_wp2
        go_ret
        exact ⟨by simp, rfl⟩
  · go_enter Try.func57, Try.ntmps57
    go_wp2
    go_ret
    exact ⟨by simp, rfl⟩

theorem refAsks_calls (w : World) (g : Rg) (hs : g.key.size ≤ 1099511627776) : Calls Try.prog 23 #[rgV g] w fun e w' => e = .returned (.int .i64 (askE g)) ∧ Fr No w w' := by
  have hk := fun W => refKey_calls W g.key hs
  obtain ⟨g1, g2, g3, g4, g5, g6, g7⟩ := g
  unfold askE rgV
  dsimp only at *
  generalize keyE g1 = k at *
  clear hs
  by_cases h1 : k ≠ 0
  · have h1' : (k == 0) = false := by simpa using h1
    rw [if_pos h1]
    go_enter Try.func23, Try.ntmps23
    go_wp2_with (go_at_call 56; refine (hk _).mono ?_; rintro e w1 ⟨rfl, hf⟩)
    go_ret
    exact ⟨rfl, ((Fr.refl No w).alloc _).trans0 hf⟩
  · have h1' : (k == 0) = true := by simpa using h1
    rw [if_neg h1]
    by_cases h2 : 64 < g2.size
    · have h2' : (64 : Int) < (g2.size : Int) := by omega
      rw [if_pos h2]
      go_enter Try.func23, Try.ntmps23
      go_wp2_with (go_at_call 56; refine (hk _).mono ?_; rintro e w1 ⟨rfl, hf⟩
                   have hb : w1.heap[w.heap.size]? = some (.cells #[.string g1, .string g2, .int .i64 g3, .int .i64 g4, .bool g5, .bool g6, .bool g7] 38 (0, 0)) := hf.heap (alloc_at _ _ _ rfl) id
                   have x1 : w1.cell? ⟨w.heap.size, 1, none⟩ = some (.string g2) := by simp [World.cell?, hb])
      go_ret
      exact ⟨rfl, ((Fr.refl No w).alloc _).trans0 hf⟩
    · have h2' : ¬ (64 : Int) < (g2.size : Int) := by omega
      rw [if_neg h2]
      by_cases h3 : g3 < 0
      · have h3' : ¬ 0 ≤ g3 := by omega
        rw [if_pos (.inl h3)]
        go_enter Try.func23, Try.ntmps23
        go_wp2_with (go_at_call 56; refine (hk _).mono ?_; rintro e w1 ⟨rfl, hf⟩
                     have hb : w1.heap[w.heap.size]? = some (.cells #[.string g1, .string g2, .int .i64 g3, .int .i64 g4, .bool g5, .bool g6, .bool g7] 38 (0, 0)) := hf.heap (alloc_at _ _ _ rfl) id
                     have x1 : w1.cell? ⟨w.heap.size, 1, none⟩ = some (.string g2) := by simp [World.cell?, hb]
                     have x2 : w1.cell? ⟨w.heap.size, 2, none⟩ = some (.int .i64 g3) := by simp [World.cell?, hb])
        go_ret
        exact ⟨rfl, ((Fr.refl No w).alloc _).trans0 hf⟩
      · by_cases h4 : g4 < 0
        · have h4' : ¬ 0 ≤ g4 := by omega
          rw [if_pos (.inr h4)]
          go_enter Try.func23, Try.ntmps23
          go_wp2_with (go_at_call 56; refine (hk _).mono ?_; rintro e w1 ⟨rfl, hf⟩
                       have hb : w1.heap[w.heap.size]? = some (.cells #[.string g1, .string g2, .int .i64 g3, .int .i64 g4, .bool g5, .bool g6, .bool g7] 38 (0, 0)) := hf.heap (alloc_at _ _ _ rfl) id
                       have x1 : w1.cell? ⟨w.heap.size, 1, none⟩ = some (.string g2) := by simp [World.cell?, hb]
                       have x2 : w1.cell? ⟨w.heap.size, 2, none⟩ = some (.int .i64 g3) := by simp [World.cell?, hb]
                       have x3 : w1.cell? ⟨w.heap.size, 3, none⟩ = some (.int .i64 g4) := by simp [World.cell?, hb])
          go_ret
          exact ⟨rfl, ((Fr.refl No w).alloc _).trans0 hf⟩
        · rw [if_neg (by omega)]
          go_enter Try.func23, Try.ntmps23
          go_wp2_with (go_at_call 56; refine (hk _).mono ?_; rintro e w1 ⟨rfl, hf⟩
                       have hb : w1.heap[w.heap.size]? = some (.cells #[.string g1, .string g2, .int .i64 g3, .int .i64 g4, .bool g5, .bool g6, .bool g7] 38 (0, 0)) := hf.heap (alloc_at _ _ _ rfl) id
                       have x1 : w1.cell? ⟨w.heap.size, 1, none⟩ = some (.string g2) := by simp [World.cell?, hb]
                       have x2 : w1.cell? ⟨w.heap.size, 2, none⟩ = some (.int .i64 g3) := by simp [World.cell?, hb]
                       have x3 : w1.cell? ⟨w.heap.size, 3, none⟩ = some (.int .i64 g4) := by simp [World.cell?, hb])
          go_ret
          exact ⟨rfl, ((Fr.refl No w).alloc _).trans0 hf⟩

theorem refWrong_calls (w : World) (c : Cmp) (hs : c.key.size ≤ 1099511627776) : Calls Try.prog 47 #[cmpV c] w fun e w' => e = .returned (.int .i64 (cmpE c)) ∧ Fr No w w' := by
  have hk := fun W => refKey_calls W c.key hs
  obtain ⟨c1, c2, c3, c4, c5⟩ := c
  unfold cmpE cmpV
  dsimp only at *
  generalize keyE c1 = k at *
  clear hs
  by_cases h1 : k ≠ 0
  · have h1' : (k == 0) = false := by simpa using h1
    rw [if_pos h1]
    go_enter Try.func47, Try.ntmps47
    go_wp2_with (go_at_call 56; refine (hk _).mono ?_; rintro e w1 ⟨rfl, hf⟩)
    go_ret
    exact ⟨rfl, ((Fr.refl No w).alloc _).trans0 hf⟩
  · have h1' : (k == 0) = true := by simpa using h1
    rw [if_neg h1]
    by_cases h2 : c2 < 1
    · rw [if_pos (.inl h2)]
      go_enter Try.func47, Try.ntmps47
      go_wp2_with (go_at_call 56; refine (hk _).mono ?_; rintro e w1 ⟨rfl, hf⟩
                   have hb : w1.heap[w.heap.size]? = some (.cells #[.string c1, .int .i64 c2, .int .i64 c3, .int .i64 c4, .string c5] 32 (0, 0)) := hf.heap (alloc_at _ _ _ rfl) id
                   have x1 : w1.cell? ⟨w.heap.size, 1, none⟩ = some (.int .i64 c2) := by simp [World.cell?, hb])
      go_ret
      exact ⟨rfl, ((Fr.refl No w).alloc _).trans0 hf⟩
    · by_cases h3 : 5 < c2
      · rw [if_pos (.inr h3)]
        go_enter Try.func47, Try.ntmps47
        go_wp2_with (go_at_call 56; refine (hk _).mono ?_; rintro e w1 ⟨rfl, hf⟩
                     have hb : w1.heap[w.heap.size]? = some (.cells #[.string c1, .int .i64 c2, .int .i64 c3, .int .i64 c4, .string c5] 32 (0, 0)) := hf.heap (alloc_at _ _ _ rfl) id
                     have x1 : w1.cell? ⟨w.heap.size, 1, none⟩ = some (.int .i64 c2) := by simp [World.cell?, hb])
        go_ret
        exact ⟨rfl, ((Fr.refl No w).alloc _).trans0 hf⟩
      · rw [if_neg (c := c2 < 1 ∨ 5 < c2) (by omega)]
        by_cases h4 : 1024 < c5.size
        · have h4' : (1024 : Int) < (c5.size : Int) := by omega
          rw [if_pos h4]
          go_enter Try.func47, Try.ntmps47
          go_wp2_with (go_at_call 56; refine (hk _).mono ?_; rintro e w1 ⟨rfl, hf⟩
                       have hb : w1.heap[w.heap.size]? = some (.cells #[.string c1, .int .i64 c2, .int .i64 c3, .int .i64 c4, .string c5] 32 (0, 0)) := hf.heap (alloc_at _ _ _ rfl) id
                       have x1 : w1.cell? ⟨w.heap.size, 1, none⟩ = some (.int .i64 c2) := by simp [World.cell?, hb]
                       have x4 : w1.cell? ⟨w.heap.size, 4, none⟩ = some (.string c5) := by simp [World.cell?, hb])
          go_ret
          exact ⟨rfl, ((Fr.refl No w).alloc _).trans0 hf⟩
        · have h4' : ¬ (1024 : Int) < (c5.size : Int) := by omega
          rw [if_neg h4]
          by_cases h5 : c2 = 4
          · subst h5
            by_cases h6 : c4 = 0
            · subst h6
              rw [if_neg (by simp)]
              go_enter Try.func47, Try.ntmps47
              go_wp2_with (go_at_call 56; refine (hk _).mono ?_; rintro e w1 ⟨rfl, hf⟩
                           have hb : w1.heap[w.heap.size]? = some (.cells #[.string c1, .int .i64 4, .int .i64 c3, .int .i64 0, .string c5] 32 (0, 0)) := hf.heap (alloc_at _ _ _ rfl) id
                           have x1 : w1.cell? ⟨w.heap.size, 1, none⟩ = some (.int .i64 4) := by simp [World.cell?, hb]
                           have x3 : w1.cell? ⟨w.heap.size, 3, none⟩ = some (.int .i64 0) := by simp [World.cell?, hb]
                           have x4 : w1.cell? ⟨w.heap.size, 4, none⟩ = some (.string c5) := by simp [World.cell?, hb])
              go_ret
              exact ⟨rfl, ((Fr.refl No w).alloc _).trans0 hf⟩
            · have h6' : (c4 == 0) = false := by simpa using h6
              rw [if_pos (.inl ⟨rfl, h6⟩)]
              go_enter Try.func47, Try.ntmps47
              go_wp2_with (go_at_call 56; refine (hk _).mono ?_; rintro e w1 ⟨rfl, hf⟩
                           have hb : w1.heap[w.heap.size]? = some (.cells #[.string c1, .int .i64 4, .int .i64 c3, .int .i64 c4, .string c5] 32 (0, 0)) := hf.heap (alloc_at _ _ _ rfl) id
                           have x1 : w1.cell? ⟨w.heap.size, 1, none⟩ = some (.int .i64 4) := by simp [World.cell?, hb]
                           have x3 : w1.cell? ⟨w.heap.size, 3, none⟩ = some (.int .i64 c4) := by simp [World.cell?, hb]
                           have x4 : w1.cell? ⟨w.heap.size, 4, none⟩ = some (.string c5) := by simp [World.cell?, hb])
              go_ret
              exact ⟨rfl, ((Fr.refl No w).alloc _).trans0 hf⟩
          · have h5' : (c2 == 4) = false := by simpa using h5
            by_cases h6 : c5.toList = []
            · have h6' : c5.toList.isEmpty = true := by rw [h6]; rfl
              have h6'' : (c5.toList == []) = true := by rw [h6]; rfl
              rw [if_neg (by simp [h5, h6])]
              go_enter Try.func47, Try.ntmps47
              go_wp2_with (go_at_call 56; refine (hk _).mono ?_; rintro e w1 ⟨rfl, hf⟩
                           have hb : w1.heap[w.heap.size]? = some (.cells #[.string c1, .int .i64 c2, .int .i64 c3, .int .i64 c4, .string c5] 32 (0, 0)) := hf.heap (alloc_at _ _ _ rfl) id
                           have x1 : w1.cell? ⟨w.heap.size, 1, none⟩ = some (.int .i64 c2) := by simp [World.cell?, hb]
                           have x3 : w1.cell? ⟨w.heap.size, 3, none⟩ = some (.int .i64 c4) := by simp [World.cell?, hb]
                           have x4 : w1.cell? ⟨w.heap.size, 4, none⟩ = some (.string c5) := by simp [World.cell?, hb])
              go_ret
              exact ⟨rfl, ((Fr.refl No w).alloc _).trans0 hf⟩
            · have h6' : c5.toList.isEmpty = false := by simpa using h6
              have h6'' : (c5.toList == []) = false := by simpa using h6
              rw [if_pos (.inr ⟨h5, h6⟩)]
              go_enter Try.func47, Try.ntmps47
              go_wp2_with (go_at_call 56; refine (hk _).mono ?_; rintro e w1 ⟨rfl, hf⟩
                           have hb : w1.heap[w.heap.size]? = some (.cells #[.string c1, .int .i64 c2, .int .i64 c3, .int .i64 c4, .string c5] 32 (0, 0)) := hf.heap (alloc_at _ _ _ rfl) id
                           have x1 : w1.cell? ⟨w.heap.size, 1, none⟩ = some (.int .i64 c2) := by simp [World.cell?, hb]
                           have x3 : w1.cell? ⟨w.heap.size, 3, none⟩ = some (.int .i64 c4) := by simp [World.cell?, hb]
                           have x4 : w1.cell? ⟨w.heap.size, 4, none⟩ = some (.string c5) := by simp [World.cell?, hb])
              go_ret
              exact ⟨rfl, ((Fr.refl No w).alloc _).trans0 hf⟩

end Go.Proofs.Ythljnnjpmdgkoaa
