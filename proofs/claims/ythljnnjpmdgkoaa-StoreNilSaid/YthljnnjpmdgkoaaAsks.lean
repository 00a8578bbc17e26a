/- The store's Asks, one, and what Check's inner functions answer. The condition: texts are of less than 2^40 bytes. -/
import Derived.Test.YthljnnjpmdgkoaaNames
import Derived.Test.YthljnnjpmdgkoaaKeys
import Derived.BigQuiet
namespace Go.Proofs.Ythljnnjpmdgkoaa
open Go Go.Proofs Go.RowKit
set_option maxRecDepth 100000

/-- A range that is asked for. -/
structure Rg where
  key : ByteArray
  end_ : ByteArray
  rev : Int
  limit : Int
  keys : Bool
  count : Bool
  desc : Bool
def rgV (g : Rg) : Value := .agg #[.string g.key, .string g.end_, .int .i64 g.rev, .int .i64 g.limit, .bool g.keys, .bool g.count, .bool g.desc]
def rgC (g : Rg) : List Value := [.string g.key, .string g.end_, .int .i64 g.rev, .int .i64 g.limit, .bool g.keys, .bool g.count, .bool g.desc]
/-- An op. -/
structure Opr where
  kind : Int
  rg : Rg
  value : ByteArray
  lease : Int
def opV (o : Opr) : Value := .agg #[.int .i64 o.kind, .string o.rg.key, .string o.rg.end_, .int .i64 o.rg.rev, .int .i64 o.rg.limit, .bool o.rg.keys, .bool o.rg.count, .bool o.rg.desc, .string o.value, .int .i64 o.lease]
def opC (o : Opr) : List Value := .int .i64 o.kind :: (rgC o.rg ++ [.string o.value, .int .i64 o.lease])
theorem opC_length (o : Opr) : (opC o).length = 10 := rfl

/-- What is wrong with a range. -/
def askE (g : Rg) : Int := if keyE g.key ≠ 0 then keyE g.key else if 64 < g.end_.size then 31 else if g.rev < 0 ∨ g.limit < 0 then 1 else 0

theorem Asks_calls (w : World) (g : Rg) (hs : g.key.size ≤ 1099511627776) : Calls Try.prog 22 #[rgV g] w fun e w' => e = .returned (.int .i64 (askE g)) ∧ Fr No w w' := by
  have hk := fun W => Key_calls W g.key hs
  obtain ⟨g1, g2, g3, g4, g5, g6, g7⟩ := g
  unfold askE rgV
  dsimp only at *
  generalize keyE g1 = k at *
  clear hs
  by_cases h1 : k ≠ 0
  · have h1' : (k == 0) = false := by simpa using h1
    rw [if_pos h1]
    go_enter Try.func22, Try.ntmps22
    go_wp2_with (go_at_call 58; refine (hk _).mono ?_; rintro e w1 ⟨rfl, hf⟩)
    go_ret
    exact ⟨rfl, ((Fr.refl No w).alloc _).trans0 hf⟩
  · have h1' : (k == 0) = true := by simpa using h1
    rw [if_neg h1]
    by_cases h2 : 64 < g2.size
    · have h2' : (64 : Int) < (g2.size : Int) := by omega
      rw [if_pos h2]
      go_enter Try.func22, Try.ntmps22
      go_wp2_with (go_at_call 58; refine (hk _).mono ?_; rintro e w1 ⟨rfl, hf⟩
                   have hb : w1.heap[w.heap.size]? = some (.cells #[.string g1, .string g2, .int .i64 g3, .int .i64 g4, .bool g5, .bool g6, .bool g7] 38 (0, 0)) := hf.heap (alloc_at _ _ _ rfl) id
                   have x1 : w1.cell? ⟨w.heap.size, 1, none⟩ = some (.string g2) := by simp [World.cell?, hb])
      go_ret
      exact ⟨rfl, ((Fr.refl No w).alloc _).trans0 hf⟩
    · have h2' : ¬ (64 : Int) < (g2.size : Int) := by omega
      rw [if_neg h2]
      by_cases h3 : g3 < 0
      · have h3' : ¬ 0 ≤ g3 := by omega
        rw [if_pos (.inl h3)]
        go_enter Try.func22, Try.ntmps22
        go_wp2_with (go_at_call 58; refine (hk _).mono ?_; rintro e w1 ⟨rfl, hf⟩
                     have hb : w1.heap[w.heap.size]? = some (.cells #[.string g1, .string g2, .int .i64 g3, .int .i64 g4, .bool g5, .bool g6, .bool g7] 38 (0, 0)) := hf.heap (alloc_at _ _ _ rfl) id
                     have x1 : w1.cell? ⟨w.heap.size, 1, none⟩ = some (.string g2) := by simp [World.cell?, hb]
                     have x2 : w1.cell? ⟨w.heap.size, 2, none⟩ = some (.int .i64 g3) := by simp [World.cell?, hb])
        go_ret
        exact ⟨rfl, ((Fr.refl No w).alloc _).trans0 hf⟩
      · by_cases h4 : g4 < 0
        · have h4' : ¬ 0 ≤ g4 := by omega
          rw [if_pos (.inr h4)]
          go_enter Try.func22, Try.ntmps22
          go_wp2_with (go_at_call 58; refine (hk _).mono ?_; rintro e w1 ⟨rfl, hf⟩
                       have hb : w1.heap[w.heap.size]? = some (.cells #[.string g1, .string g2, .int .i64 g3, .int .i64 g4, .bool g5, .bool g6, .bool g7] 38 (0, 0)) := hf.heap (alloc_at _ _ _ rfl) id
                       have x1 : w1.cell? ⟨w.heap.size, 1, none⟩ = some (.string g2) := by simp [World.cell?, hb]
                       have x2 : w1.cell? ⟨w.heap.size, 2, none⟩ = some (.int .i64 g3) := by simp [World.cell?, hb]
                       have x3 : w1.cell? ⟨w.heap.size, 3, none⟩ = some (.int .i64 g4) := by simp [World.cell?, hb])
          go_ret
          exact ⟨rfl, ((Fr.refl No w).alloc _).trans0 hf⟩
        · rw [if_neg (by omega)]
          go_enter Try.func22, Try.ntmps22
          go_wp2_with (go_at_call 58; refine (hk _).mono ?_; rintro e w1 ⟨rfl, hf⟩
                       have hb : w1.heap[w.heap.size]? = some (.cells #[.string g1, .string g2, .int .i64 g3, .int .i64 g4, .bool g5, .bool g6, .bool g7] 38 (0, 0)) := hf.heap (alloc_at _ _ _ rfl) id
                       have x1 : w1.cell? ⟨w.heap.size, 1, none⟩ = some (.string g2) := by simp [World.cell?, hb]
                       have x2 : w1.cell? ⟨w.heap.size, 2, none⟩ = some (.int .i64 g3) := by simp [World.cell?, hb]
                       have x3 : w1.cell? ⟨w.heap.size, 3, none⟩ = some (.int .i64 g4) := by simp [World.cell?, hb])
          go_ret
          exact ⟨rfl, ((Fr.refl No w).alloc _).trans0 hf⟩

/-- What is wrong with an op alone. -/
def oneE (o : Opr) : Int :=
  if o.kind = 3 then askE o.rg else if o.kind = 2 then askE ⟨o.rg.key, o.rg.end_, 0, 0, false, false, false⟩
  else if o.kind = 1 then (if keyE o.rg.key ≠ 0 then keyE o.rg.key else if 1024 < o.value.size then 31 else if 0 ≤ o.lease then 0 else 1) else 1

theorem one_calls (w : World) (o : Opr) (hs : o.rg.key.size ≤ 1099511627776) : Calls Try.prog 52 #[opV o] w fun e w' => e = .returned (.int .i64 (oneE o)) ∧ Fr No w w' := by
  have hk := fun W => Key_calls W o.rg.key hs
  have ha := fun W => Asks_calls W o.rg hs
  have hb := fun W => Asks_calls W ⟨o.rg.key, o.rg.end_, 0, 0, false, false, false⟩ hs
  obtain ⟨o1, ⟨g1, g2, g3, g4, g5, g6, g7⟩, o2, o3⟩ := o
  unfold oneE opV
  unfold rgV at *
  dsimp only at *
  generalize keyE g1 = k at *
  generalize askE _ = a at *
  generalize askE _ = b at *
  have HK := Lib.hid hk
  have HA := Lib.hid ha
  have HB := Lib.hid hb
  clear hs hk ha hb
  by_cases h1 : o1 = 3
  · have h1' : (o1 == 3) = true := by simpa using h1
    rw [if_pos h1]
    go_enter Try.func52, Try.ntmps52
    go_wp2_with (go_at_call 22; refine (HA.out _).mono ?_; rintro e w1 ⟨rfl, hf⟩)
    go_ret
    exact ⟨rfl, ((Fr.refl No w).alloc _).trans0 hf⟩
  · have h1' : (o1 == 3) = false := by simpa using h1
    rw [if_neg h1]
    by_cases h2 : o1 = 2
    · have h2' : (o1 == 2) = true := by simpa using h2
      rw [if_pos h2]
      go_enter Try.func52, Try.ntmps52
      go_wp2_with (go_at_call 22; refine (HB.out _).mono ?_; rintro e w1 ⟨rfl, hf⟩)
      go_ret
      exact ⟨rfl, ((Fr.refl No w).alloc _).trans0 hf⟩
    · have h2' : (o1 == 2) = false := by simpa using h2
      rw [if_neg h2]
      by_cases h3 : o1 = 1
      · rw [if_pos h3]
        subst h3
        clear h1 h2 h1' h2'
        by_cases h4 : k ≠ 0
        · have h4' : (k == 0) = false := by simpa using h4
          rw [if_pos h4]
          go_enter Try.func52, Try.ntmps52
          go_wp2_with (go_at_call 58; refine (HK.out _).mono ?_; rintro e w1 ⟨rfl, hf⟩)
          go_ret
          exact ⟨rfl, ((Fr.refl No w).alloc _).trans0 hf⟩
        · have h4' : (k == 0) = true := by simpa using h4
          rw [if_neg h4]
          by_cases h5 : 1024 < o2.size
          · have h5' : (1024 : Int) < (o2.size : Int) := by omega
            rw [if_pos h5]
            go_enter Try.func52, Try.ntmps52
            go_wp2_with (go_at_call 58; refine (HK.out _).mono ?_; rintro e w1 ⟨rfl, hf⟩
                         have hb : w1.heap[w.heap.size]? = some (.cells #[.int .i64 1, .string g1, .string g2, .int .i64 g3, .int .i64 g4, .bool g5, .bool g6, .bool g7, .string o2, .int .i64 o3] 87 (0, 0)) := hf.heap (alloc_at _ _ _ rfl) id
                         have x8 : w1.cell? ⟨w.heap.size, 8, none⟩ = some (.string o2) := by simp [World.cell?, hb])
            go_ret
            exact ⟨rfl, ((Fr.refl No w).alloc _).trans0 hf⟩
          · have h5' : ¬ (1024 : Int) < (o2.size : Int) := by omega
            rw [if_neg h5]
            by_cases h6 : 0 ≤ o3
            · rw [if_pos h6]
              go_enter Try.func52, Try.ntmps52
              go_wp2_with (go_at_call 58; refine (HK.out _).mono ?_; rintro e w1 ⟨rfl, hf⟩
                           have hb : w1.heap[w.heap.size]? = some (.cells #[.int .i64 1, .string g1, .string g2, .int .i64 g3, .int .i64 g4, .bool g5, .bool g6, .bool g7, .string o2, .int .i64 o3] 87 (0, 0)) := hf.heap (alloc_at _ _ _ rfl) id
                           have x8 : w1.cell? ⟨w.heap.size, 8, none⟩ = some (.string o2) := by simp [World.cell?, hb]
                           have x9 : w1.cell? ⟨w.heap.size, 9, none⟩ = some (.int .i64 o3) := by simp [World.cell?, hb])
              go_ret
              exact ⟨rfl, ((Fr.refl No w).alloc _).trans0 hf⟩
            · rw [if_neg h6]
              go_enter Try.func52, Try.ntmps52
              go_wp2_with (go_at_call 58; refine (HK.out _).mono ?_; rintro e w1 ⟨rfl, hf⟩
                           have hb : w1.heap[w.heap.size]? = some (.cells #[.int .i64 1, .string g1, .string g2, .int .i64 g3, .int .i64 g4, .bool g5, .bool g6, .bool g7, .string o2, .int .i64 o3] 87 (0, 0)) := hf.heap (alloc_at _ _ _ rfl) id
                           have x8 : w1.cell? ⟨w.heap.size, 8, none⟩ = some (.string o2) := by simp [World.cell?, hb]
                           have x9 : w1.cell? ⟨w.heap.size, 9, none⟩ = some (.int .i64 o3) := by simp [World.cell?, hb])
              go_ret
              exact ⟨rfl, ((Fr.refl No w).alloc _).trans0 hf⟩
      · have h3' : (o1 == 1) = false := by simpa using h3
        rw [if_neg h3]
        go_enter Try.func52, Try.ntmps52
        go_wp2
        go_ret
        exact ⟨rfl, (Fr.refl No w).alloc _⟩

/-- Is a key one of a range? -/
def inB (key frm end_ : ByteArray) : Bool :=
  if end_.toList.isEmpty then key.toList == frm.toList else if end_.toList == [0] then !Op.bytesLess key.toList frm.toList else !Op.bytesLess key.toList frm.toList && Op.bytesLess key.toList end_.toList

theorem In_calls (w : World) (key frm end_ : ByteArray) : Calls Try.prog 54 #[.string key, .string frm, .string end_] w fun e w' => e = .returned (.bool (inB key frm end_)) ∧ w = w' := by
  unfold inB
  cases h1 : end_.toList.isEmpty
  · cases h2 : (end_.toList == [0])
    · cases h3 : Op.bytesLess key.toList frm.toList <;>
      · go_enter Try.func54, Try.ntmps54
        go_wp2
        go_ret
        exact ⟨by simp, rfl⟩
    · go_enter Try.func54, Try.ntmps54
      go_wp2
      go_ret
      exact ⟨by simp, rfl⟩
  · go_enter Try.func54, Try.ntmps54
    go_wp2
    go_ret
    exact ⟨by simp, rfl⟩
end Go.Proofs.Ythljnnjpmdgkoaa
