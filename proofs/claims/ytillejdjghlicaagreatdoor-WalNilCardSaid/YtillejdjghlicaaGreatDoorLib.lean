/- Own lemmas on worlds: what a call leaves unchanged (Fr), objects and slices in memory (Has, Sl), maps keyed by ints (Mp). No condition. -/
import Derived.WalkKit
import Derived.WalkLawsBesides
import Derived.WalkSpells
import Derived.Lib.Hide
import Derived.Deep.LoopGhost
import Derived.BigQuiet
import Derived.Deep.QuietTactic
namespace Go.Proofs.YtillejdjghlicaaGreatDoor
open Go Go.RowKit

/-- Behind a call: outside S all old blocks are as they were. -/
structure Fr (S : Nat → Prop) (w w' : World) : Prop where
  os : w'.os = w.os
  tape : w'.tape = w.tape
  output : w'.output = w.output
  size : w.heap.size ≤ w'.heap.size
  block : ∀ k, k < w.heap.size → ¬ S k → w'.heap[k]? = w.heap[k]?

def No : Nat → Prop := fun _ => False

theorem Fr.refl (S : Nat → Prop) (w : World) : Fr S w w := ⟨rfl, rfl, rfl, Nat.le_refl _, fun _ _ _ => rfl⟩
theorem Fr.mono {S T : Nat → Prop} {w w' : World} (h : Fr S w w') (hs : ∀ k, k < w.heap.size → S k → T k) : Fr T w w' :=
  ⟨h.os, h.tape, h.output, h.size, fun k hk ht => h.block k hk fun s => ht (hs k hk s)⟩
theorem Fr.trans {S T : Nat → Prop} {a b c : World} (h : Fr S a b) (k : Fr T b c) (hs : ∀ j, j < a.heap.size → T j → S j) : Fr S a c :=
  ⟨k.os.trans h.os, k.tape.trans h.tape, k.output.trans h.output, Nat.le_trans h.size k.size,
    fun j hj hS => (k.block j (Nat.lt_of_lt_of_le hj h.size) fun t => hS (hs j hj t)).trans (h.block j hj hS)⟩
theorem Fr.trans0 {S : Nat → Prop} {a b c : World} (h : Fr S a b) (k : Fr No b c) : Fr S a c := h.trans k fun _ _ t => t.elim
theorem Fr.alloc {S : Nat → Prop} {a w : World} (h : Fr S a w) (o : Obj) : Fr S a (w.alloc o) :=
  ⟨h.os, h.tape, h.output, Nat.le_trans h.size (by simp), fun k hk hS => (Below.heap_alloc w o k (Nat.lt_of_lt_of_le hk h.size)).trans (h.block k hk hS)⟩
theorem Fr.drew {S : Nat → Prop} {a w : World} (h : Fr S a w) : Fr S a w.drew := ⟨h.os, h.tape, h.output, h.size, h.block⟩
theorem Fr.drewN (S : Nat → Prop) (w : World) (n : Nat) : Fr S w (w.drewN n) := ⟨rfl, rfl, rfl, Nat.le_refl _, fun _ _ _ => rfl⟩
theorem Fr.free0 {w w' : World} (h : Fr No w w') {p : Addr} {v : Value} (hc : w.cell? p = some v) (hf : w.frozen? p = false) : w'.frozen? p = false :=
  (World.frozen?_of_block (h.block p.block (World.block_lt_of_cell? w p hc) id)).trans hf
theorem Fr.setCell {S : Nat → Prop} {a w : World} (h : Fr S a w) {p : Addr} (hp : S p.block ∨ a.heap.size ≤ p.block) (u : Value) : Fr S a (w.setCell p u) :=
  ⟨h.os, h.tape, h.output, by simpa using h.size, fun k hk hS => (Below.heap_setCell w p u k (by rcases hp with hp | hp
                                                                                                 · exact fun e => hS (e ▸ hp)
                                                                                                 · omega)).trans (h.block k hk hS)⟩
theorem Fr.grown {S : Nat → Prop} {a w w' : World} {row : Option Nat} (h : Fr S a w) (hg : w.grownBy w' row) (hr : ∀ k, row = some k → S k ∨ a.heap.size ≤ k) : Fr S a w' :=
  ⟨hg.os.trans h.os, hg.tape.trans h.tape, hg.output.trans h.output, Nat.le_trans h.size hg.size,
    fun k hk hS => (hg.block k (Nat.lt_of_lt_of_le hk h.size) fun e => by rcases hr k e.symm with h1 | h1
                                                                          · exact hS h1
                                                                          · omega).trans (h.block k hk hS)⟩
theorem Fr.below {S : Nat → Prop} {w w' : World} (h : Fr S w w') (B : Nat) (hB : B ≤ w.heap.size) (hs : ∀ k, S k → B ≤ k) : Below B w w' :=
  ⟨h.os, h.tape, h.output, h.size, fun k hk => h.block k (by omega) fun s => by have := hs k s; omega⟩
theorem Fr.below0 {w w' : World} (h : Fr No w w') : Below w.heap.size w w' := h.below _ (Nat.le_refl _) fun _ s => s.elim
theorem Fr.of_below {S : Nat → Prop} {w w' : World} (h : Below w.heap.size w w') : Fr S w w' :=
  ⟨h.os, h.tape, h.output, h.size, fun k hk _ => h.block k hk⟩
theorem Fr.heap {S : Nat → Prop} {w w' : World} (h : Fr S w w') {b : Nat} {o : Obj} (hb : w.heap[b]? = some o) (hn : ¬ S b) : w'.heap[b]? = some o :=
  (h.block b (Array.getElem?_eq_some_iff.1 hb).1 hn).trans hb
theorem Fr.cell {S : Nat → Prop} {w w' : World} (h : Fr S w w') {p : Addr} {v : Value} (hc : w.cell? p = some v) (hn : ¬ S p.block) : w'.cell? p = some v :=
  (World.cell?_of_block (h.block p.block (World.block_lt_of_cell? w p hc) hn)).trans hc
theorem Fr.cell0 {w w' : World} (h : Fr No w w') {p : Addr} {v : Value} (hc : w.cell? p = some v) : w'.cell? p = some v := h.cell hc fun s => s

theorem Fr.free {S : Nat → Prop} {w w' : World} (h : Fr S w w') {p : Addr} {v : Value} (hc : w.cell? p = some v) (hf : w.frozen? p = false) (hn : ¬ S p.block) : w'.frozen? p = false :=
  (World.frozen?_of_block (h.block p.block (World.block_lt_of_cell? w p hc) hn)).trans hf

theorem heap_lt {w : World} {b : Nat} {o : Obj} (h : w.heap[b]? = some o) : b < w.heap.size := (Array.getElem?_eq_some_iff.1 h).1

theorem heap_setCell_same {w : World} {b : Nat} {c : Array Value} {e : TypeId} {fr : Nat × Nat} (h : w.heap[b]? = some (.cells c e fr)) (i : Nat) (v : Value) :
    (w.setCell ⟨b, i, none⟩ v).heap[b]? = some (.cells (c.setIfInBounds i v) e fr) := by
  unfold World.setCell
  simp only
  rw [Array.getElem?_modify, if_pos rfl, h]
  rfl
theorem alloc_old {w : World} {b : Nat} {x : Obj} (h : w.heap[b]? = some x) (o : Obj) : (w.alloc o).heap[b]? = some x := (Below.heap_alloc w o b (heap_lt h)).trans h
theorem alloc_at (w : World) (o : Obj) (n : Nat) (hn : n = w.heap.size) : (w.alloc o).heap[n]? = some o := by subst hn; exact heap_alloc_new w o
/-- A cell of a block. -/
theorem cellAt {w : World} {b : Nat} {cs : Array Value} {e : TypeId} {fr : Nat × Nat} (h : w.heap[b]? = some (.cells cs e fr)) (i : Nat) {v : Value} (hi : cs[i]? = some v) : w.cell? ⟨b, i, none⟩ = some v := by
  unfold World.cell?
  simp [h, hi]
theorem cells4 {w : World} {b : Nat} {v0 v1 v2 v3 : Value} {e : TypeId} {fr : Nat × Nat} (h : w.heap[b]? = some (.cells #[v0, v1, v2, v3] e fr)) : w.cell? ⟨b, 0, none⟩ = some v0 ∧ w.cell? ⟨b, 1, none⟩ = some v1 ∧ w.cell? ⟨b, 2, none⟩ = some v2 ∧ w.cell? ⟨b, 3, none⟩ = some v3 := ⟨cellAt h 0 rfl, cellAt h 1 rfl, cellAt h 2 rfl, cellAt h 3 rfl⟩
theorem cells5 {w : World} {b : Nat} {v0 v1 v2 v3 v4 : Value} {e : TypeId} {fr : Nat × Nat} (h : w.heap[b]? = some (.cells #[v0, v1, v2, v3, v4] e fr)) : w.cell? ⟨b, 0, none⟩ = some v0 ∧ w.cell? ⟨b, 1, none⟩ = some v1 ∧ w.cell? ⟨b, 2, none⟩ = some v2 ∧ w.cell? ⟨b, 3, none⟩ = some v3 ∧ w.cell? ⟨b, 4, none⟩ = some v4 := ⟨cellAt h 0 rfl, cellAt h 1 rfl, cellAt h 2 rfl, cellAt h 3 rfl, cellAt h 4 rfl⟩
theorem cells6 {w : World} {b : Nat} {v0 v1 v2 v3 v4 v5 : Value} {e : TypeId} {fr : Nat × Nat} (h : w.heap[b]? = some (.cells #[v0, v1, v2, v3, v4, v5] e fr)) : w.cell? ⟨b, 0, none⟩ = some v0 ∧ w.cell? ⟨b, 1, none⟩ = some v1 ∧ w.cell? ⟨b, 2, none⟩ = some v2 ∧ w.cell? ⟨b, 3, none⟩ = some v3 ∧ w.cell? ⟨b, 4, none⟩ = some v4 ∧ w.cell? ⟨b, 5, none⟩ = some v5 := ⟨cellAt h 0 rfl, cellAt h 1 rfl, cellAt h 2 rfl, cellAt h 3 rfl, cellAt h 4 rfl, cellAt h 5 rfl⟩
theorem cells7 {w : World} {b : Nat} {v0 v1 v2 v3 v4 v5 v6 : Value} {e : TypeId} {fr : Nat × Nat} (h : w.heap[b]? = some (.cells #[v0, v1, v2, v3, v4, v5, v6] e fr)) : w.cell? ⟨b, 0, none⟩ = some v0 ∧ w.cell? ⟨b, 1, none⟩ = some v1 ∧ w.cell? ⟨b, 2, none⟩ = some v2 ∧ w.cell? ⟨b, 3, none⟩ = some v3 ∧ w.cell? ⟨b, 4, none⟩ = some v4 ∧ w.cell? ⟨b, 5, none⟩ = some v5 ∧ w.cell? ⟨b, 6, none⟩ = some v6 := ⟨cellAt h 0 rfl, cellAt h 1 rfl, cellAt h 2 rfl, cellAt h 3 rfl, cellAt h 4 rfl, cellAt h 5 rfl, cellAt h 6 rfl⟩
theorem cells10 {w : World} {b : Nat} {v0 v1 v2 v3 v4 v5 v6 v7 v8 v9 : Value} {e : TypeId} {fr : Nat × Nat} (h : w.heap[b]? = some (.cells #[v0, v1, v2, v3, v4, v5, v6, v7, v8, v9] e fr)) : w.cell? ⟨b, 0, none⟩ = some v0 ∧ w.cell? ⟨b, 1, none⟩ = some v1 ∧ w.cell? ⟨b, 2, none⟩ = some v2 ∧ w.cell? ⟨b, 3, none⟩ = some v3 ∧ w.cell? ⟨b, 4, none⟩ = some v4 ∧ w.cell? ⟨b, 5, none⟩ = some v5 ∧ w.cell? ⟨b, 6, none⟩ = some v6 ∧ w.cell? ⟨b, 7, none⟩ = some v7 ∧ w.cell? ⟨b, 8, none⟩ = some v8 ∧ w.cell? ⟨b, 9, none⟩ = some v9 := ⟨cellAt h 0 rfl, cellAt h 1 rfl, cellAt h 2 rfl, cellAt h 3 rfl, cellAt h 4 rfl, cellAt h 5 rfl, cellAt h 6 rfl, cellAt h 7 rfl, cellAt h 8 rfl, cellAt h 9 rfl⟩
theorem cells12 {w : World} {b : Nat} {v0 v1 v2 v3 v4 v5 v6 v7 v8 v9 v10 v11 : Value} {e : TypeId} {fr : Nat × Nat} (h : w.heap[b]? = some (.cells #[v0, v1, v2, v3, v4, v5, v6, v7, v8, v9, v10, v11] e fr)) : w.cell? ⟨b, 0, none⟩ = some v0 ∧ w.cell? ⟨b, 1, none⟩ = some v1 ∧ w.cell? ⟨b, 2, none⟩ = some v2 ∧ w.cell? ⟨b, 3, none⟩ = some v3 ∧ w.cell? ⟨b, 4, none⟩ = some v4 ∧ w.cell? ⟨b, 5, none⟩ = some v5 ∧ w.cell? ⟨b, 6, none⟩ = some v6 ∧ w.cell? ⟨b, 7, none⟩ = some v7 ∧ w.cell? ⟨b, 8, none⟩ = some v8 ∧ w.cell? ⟨b, 9, none⟩ = some v9 ∧ w.cell? ⟨b, 10, none⟩ = some v10 ∧ w.cell? ⟨b, 11, none⟩ = some v11 := ⟨cellAt h 0 rfl, cellAt h 1 rfl, cellAt h 2 rfl, cellAt h 3 rfl, cellAt h 4 rfl, cellAt h 5 rfl, cellAt h 6 rfl, cellAt h 7 rfl, cellAt h 8 rfl, cellAt h 9 rfl, cellAt h 10 rfl, cellAt h 11 rfl⟩
theorem cells13 {w : World} {b : Nat} {v0 v1 v2 v3 v4 v5 v6 v7 v8 v9 v10 v11 v12 : Value} {e : TypeId} {fr : Nat × Nat} (h : w.heap[b]? = some (.cells #[v0, v1, v2, v3, v4, v5, v6, v7, v8, v9, v10, v11, v12] e fr)) : w.cell? ⟨b, 0, none⟩ = some v0 ∧ w.cell? ⟨b, 1, none⟩ = some v1 ∧ w.cell? ⟨b, 2, none⟩ = some v2 ∧ w.cell? ⟨b, 3, none⟩ = some v3 ∧ w.cell? ⟨b, 4, none⟩ = some v4 ∧ w.cell? ⟨b, 5, none⟩ = some v5 ∧ w.cell? ⟨b, 6, none⟩ = some v6 ∧ w.cell? ⟨b, 7, none⟩ = some v7 ∧ w.cell? ⟨b, 8, none⟩ = some v8 ∧ w.cell? ⟨b, 9, none⟩ = some v9 ∧ w.cell? ⟨b, 10, none⟩ = some v10 ∧ w.cell? ⟨b, 11, none⟩ = some v11 ∧ w.cell? ⟨b, 12, none⟩ = some v12 := ⟨cellAt h 0 rfl, cellAt h 1 rfl, cellAt h 2 rfl, cellAt h 3 rfl, cellAt h 4 rfl, cellAt h 5 rfl, cellAt h 6 rfl, cellAt h 7 rfl, cellAt h 8 rfl, cellAt h 9 rfl, cellAt h 10 rfl, cellAt h 11 rfl, cellAt h 12 rfl⟩
/-- An object: a block of just these cells. -/
def Has (w : World) (b : Nat) (cs : List Value) : Prop := ∃ e, w.heap[b]? = some (.cells cs.toArray e (0, 0))
theorem Has.lt {w : World} {b : Nat} {cs : List Value} (h : Has w b cs) : b < w.heap.size := h.elim fun _ => heap_lt
theorem Has.cell {w : World} {b : Nat} {cs : List Value} (h : Has w b cs) (i : Nat) {v : Value} (hi : cs[i]? = some v) : w.cell? ⟨b, i, none⟩ = some v := by
  obtain ⟨e, h⟩ := h
  simp [World.cell?, h, hi]
theorem Has.free {w : World} {b : Nat} {cs : List Value} (h : Has w b cs) (i : Nat) : w.frozen? ⟨b, i, none⟩ = false := by
  obtain ⟨e, h⟩ := h
  simp [World.frozen?, h]
theorem Has.set {w : World} {b : Nat} {cs : List Value} (h : Has w b cs) (i : Nat) (v : Value) : Has (w.setCell ⟨b, i, none⟩ v) b (cs.set i v) := by
  obtain ⟨e, h⟩ := h
  exact ⟨e, by rw [heap_setCell_same h]; simp⟩
theorem Has.other {w : World} {b : Nat} {cs : List Value} (h : Has w b cs) (p : Addr) (v : Value) (hp : b ≠ p.block) : Has (w.setCell p v) b cs := by
  obtain ⟨e, h⟩ := h
  exact ⟨e, (Below.heap_setCell w p v b hp).trans h⟩
theorem Has.alloc {w : World} {b : Nat} {cs : List Value} (h : Has w b cs) (o : Obj) : Has (w.alloc o) b cs := by
  have hl := h.lt
  obtain ⟨e, h⟩ := h
  exact ⟨e, (Below.heap_alloc w o b hl).trans h⟩
theorem Has.drew {w : World} {b : Nat} {cs : List Value} (h : Has w b cs) : Has w.drew b cs := h
theorem Has.new (w : World) (cs : List Value) (e : TypeId) : Has (w.alloc (.cells cs.toArray e)) w.heap.size cs := ⟨e, heap_alloc_new w _⟩
theorem Has.fr {w w' : World} {b : Nat} {cs : List Value} {S : Nat → Prop} (h : Has w b cs) (hf : Fr S w w') (hn : ¬ S b) : Has w' b cs := by
  obtain ⟨e, h⟩ := h
  exact ⟨e, hf.heap h hn⟩

/-- A slice value of n elements (of type e, sz cells each) reads as the cells xs; nobody freezes its row. -/
def Sl (w : World) (e : TypeId) (sz : Nat) (v : Value) (n : Nat) (xs : List Value) : Prop :=
  xs.length = n * sz ∧
  ((v = .slice none 0 0 ∧ n = 0) ∨
   ∃ g o cap cur, v = .slice (some ⟨g, o, none⟩) n cap ∧ w.heap[g]? = some (.cells cur e (0, 0)) ∧ n ≤ cap ∧ cap ≤ maxLen ∧ o + cap * sz ≤ cur.size ∧ (cur.toList.drop o).take (n * sz) = xs)

theorem Sl.nil (w : World) (e : TypeId) (sz : Nat) : Sl w e sz (.slice none 0 0) 0 [] := ⟨by simp, .inl ⟨rfl, rfl⟩⟩
theorem Sl.lt {w : World} {e : TypeId} {sz : Nat} {v : Value} {n : Nat} {xs : List Value} (h : Sl w e sz v n xs) : ∀ k, v.ownBlock = some k → k < w.heap.size := by
  intro k hk
  rcases h.2 with ⟨rfl, _⟩ | ⟨g, o, cap, cur, rfl, hg, _⟩
  · simp [Value.ownBlock] at hk
  · simp [Value.ownBlock] at hk
    subst hk
    exact heap_lt hg
theorem Sl.keep {w w' : World} {e : TypeId} {sz : Nat} {v : Value} {n : Nat} {xs : List Value} (h : Sl w e sz v n xs) (hk : ∀ k, v.ownBlock = some k → w'.heap[k]? = w.heap[k]?) : Sl w' e sz v n xs := by
  refine ⟨h.1, ?_⟩
  rcases h.2 with hn | ⟨g, o, cap, cur, rfl, hg, rest⟩
  · exact .inl hn
  · exact .inr ⟨g, o, cap, cur, rfl, (hk g rfl).trans hg, rest⟩
theorem Sl.fr {w w' : World} {e : TypeId} {sz : Nat} {v : Value} {n : Nat} {xs : List Value} {S : Nat → Prop} (h : Sl w e sz v n xs) (hf : Fr S w w') (hn : ∀ k, v.ownBlock = some k → ¬ S k) : Sl w' e sz v n xs :=
  h.keep fun k hk => hf.block k (h.lt k hk) (hn k hk)
theorem Sl.fr0 {w w' : World} {e : TypeId} {sz : Nat} {v : Value} {n : Nat} {xs : List Value} (h : Sl w e sz v n xs) (hf : Fr No w w') : Sl w' e sz v n xs := h.fr hf fun _ _ s => s
theorem Sl.alloc {w : World} {e : TypeId} {sz : Nat} {v : Value} {n : Nat} {xs : List Value} (h : Sl w e sz v n xs) (o : Obj) : Sl (w.alloc o) e sz v n xs :=
  h.keep fun k hk => Below.heap_alloc w o k (h.lt k hk)
theorem Sl.drew {w : World} {e : TypeId} {sz : Nat} {v : Value} {n : Nat} {xs : List Value} (h : Sl w e sz v n xs) : Sl w.drew e sz v n xs := h
theorem Sl.other {w : World} {e : TypeId} {sz : Nat} {v : Value} {n : Nat} {xs : List Value} (h : Sl w e sz v n xs) (p : Addr) (u : Value) (hp : v.ownBlock ≠ some p.block) : Sl (w.setCell p u) e sz v n xs :=
  h.keep fun k hk => Below.heap_setCell w p u k fun e => hp (e ▸ hk)
/-- The value's shape. -/
theorem Sl.shape {w : World} {e : TypeId} {sz : Nat} {v : Value} {n : Nat} {xs : List Value} (h : Sl w e sz v n xs) : ∃ a cap, v = .slice a n cap ∧ n ≤ cap ∧ cap ≤ maxLen ∧ (0 < n → ∃ g o, a = some ⟨g, o, none⟩) := by
  rcases h.2 with ⟨rfl, rfl⟩ | ⟨g, o, cap, cur, rfl, _, h1, h2, _⟩
  · exact ⟨none, 0, rfl, by omega, by omega, by omega⟩
  · exact ⟨_, cap, rfl, h1, h2, fun _ => ⟨g, o, rfl⟩⟩
theorem Sl.cell {w : World} {e : TypeId} {sz : Nat} {g o n cap : Nat} {xs : List Value} (h : Sl w e sz (.slice (some ⟨g, o, none⟩) n cap) n xs) (j : Nat) {u : Value} (hu : xs[j]? = some u) : w.cell? ⟨g, o + j, none⟩ = some u := by
  rcases h.2 with ⟨h0, _⟩ | ⟨g', o', cap', cur, hv, hg, h1, h2, h3, h4⟩
  · cases h0
  · cases hv
    rw [← h4, List.getElem?_take] at hu
    split at hu
    · rw [List.getElem?_drop] at hu
      simp [World.cell?, hg]
      simpa using hu
    · cases hu
theorem Sl.free {w : World} {e : TypeId} {sz : Nat} {g o n cap : Nat} {xs : List Value} (h : Sl w e sz (.slice (some ⟨g, o, none⟩) n cap) n xs) (j : Nat) : w.frozen? ⟨g, j, none⟩ = false := by
  rcases h.2 with ⟨h0, _⟩ | ⟨g', o', cap', cur, hv, hg, _⟩
  · cases h0
  · cases hv
    simp [World.frozen?, hg]
/-- One cell stored anew. -/
theorem Sl.set {w : World} {e : TypeId} {sz : Nat} {g o n cap : Nat} {xs : List Value} (h : Sl w e sz (.slice (some ⟨g, o, none⟩) n cap) n xs) (j : Nat) (hj : j < n * sz) (u : Value) :
    Sl (w.setCell ⟨g, o + j, none⟩ u) e sz (.slice (some ⟨g, o, none⟩) n cap) n (xs.set j u) := by
  refine ⟨by simpa using h.1, ?_⟩
  rcases h.2 with ⟨h0, _⟩ | ⟨g', o', cap', cur, hv, hg, h1, h2, h3, h4⟩
  · cases h0
  · cases hv
    have hmul : n * sz ≤ cap * sz := Nat.mul_le_mul_right _ h1
    refine .inr ⟨g, o, cap, cur.setIfInBounds (o + j) u, rfl, heap_setCell_same hg _ _, h1, h2, by simpa using h3, ?_⟩
    subst h4
    apply List.ext_getElem?
    intro i
    rw [List.getElem?_take, List.getElem?_set, List.getElem?_take]
    by_cases hi : i < n * sz
    · rw [if_pos hi, if_pos hi, List.getElem?_drop, List.getElem?_drop, Array.toList_setIfInBounds, List.getElem?_set]
      by_cases hij : j = i
      · subst hij
        rw [if_pos rfl, if_pos rfl, if_pos (by simp; omega), if_pos (by simp; omega)]
      · rw [if_neg (by omega), if_neg hij]
    · rw [if_neg hi, if_neg hi, if_neg (by omega)]
/-- The front of a slice. -/
theorem Sl.take {w : World} {e : TypeId} {sz : Nat} {a : Option Addr} {n cap : Nat} {xs : List Value} (h : Sl w e sz (.slice a n cap) n xs) (k : Nat) (hk : k ≤ n) : Sl w e sz (.slice a k cap) k (xs.take (k * sz)) := by
  have hm : k * sz ≤ n * sz := Nat.mul_le_mul_right _ hk
  refine ⟨by rw [List.length_take, h.1]; omega, ?_⟩
  rcases h.2 with ⟨h0, _⟩ | ⟨g', o', cap', cur, hv, hg, h1, h2, h3, h4⟩
  · cases h0
    obtain rfl : k = 0 := by omega
    exact .inl ⟨rfl, rfl⟩
  · cases hv
    refine .inr ⟨g', o', cap, cur, rfl, hg, by omega, h2, h3, ?_⟩
    rw [← h4, List.take_take]
    congr 1
    omega

/-- append of one element more: there is room, or a new row is made. -/
theorem run_append_sl {P : Program} (w : World) (t ty e : TypeId) (i : TypeInfo) (z : Value) (ht : P.underlying t = some (.slice e)) (hi : P.info? e = some i) (hz : i.zero = some z) (hzs : z.cells.size = i.size) (_hsz : 0 < i.size)
    (v : Value) (n : Nat) (xs : List Value) (hown : Sl w e i.size v n xs)
    (a : Addr) (m c : Nat) (news : List Value) (hl : news.length = m * i.size) (hm : 0 < m) (hnews : ∀ j u, news[j]? = some u → w.cell? (a.add j) = some u) (h1 : ∀ u ∈ news, u.oneCell' = true)
    (h63 : n + m ≤ maxLen) (hbytes : (n + m) * i.bytes ≤ 140737488355328) :
    ∃ g o cap w', (Builtin.append_ #[t, t] ty #[v, .slice (some a) m c]).run P w = .ok (.slice (some ⟨g, o, none⟩) (n + m) cap) w' ∧ Sl w' e i.size (.slice (some ⟨g, o, none⟩) (n + m) cap) (n + m) (xs ++ news) ∧ w.grownBy w' v.ownBlock ∧
      (v.ownBlock = some g ∨ g = w.heap.size) ∧ g < w'.heap.size := by
  have hsmall : n + m ≤ 9223372036854775807 := by simp only [maxLen] at h63; omega
  have hlen : (xs ++ news).length = (n + m) * i.size := by rw [List.length_append, hown.1, hl, Nat.add_mul]
  have grown : ∀ (old : Nat), old < n + m → ∀ (row : Option Nat),
      Sl (w.drew.alloc (.cells (xs.toArray ++ news.toArray ++ Builtin.zeroCells z.cells (grownCap w (n + m) old e - (n + m))) e)) e i.size
        (.slice (some ⟨w.heap.size, 0, none⟩) (n + m) (grownCap w (n + m) old e)) (n + m) (xs ++ news) ∧
      w.grownBy (w.drew.alloc (.cells (xs.toArray ++ news.toArray ++ Builtin.zeroCells z.cells (grownCap w (n + m) old e - (n + m))) e)) row := by
    intro old ho row
    have hge := grownCap_ge w (n + m) old e
    have hcm : grownCap w (n + m) old e ≤ maxLen := grownCap_le_maxLen w (n + m) old e h63
    refine ⟨⟨hlen, .inr ⟨w.heap.size, 0, _, _, rfl, heap_alloc_new w.drew _, hge, hcm, ?_, ?_⟩⟩, ⟨rfl, rfl, rfl, by simp, fun k hk _ => Below.heap_alloc w.drew _ k hk⟩⟩
    · simp only [Array.size_append, List.size_toArray, size_zeroCells, hzs, hown.1, hl, ← Nat.add_mul]
      rw [Nat.zero_add]
      apply Nat.mul_le_mul_right
      omega
    · simp only [Array.toList_append, List.append_assoc, List.drop_zero]
      rw [← List.append_assoc, ← hlen]
      exact List.take_left
  rcases hown.2 with ⟨rfl, rfl⟩ | ⟨g, o, cap, cur, rfl, hg, hnc, hcm, hcs, htake⟩
  · have hx : xs = [] := List.eq_nil_of_length_eq_zero (by simpa using hown.1)
    subst hx
    have hr := run_append_nil (P := P) w t ty e i z ht hi hz a m c news hl hnews (by omega) (by omega) (by have hb := hbytes; simp only [Nat.zero_add] at hb; omega)
    have hgr := grown 0 (by omega) (Value.ownBlock (.slice none 0 0))
    simp only [Nat.zero_add, List.nil_append, Array.empty_append] at hgr ⊢
    exact ⟨_, _, _, _, hr, hgr.1, hgr.2, .inr rfl, by simp⟩
  · by_cases hroom : n + m ≤ cap
    · have hmul : n * i.size + news.length ≤ cap * i.size := by rw [hl, ← Nat.add_mul]; exact Nat.mul_le_mul_right _ hroom
      have hf := run_firstCells_some (P := P) w i.size m a m c news hl hnews
      have hst := run_storeCells_at P g (o + n * i.size) e news 0 cur w hg (by simpa using (by omega : o + n * i.size + news.length ≤ cur.size)) h1
      simp only [Nat.add_zero] at hst
      refine ⟨g, o, cap, w.setRow g (cur.toList.take (o + n * i.size) ++ news ++ cur.toList.drop (o + n * i.size + news.length)).toArray, ?_, ⟨hlen, .inr ⟨g, o, cap, _, rfl, setRow_heap w g cur _ e _ hg, hroom, hcm, ?_, ?_⟩⟩, ⟨rfl, rfl, rfl, by simp, fun k _ hk => setRow_other w g k _ (fun e => hk (by simp [Value.ownBlock, e]))⟩, .inl rfl, by simpa using heap_lt hg⟩
      · have hadd : (⟨g, o, none⟩ : Addr).add (n * i.size) = ⟨g, o + n * i.size, none⟩ := by unfold Addr.add; split <;> simp_all
        simp [Builtin.append_, run_underlying ht, sizeOf, typeInfo, hi, Builtin.lenOf, hroom, hf, hadd, hst]
      · simp only [List.size_toArray, List.length_append, List.length_take, List.length_drop, Array.length_toList]
        omega
      · have e1 : (cur.toList.take (o + n * i.size)).drop o = xs := by rw [← htake, List.drop_take]; congr 1; omega
        have hlt : o ≤ (cur.toList.take (o + n * i.size)).length := by simp only [List.length_take, Array.length_toList]; omega
        show ((cur.toList.take (o + n * i.size) ++ news ++ cur.toList.drop (o + n * i.size + news.length)).drop o).take ((n + m) * i.size) = xs ++ news
        rw [List.append_assoc, List.drop_append_of_le_length hlt, e1, ← hlen, ← List.append_assoc]
        exact List.take_left
    · have holds : ∀ j u, xs[j]? = some u → w.cell? ((⟨g, o, none⟩ : Addr).add j) = some u := fun j u hu => by
        have hadd : (⟨g, o, none⟩ : Addr).add j = ⟨g, o + j, none⟩ := by unfold Addr.add; split <;> simp_all
        rw [hadd]; exact hown.cell j hu
      have hr := run_append_grow (P := P) w t ty e i z ht hi hz ⟨g, o, none⟩ n cap xs hown.1 holds a m c news hl hnews (by omega) (by omega) (growslice_fits (by omega) hbytes)
      have hgr := grown cap (by omega) (Value.ownBlock (.slice (some ⟨g, o, none⟩) n cap))
      exact ⟨_, _, _, _, hr, hgr.1, hgr.2, .inr rfl, by simp⟩

theorem wpList_append_sl {P : Program} {w : World} {ops : Array Oper} {rest : List Oper} {o : Oper} {a : Act} {Q : Exit → Act → World → Prop} (hgd : o.guard = none) (s x : Operand) (t : TypeId)
    (ho : o.op = .call { callee := .builtin .append, args := #[s, x], argTypes := #[t, t] })
    (e : TypeId) (i : TypeInfo) (z : Value) (sz bytes : Nat) (ht : P.underlying t = some (.slice e)) (hi : P.info? e = some i) (hz : i.zero = some z) (hsize : i.size = sz) (hby : i.bytes = bytes) (hzs : z.cells.size = sz) (hsz : 0 < sz)
    (v : Value) (n : Nat) (xs : List Value) (hs : a.eval s = v) (hown : Sl w e sz v n xs)
    (ad : Addr) (m c : Nat) (news : List Value) (hx : a.eval x = .slice (some ad) m c) (hl : news.length = m * sz) (hm : 0 < m) (hnews : ∀ j u, news[j]? = some u → w.cell? (ad.add j) = some u) (h1 : ∀ u ∈ news, u.oneCell' = true)
    (h63 : n + m ≤ maxLen) (hbytes : (n + m) * bytes ≤ 140737488355328)
    (h : ∀ g o' cap w', Sl w' e sz (.slice (some ⟨g, o', none⟩) (n + m) cap) (n + m) (xs ++ news) → w.grownBy w' v.ownBlock → (v.ownBlock = some g ∨ g = w.heap.size) → g < w'.heap.size →
      wpList P ops Q rest (a.put o.dst (.slice (some ⟨g, o', none⟩) (n + m) cap)) w') : wpList P ops Q (o :: rest) a w := by
  subst hsize
  subst hby
  refine wpList_plain hgd fun _ hK => ?_
  obtain ⟨g, o', cap, w', hr, h2, h3, h4, h5⟩ := run_append_sl (P := P) w t o.type e i z ht hi hz hzs hsz v n xs hown ad m c news hl hm hnews h1 h63 hbytes
  unfold Oper.wp execOp
  simp only [ho, resolve, invoke, builtin, Sem.run_bind, Sem.run_pure, Result.andThen_ok, List.map_toArray, List.map_cons, List.map_nil, hs, hx, hr]
  exact hK _ _ (h g o' cap w' h2 h3 h4 h5)

/-- The cells of a block that was laid just now. -/
theorem cells_new (w : World) (cs : List Value) (e : TypeId) (fr : Nat × Nat) : ∀ j u, cs[j]? = some u → (w.alloc (.cells cs.toArray e fr)).cell? ((⟨w.heap.size, 0, none⟩ : Addr).add j) = some u := by
  intro j u hu
  have hadd : (⟨w.heap.size, 0, none⟩ : Addr).add j = ⟨w.heap.size, j, none⟩ := by unfold Addr.add; split <;> simp_all
  have := heap_alloc_new w (.cells cs.toArray e fr)
  rw [hadd]
  unfold World.cell?
  simp only
  rw [this]
  simpa using hu

/-! Lists of records, laid out flat. -/
section
variable {α : Type} {f : α → List Value} {sz : Nat}
theorem flat_length (hf : ∀ x, (f x).length = sz) (L : List α) : (L.flatMap f).length = L.length * sz := by
  induction L with
  | nil => simp
  | cons x L ih => rw [List.flatMap_cons, List.length_append, ih, hf, List.length_cons, Nat.succ_mul]; omega
theorem flat_get (hf : ∀ x, (f x).length = sz) (L : List α) (i j : Nat) (hj : j < sz) : (L.flatMap f)[i * sz + j]? = (L[i]?).bind fun x => (f x)[j]? := by
  induction L generalizing i with
  | nil => simp
  | cons x L ih =>
    rw [List.flatMap_cons]
    cases i with
    | zero => rw [List.getElem?_append_left (by rw [hf]; omega)]; simp
    | succ i =>
      rw [List.getElem?_append_right (by rw [hf, Nat.succ_mul]; omega), hf, show (i + 1) * sz + j - sz = i * sz + j from by rw [Nat.succ_mul]; omega, ih]
      simp
theorem flat_take (hf : ∀ x, (f x).length = sz) (L : List α) (k : Nat) : (L.flatMap f).take (k * sz) = (L.take k).flatMap f := by
  induction L generalizing k with
  | nil => simp
  | cons x L ih =>
    cases k with
    | zero => simp
    | succ k =>
      rw [List.flatMap_cons, List.take_succ_cons, List.flatMap_cons, List.take_append, hf, show (k + 1) * sz - sz = k * sz from by rw [Nat.succ_mul]; omega, ih,
        List.take_of_length_le (by rw [hf, Nat.succ_mul]; omega)]
theorem flat_set (hf : ∀ x, (f x).length = sz) (L : List α) (i j : Nat) (hj : j < sz) (x x' : α) (u : Value) (hx : L[i]? = some x) (hx' : f x' = (f x).set j u) :
    (L.flatMap f).set (i * sz + j) u = (L.set i x').flatMap f := by
  induction L generalizing i with
  | nil => simp at hx
  | cons y L ih =>
    rw [List.flatMap_cons]
    cases i with
    | zero =>
      simp at hx
      subst hx
      rw [List.set_append_left _ _ (by rw [hf]; omega)]
      simp [hx']
    | succ i =>
      simp at hx
      rw [List.set_append_right _ _ (by rw [hf, Nat.succ_mul]; omega), hf, show (i + 1) * sz + j - sz = i * sz + j from by rw [Nat.succ_mul]; omega, ih i hx]
      simp
end

/-- A slice of records. -/
def SlF {α : Type} (w : World) (e sz : Nat) (f : α → List Value) (v : Value) (L : List α) : Prop := Sl w e sz v L.length (L.flatMap f)
section
variable {α : Type} {f : α → List Value} {w : World} {e sz : Nat} {v : Value} {L : List α}
theorem SlF.nil (w : World) (e sz : Nat) (f : α → List Value) : SlF w e sz f (.slice none 0 0) [] := Sl.nil w e sz
theorem SlF.fr {w' : World} {S : Nat → Prop} (h : SlF w e sz f v L) (hf : Fr S w w') (hn : ∀ k, v.ownBlock = some k → ¬ S k) : SlF w' e sz f v L := Sl.fr h hf hn
theorem SlF.fr0 {w' : World} (h : SlF w e sz f v L) (hf : Fr No w w') : SlF w' e sz f v L := Sl.fr0 h hf
theorem SlF.alloc (h : SlF w e sz f v L) (o : Obj) : SlF (w.alloc o) e sz f v L := Sl.alloc h o
theorem SlF.drew (h : SlF w e sz f v L) : SlF w.drew e sz f v L := h
theorem SlF.other (h : SlF w e sz f v L) (p : Addr) (u : Value) (hp : v.ownBlock ≠ some p.block) : SlF (w.setCell p u) e sz f v L := Sl.other h p u hp
theorem SlF.lt (h : SlF w e sz f v L) : ∀ k, v.ownBlock = some k → k < w.heap.size := Sl.lt h
theorem SlF.shape (h : SlF w e sz f v L) : ∃ a cap, v = .slice a L.length cap ∧ L.length ≤ cap ∧ cap ≤ maxLen ∧ (0 < L.length → ∃ g o, a = some ⟨g, o, none⟩) := Sl.shape h
theorem SlF.cell {g o cap : Nat} (hf : ∀ x, (f x).length = sz) (h : SlF w e sz f (.slice (some ⟨g, o, none⟩) L.length cap) L) (i j : Nat) {x : α} {u : Value} (hx : L[i]? = some x) (hu : (f x)[j]? = some u) :
    w.cell? ⟨g, o + i * sz + j, none⟩ = some u := by
  have hj : j < sz := by have := (List.getElem?_eq_some_iff.1 hu).1; rwa [hf] at this
  rw [Nat.add_assoc]
  exact Sl.cell h _ (by rw [flat_get hf L i j hj, hx]; exact hu)
theorem SlF.cell0 {g o cap : Nat} (hf : ∀ x, (f x).length = sz) (h : SlF w e sz f (.slice (some ⟨g, o, none⟩) L.length cap) L) (i : Nat) {x : α} {u : Value} (hx : L[i]? = some x) (hu : (f x)[0]? = some u) :
    w.cell? ⟨g, o + i * sz, none⟩ = some u := h.cell hf i 0 hx hu
theorem SlF.cells2 {g o cap : Nat} {v0 v1 : Value} (hf : ∀ x, (f x).length = 2) (h : SlF w e 2 f (.slice (some ⟨g, o, none⟩) L.length cap) L) (i : Nat) {x : α} (hx : L[i]? = some x) (hv : f x = [v0, v1]) : w.cell? ⟨g, o + i * 2, none⟩ = some v0 ∧ w.cell? ⟨g, o + i * 2 + 1, none⟩ = some v1 := ⟨h.cell0 hf i hx (by rw [hv]; rfl), h.cell hf i 1 hx (by rw [hv]; rfl)⟩
theorem SlF.cells4 {g o cap : Nat} {v0 v1 v2 v3 : Value} (hf : ∀ x, (f x).length = 4) (h : SlF w e 4 f (.slice (some ⟨g, o, none⟩) L.length cap) L) (i : Nat) {x : α} (hx : L[i]? = some x) (hv : f x = [v0, v1, v2, v3]) : w.cell? ⟨g, o + i * 4, none⟩ = some v0 ∧ w.cell? ⟨g, o + i * 4 + 1, none⟩ = some v1 ∧ w.cell? ⟨g, o + i * 4 + 2, none⟩ = some v2 ∧ w.cell? ⟨g, o + i * 4 + 3, none⟩ = some v3 := ⟨h.cell0 hf i hx (by rw [hv]; rfl), h.cell hf i 1 hx (by rw [hv]; rfl), h.cell hf i 2 hx (by rw [hv]; rfl), h.cell hf i 3 hx (by rw [hv]; rfl)⟩
theorem SlF.cells5 {g o cap : Nat} {v0 v1 v2 v3 v4 : Value} (hf : ∀ x, (f x).length = 5) (h : SlF w e 5 f (.slice (some ⟨g, o, none⟩) L.length cap) L) (i : Nat) {x : α} (hx : L[i]? = some x) (hv : f x = [v0, v1, v2, v3, v4]) : w.cell? ⟨g, o + i * 5, none⟩ = some v0 ∧ w.cell? ⟨g, o + i * 5 + 1, none⟩ = some v1 ∧ w.cell? ⟨g, o + i * 5 + 2, none⟩ = some v2 ∧ w.cell? ⟨g, o + i * 5 + 3, none⟩ = some v3 ∧ w.cell? ⟨g, o + i * 5 + 4, none⟩ = some v4 := ⟨h.cell0 hf i hx (by rw [hv]; rfl), h.cell hf i 1 hx (by rw [hv]; rfl), h.cell hf i 2 hx (by rw [hv]; rfl), h.cell hf i 3 hx (by rw [hv]; rfl), h.cell hf i 4 hx (by rw [hv]; rfl)⟩
theorem SlF.cells6 {g o cap : Nat} {v0 v1 v2 v3 v4 v5 : Value} (hf : ∀ x, (f x).length = 6) (h : SlF w e 6 f (.slice (some ⟨g, o, none⟩) L.length cap) L) (i : Nat) {x : α} (hx : L[i]? = some x) (hv : f x = [v0, v1, v2, v3, v4, v5]) : w.cell? ⟨g, o + i * 6, none⟩ = some v0 ∧ w.cell? ⟨g, o + i * 6 + 1, none⟩ = some v1 ∧ w.cell? ⟨g, o + i * 6 + 2, none⟩ = some v2 ∧ w.cell? ⟨g, o + i * 6 + 3, none⟩ = some v3 ∧ w.cell? ⟨g, o + i * 6 + 4, none⟩ = some v4 ∧ w.cell? ⟨g, o + i * 6 + 5, none⟩ = some v5 := ⟨h.cell0 hf i hx (by rw [hv]; rfl), h.cell hf i 1 hx (by rw [hv]; rfl), h.cell hf i 2 hx (by rw [hv]; rfl), h.cell hf i 3 hx (by rw [hv]; rfl), h.cell hf i 4 hx (by rw [hv]; rfl), h.cell hf i 5 hx (by rw [hv]; rfl)⟩
theorem SlF.cells7 {g o cap : Nat} {v0 v1 v2 v3 v4 v5 v6 : Value} (hf : ∀ x, (f x).length = 7) (h : SlF w e 7 f (.slice (some ⟨g, o, none⟩) L.length cap) L) (i : Nat) {x : α} (hx : L[i]? = some x) (hv : f x = [v0, v1, v2, v3, v4, v5, v6]) : w.cell? ⟨g, o + i * 7, none⟩ = some v0 ∧ w.cell? ⟨g, o + i * 7 + 1, none⟩ = some v1 ∧ w.cell? ⟨g, o + i * 7 + 2, none⟩ = some v2 ∧ w.cell? ⟨g, o + i * 7 + 3, none⟩ = some v3 ∧ w.cell? ⟨g, o + i * 7 + 4, none⟩ = some v4 ∧ w.cell? ⟨g, o + i * 7 + 5, none⟩ = some v5 ∧ w.cell? ⟨g, o + i * 7 + 6, none⟩ = some v6 := ⟨h.cell0 hf i hx (by rw [hv]; rfl), h.cell hf i 1 hx (by rw [hv]; rfl), h.cell hf i 2 hx (by rw [hv]; rfl), h.cell hf i 3 hx (by rw [hv]; rfl), h.cell hf i 4 hx (by rw [hv]; rfl), h.cell hf i 5 hx (by rw [hv]; rfl), h.cell hf i 6 hx (by rw [hv]; rfl)⟩
theorem SlF.cells10 {g o cap : Nat} {v0 v1 v2 v3 v4 v5 v6 v7 v8 v9 : Value} (hf : ∀ x, (f x).length = 10) (h : SlF w e 10 f (.slice (some ⟨g, o, none⟩) L.length cap) L) (i : Nat) {x : α} (hx : L[i]? = some x) (hv : f x = [v0, v1, v2, v3, v4, v5, v6, v7, v8, v9]) : w.cell? ⟨g, o + i * 10, none⟩ = some v0 ∧ w.cell? ⟨g, o + i * 10 + 1, none⟩ = some v1 ∧ w.cell? ⟨g, o + i * 10 + 2, none⟩ = some v2 ∧ w.cell? ⟨g, o + i * 10 + 3, none⟩ = some v3 ∧ w.cell? ⟨g, o + i * 10 + 4, none⟩ = some v4 ∧ w.cell? ⟨g, o + i * 10 + 5, none⟩ = some v5 ∧ w.cell? ⟨g, o + i * 10 + 6, none⟩ = some v6 ∧ w.cell? ⟨g, o + i * 10 + 7, none⟩ = some v7 ∧ w.cell? ⟨g, o + i * 10 + 8, none⟩ = some v8 ∧ w.cell? ⟨g, o + i * 10 + 9, none⟩ = some v9 := ⟨h.cell0 hf i hx (by rw [hv]; rfl), h.cell hf i 1 hx (by rw [hv]; rfl), h.cell hf i 2 hx (by rw [hv]; rfl), h.cell hf i 3 hx (by rw [hv]; rfl), h.cell hf i 4 hx (by rw [hv]; rfl), h.cell hf i 5 hx (by rw [hv]; rfl), h.cell hf i 6 hx (by rw [hv]; rfl), h.cell hf i 7 hx (by rw [hv]; rfl), h.cell hf i 8 hx (by rw [hv]; rfl), h.cell hf i 9 hx (by rw [hv]; rfl)⟩
theorem SlF.cells12 {g o cap : Nat} {v0 v1 v2 v3 v4 v5 v6 v7 v8 v9 v10 v11 : Value} (hf : ∀ x, (f x).length = 12) (h : SlF w e 12 f (.slice (some ⟨g, o, none⟩) L.length cap) L) (i : Nat) {x : α} (hx : L[i]? = some x) (hv : f x = [v0, v1, v2, v3, v4, v5, v6, v7, v8, v9, v10, v11]) : w.cell? ⟨g, o + i * 12, none⟩ = some v0 ∧ w.cell? ⟨g, o + i * 12 + 1, none⟩ = some v1 ∧ w.cell? ⟨g, o + i * 12 + 2, none⟩ = some v2 ∧ w.cell? ⟨g, o + i * 12 + 3, none⟩ = some v3 ∧ w.cell? ⟨g, o + i * 12 + 4, none⟩ = some v4 ∧ w.cell? ⟨g, o + i * 12 + 5, none⟩ = some v5 ∧ w.cell? ⟨g, o + i * 12 + 6, none⟩ = some v6 ∧ w.cell? ⟨g, o + i * 12 + 7, none⟩ = some v7 ∧ w.cell? ⟨g, o + i * 12 + 8, none⟩ = some v8 ∧ w.cell? ⟨g, o + i * 12 + 9, none⟩ = some v9 ∧ w.cell? ⟨g, o + i * 12 + 10, none⟩ = some v10 ∧ w.cell? ⟨g, o + i * 12 + 11, none⟩ = some v11 := ⟨h.cell0 hf i hx (by rw [hv]; rfl), h.cell hf i 1 hx (by rw [hv]; rfl), h.cell hf i 2 hx (by rw [hv]; rfl), h.cell hf i 3 hx (by rw [hv]; rfl), h.cell hf i 4 hx (by rw [hv]; rfl), h.cell hf i 5 hx (by rw [hv]; rfl), h.cell hf i 6 hx (by rw [hv]; rfl), h.cell hf i 7 hx (by rw [hv]; rfl), h.cell hf i 8 hx (by rw [hv]; rfl), h.cell hf i 9 hx (by rw [hv]; rfl), h.cell hf i 10 hx (by rw [hv]; rfl), h.cell hf i 11 hx (by rw [hv]; rfl)⟩
theorem SlF.cells13 {g o cap : Nat} {v0 v1 v2 v3 v4 v5 v6 v7 v8 v9 v10 v11 v12 : Value} (hf : ∀ x, (f x).length = 13) (h : SlF w e 13 f (.slice (some ⟨g, o, none⟩) L.length cap) L) (i : Nat) {x : α} (hx : L[i]? = some x) (hv : f x = [v0, v1, v2, v3, v4, v5, v6, v7, v8, v9, v10, v11, v12]) : w.cell? ⟨g, o + i * 13, none⟩ = some v0 ∧ w.cell? ⟨g, o + i * 13 + 1, none⟩ = some v1 ∧ w.cell? ⟨g, o + i * 13 + 2, none⟩ = some v2 ∧ w.cell? ⟨g, o + i * 13 + 3, none⟩ = some v3 ∧ w.cell? ⟨g, o + i * 13 + 4, none⟩ = some v4 ∧ w.cell? ⟨g, o + i * 13 + 5, none⟩ = some v5 ∧ w.cell? ⟨g, o + i * 13 + 6, none⟩ = some v6 ∧ w.cell? ⟨g, o + i * 13 + 7, none⟩ = some v7 ∧ w.cell? ⟨g, o + i * 13 + 8, none⟩ = some v8 ∧ w.cell? ⟨g, o + i * 13 + 9, none⟩ = some v9 ∧ w.cell? ⟨g, o + i * 13 + 10, none⟩ = some v10 ∧ w.cell? ⟨g, o + i * 13 + 11, none⟩ = some v11 ∧ w.cell? ⟨g, o + i * 13 + 12, none⟩ = some v12 := ⟨h.cell0 hf i hx (by rw [hv]; rfl), h.cell hf i 1 hx (by rw [hv]; rfl), h.cell hf i 2 hx (by rw [hv]; rfl), h.cell hf i 3 hx (by rw [hv]; rfl), h.cell hf i 4 hx (by rw [hv]; rfl), h.cell hf i 5 hx (by rw [hv]; rfl), h.cell hf i 6 hx (by rw [hv]; rfl), h.cell hf i 7 hx (by rw [hv]; rfl), h.cell hf i 8 hx (by rw [hv]; rfl), h.cell hf i 9 hx (by rw [hv]; rfl), h.cell hf i 10 hx (by rw [hv]; rfl), h.cell hf i 11 hx (by rw [hv]; rfl), h.cell hf i 12 hx (by rw [hv]; rfl)⟩
theorem SlF.cell1 {g o cap : Nat} (hf : ∀ x, (f x).length = 1) (h : SlF w e 1 f (.slice (some ⟨g, o, none⟩) L.length cap) L) (i : Nat) {x : α} {u : Value} (hx : L[i]? = some x) (hu : (f x)[0]? = some u) :
    w.cell? ⟨g, o + i, none⟩ = some u := by
  have := h.cell0 hf i hx hu
  rwa [Nat.mul_one] at this
theorem SlF.free {g o cap : Nat} (h : SlF w e sz f (.slice (some ⟨g, o, none⟩) L.length cap) L) (j : Nat) : w.frozen? ⟨g, j, none⟩ = false := Sl.free h j
theorem SlF.set {g o cap : Nat} (hf : ∀ x, (f x).length = sz) (h : SlF w e sz f (.slice (some ⟨g, o, none⟩) L.length cap) L) (i j : Nat) (hj : j < sz) (x x' : α) (u : Value) (hx : L[i]? = some x) (hx' : f x' = (f x).set j u) :
    SlF (w.setCell ⟨g, o + i * sz + j, none⟩ u) e sz f (.slice (some ⟨g, o, none⟩) L.length cap) (L.set i x') := by
  have hi := (List.getElem?_eq_some_iff.1 hx).1
  unfold SlF
  rw [← flat_set hf L i j hj x x' u hx hx', List.length_set, Nat.add_assoc]
  refine Sl.set h _ ?_ u
  have : (i + 1) * sz ≤ L.length * sz := Nat.mul_le_mul_right _ hi
  rw [Nat.succ_mul] at this
  omega
theorem SlF.take {a : Option Addr} {cap : Nat} (hf : ∀ x, (f x).length = sz) (h : SlF w e sz f (.slice a L.length cap) L) (k : Nat) (hk : k ≤ L.length) : SlF w e sz f (.slice a k cap) (L.take k) := by
  have := Sl.take h k hk
  rw [flat_take hf] at this
  unfold SlF
  rwa [List.length_take, Nat.min_eq_left hk]
end

theorem wpList_append_f {α : Type} {f : α → List Value} {P : Program} {w : World} {ops : Array Oper} {rest : List Oper} {o : Oper} {a : Act} {Q : Exit → Act → World → Prop} (hgd : o.guard = none) (s x : Operand) (t : TypeId)
    (ho : o.op = .call { callee := .builtin .append, args := #[s, x], argTypes := #[t, t] })
    (e : TypeId) (i : TypeInfo) (z : Value) (sz bytes : Nat) (ht : P.underlying t = some (.slice e)) (hi : P.info? e = some i) (hz : i.zero = some z) (hsize : i.size = sz) (hby : i.bytes = bytes) (hzs : z.cells.size = sz) (hsz : 0 < sz)
    (v : Value) (L : List α) (hs : a.eval s = v) (hown : SlF w e sz f v L)
    (b c : Nat) (y : α) (hx : a.eval x = .slice (some ⟨b, 0, none⟩) 1 c) (hnews : ∀ j u, (f y)[j]? = some u → w.cell? ((⟨b, 0, none⟩ : Addr).add j) = some u) (hl : (f y).length = sz) (h1 : ∀ u ∈ f y, u.oneCell' = true)
    (h63 : L.length + 1 ≤ maxLen) (hbytes : (L.length + 1) * bytes ≤ 140737488355328)
    (h : ∀ g o' cap w', SlF w' e sz f (.slice (some ⟨g, o', none⟩) (L.length + 1) cap) (L ++ [y]) → w.grownBy w' v.ownBlock → (v.ownBlock = some g ∨ g = w.heap.size) → g < w'.heap.size →
      wpList P ops Q rest (a.put o.dst (.slice (some ⟨g, o', none⟩) (L.length + 1) cap)) w') : wpList P ops Q (o :: rest) a w := by
  refine wpList_append_sl hgd s x t ho e i z sz bytes ht hi hz hsize hby hzs hsz v L.length (L.flatMap f) hs hown ⟨b, 0, none⟩ 1 c (f y) hx (by omega) (by omega) hnews h1 h63 hbytes ?_
  intro g o' cap w' h2 h3 h4 h5
  refine h g o' cap w' ?_ h3 h4 h5
  unfold SlF
  simpa using h2

def ints (l : List Int) : List Value := l.map (Value.int .i64)
def int1 (n : Int) : List Value := [.int .i64 n]
theorem int1_length (n : Int) : (int1 n).length = 1 := rfl

end Go.Proofs.YtillejdjghlicaaGreatDoor
