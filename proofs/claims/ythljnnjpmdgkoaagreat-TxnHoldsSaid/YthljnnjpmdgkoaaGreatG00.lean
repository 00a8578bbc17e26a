/- Lemmas for the claim. Conditions stand in each. -/
import Derived.WalkKit
import Derived.WalkLawsBesides
import Derived.WalkSpells
import Derived.Lib.Hide
import Derived.Deep.LoopGhost
import Derived.BigQuiet
import Derived.Deep.QuietTactic
import Derived.Maps.OwnOps
import Derived.Maps.OwnSet
namespace Go.Proofs.YthljnnjpmdgkoaaGreat
open Go Go.RowKit
theorem H_ {p : Prop} (h : p) : Hid p := Lib.hid h
structure Fr (S : Nat → Prop) (w w' : World) : Prop where
 os : w'.os = w.os
 tape : w'.tape = w.tape
 output : w'.output = w.output
 size : w.heap.size ≤ w'.heap.size
 block : ∀ k, k < w.heap.size → ¬ S k → w'.heap[k]? = w.heap[k]?
def No : Nat → Prop := fun _ => False
theorem Fr.refl (S : Nat → Prop) (w : World) : Fr S w w := ⟨rfl, rfl, rfl, Nat.le_refl _, fun _ _ _ => rfl⟩
theorem Fr.mono {S T : Nat → Prop} {w w' : World} (h : Fr S w w') (hs : ∀ k, k < w.heap.size → S k → T k) : Fr T w w' :=
 ⟨h.os, h.tape, h.output, h.size, fun k hk ht => h.block k hk fun s => ht (hs k hk s)⟩
theorem Fr.trans {S T : Nat → Prop} {a b c : World} (h : Fr S a b) (k : Fr T b c) (hs : ∀ j, j < a.heap.size → T j → S j) : Fr S a c :=
 ⟨k.os.trans h.os, k.tape.trans h.tape, k.output.trans h.output, Nat.le_trans h.size k.size,
   fun j hj hS => (k.block j (Nat.lt_of_lt_of_le hj h.size) fun t => hS (hs j hj t)).trans (h.block j hj hS)⟩
theorem Fr.trans0 {S : Nat → Prop} {a b c : World} (h : Fr S a b) (k : Fr No b c) : Fr S a c := h.trans k fun _ _ t => t.elim
theorem Fr.alloc {S : Nat → Prop} {a w : World} (h : Fr S a w) (o : Obj) : Fr S a (w.alloc o) :=
 ⟨h.os, h.tape, h.output, Nat.le_trans h.size (by simp), fun k hk hS => (Below.heap_alloc w o k (Nat.lt_of_lt_of_le hk h.size)).trans (h.block k hk hS)⟩
theorem Fr.drew {S : Nat → Prop} {a w : World} (h : Fr S a w) : Fr S a w.drew := ⟨h.os, h.tape, h.output, h.size, h.block⟩
theorem Fr.drewN (S : Nat → Prop) (w : World) (n : Nat) : Fr S w (w.drewN n) := ⟨rfl, rfl, rfl, Nat.le_refl _, fun _ _ _ => rfl⟩
theorem Fr.free0 {w w' : World} (h : Fr No w w') {p : Addr} {v : Value} (hc : w.cell? p = some v) (hf : w.frozen? p = false) : w'.frozen? p = false :=
 (World.frozen?_of_block (h.block p.block (World.block_lt_of_cell? w p hc) id)).trans hf
theorem Fr.setCell {S : Nat → Prop} {a w : World} (h : Fr S a w) {p : Addr} (hp : S p.block ∨ a.heap.size ≤ p.block) (u : Value) : Fr S a (w.setCell p u) :=
 ⟨h.os, h.tape, h.output, by simpa using h.size, fun k hk hS => (Below.heap_setCell w p u k (by rcases hp with hp | hp
                                                                                                · exact fun e => hS (e ▸ hp)
                                                                                                omega)).trans (h.block k hk hS)⟩
theorem Fr.grown {S : Nat → Prop} {a w w' : World} {row : Option Nat} (h : Fr S a w) (hg : w.grownBy w' row) (hr : ∀ k, row = some k → S k ∨ a.heap.size ≤ k) : Fr S a w' :=
 ⟨hg.os.trans h.os, hg.tape.trans h.tape, hg.output.trans h.output, Nat.le_trans h.size hg.size,
   fun k hk hS => (hg.block k (Nat.lt_of_lt_of_le hk h.size) fun e => by rcases hr k e.symm with h1 | h1
                                                                         · exact hS h1
                                                                         omega).trans (h.block k hk hS)⟩
theorem Fr.below {S : Nat → Prop} {w w' : World} (h : Fr S w w') (B : Nat) (hB : B ≤ w.heap.size) (hs : ∀ k, S k → B ≤ k) : Below B w w' :=
 ⟨h.os, h.tape, h.output, h.size, fun k hk => h.block k (by omega) fun s => by have := hs k s; omega⟩
theorem Fr.below0 {w w' : World} (h : Fr No w w') : Below w.heap.size w w' := h.below _ (Nat.le_refl _) fun _ s => s.elim
theorem Fr.of_below {S : Nat → Prop} {w w' : World} (h : Below w.heap.size w w') : Fr S w w' :=
 ⟨h.os, h.tape, h.output, h.size, fun k hk _ => h.block k hk⟩
theorem Fr.heap {S : Nat → Prop} {w w' : World} (h : Fr S w w') {b : Nat} {o : Obj} (hb : w.heap[b]? = some o) (hn : ¬ S b) : w'.heap[b]? = some o :=
 (h.block b (Array.getElem?_eq_some_iff.1 hb).1 hn).trans hb
theorem Fr.cell {S : Nat → Prop} {w w' : World} (h : Fr S w w') {p : Addr} {v : Value} (hc : w.cell? p = some v) (hn : ¬ S p.block) : w'.cell? p = some v :=
 (World.cell?_of_block (h.block p.block (World.block_lt_of_cell? w p hc) hn)).trans hc
theorem Fr.cell0 {w w' : World} (h : Fr No w w') {p : Addr} {v : Value} (hc : w.cell? p = some v) : w'.cell? p = some v := h.cell hc fun s => s
theorem Fr.free {S : Nat → Prop} {w w' : World} (h : Fr S w w') {p : Addr} {v : Value} (hc : w.cell? p = some v) (hf : w.frozen? p = false) (hn : ¬ S p.block) : w'.frozen? p = false :=
 (World.frozen?_of_block (h.block p.block (World.block_lt_of_cell? w p hc) hn)).trans hf
theorem zaa {w : World} {b : Nat} {o : Obj} (h : w.heap[b]? = some o) : b < w.heap.size := (Array.getElem?_eq_some_iff.1 h).1
theorem zac {w : World} {b : Nat} {c : Array Value} {e : TypeId} {fr : Nat × Nat} (h : w.heap[b]? = some (.cells c e fr)) (i : Nat) (v : Value) :
 (w.setCell ⟨b, i, none⟩ v).heap[b]? = some (.cells (c.setIfInBounds i v) e fr) := by
 unfold World.setCell; simp only; rw [Array.getElem?_modify, if_pos rfl, h]
 rfl
theorem zal {w : World} {b : Nat} {x : Obj} (h : w.heap[b]? = some x) (o : Obj) : (w.alloc o).heap[b]? = some x := (Below.heap_alloc w o b (zaa h)).trans h
theorem zad (w : World) (o : Obj) (n : Nat) (hn : n = w.heap.size) : (w.alloc o).heap[n]? = some o := by subst hn; exact heap_alloc_new w o
theorem cellAt {w : World} {b : Nat} {cs : Array Value} {e : TypeId} {fr : Nat × Nat} (h : w.heap[b]? = some (.cells cs e fr)) (i : Nat) {v : Value} (hi : cs[i]? = some v) : w.cell? ⟨b, i, none⟩ = some v := by
 unfold World.cell?; simp [h, hi]
theorem cells4 {w : World} {b : Nat} {v0 v1 v2 v3 : Value} {e : TypeId} {fr : Nat × Nat} (h : w.heap[b]? = some (.cells #[v0, v1, v2, v3] e fr)) : w.cell? ⟨b, 0, none⟩ = some v0 ∧ w.cell? ⟨b, 1, none⟩ = some v1 ∧ w.cell? ⟨b, 2, none⟩ = some v2 ∧ w.cell? ⟨b, 3, none⟩ = some v3 := ⟨cellAt h 0 rfl, cellAt h 1 rfl, cellAt h 2 rfl, cellAt h 3 rfl⟩
theorem cells6 {w : World} {b : Nat} {v0 v1 v2 v3 v4 v5 : Value} {e : TypeId} {fr : Nat × Nat} (h : w.heap[b]? = some (.cells #[v0, v1, v2, v3, v4, v5] e fr)) : w.cell? ⟨b, 0, none⟩ = some v0 ∧ w.cell? ⟨b, 1, none⟩ = some v1 ∧ w.cell? ⟨b, 2, none⟩ = some v2 ∧ w.cell? ⟨b, 3, none⟩ = some v3 ∧ w.cell? ⟨b, 4, none⟩ = some v4 ∧ w.cell? ⟨b, 5, none⟩ = some v5 := ⟨cellAt h 0 rfl, cellAt h 1 rfl, cellAt h 2 rfl, cellAt h 3 rfl, cellAt h 4 rfl, cellAt h 5 rfl⟩
theorem cells13 {w : World} {b : Nat} {v0 v1 v2 v3 v4 v5 v6 v7 v8 v9 v10 v11 v12 : Value} {e : TypeId} {fr : Nat × Nat} (h : w.heap[b]? = some (.cells #[v0, v1, v2, v3, v4, v5, v6, v7, v8, v9, v10, v11, v12] e fr)) : w.cell? ⟨b, 0, none⟩ = some v0 ∧ w.cell? ⟨b, 1, none⟩ = some v1 ∧ w.cell? ⟨b, 2, none⟩ = some v2 ∧ w.cell? ⟨b, 3, none⟩ = some v3 ∧ w.cell? ⟨b, 4, none⟩ = some v4 ∧ w.cell? ⟨b, 5, none⟩ = some v5 ∧ w.cell? ⟨b, 6, none⟩ = some v6 ∧ w.cell? ⟨b, 7, none⟩ = some v7 ∧ w.cell? ⟨b, 8, none⟩ = some v8 ∧ w.cell? ⟨b, 9, none⟩ = some v9 ∧ w.cell? ⟨b, 10, none⟩ = some v10 ∧ w.cell? ⟨b, 11, none⟩ = some v11 ∧ w.cell? ⟨b, 12, none⟩ = some v12 := ⟨cellAt h 0 rfl, cellAt h 1 rfl, cellAt h 2 rfl, cellAt h 3 rfl, cellAt h 4 rfl, cellAt h 5 rfl, cellAt h 6 rfl, cellAt h 7 rfl, cellAt h 8 rfl, cellAt h 9 rfl, cellAt h 10 rfl, cellAt h 11 rfl, cellAt h 12 rfl⟩
def Has (w : World) (b : Nat) (cs : List Value) : Prop := ∃ e, w.heap[b]? = some (.cells cs.toArray e (0, 0))
theorem Has.lt {w : World} {b : Nat} {cs : List Value} (h : Has w b cs) : b < w.heap.size := h.elim fun _ => zaa
theorem Has.cell {w : World} {b : Nat} {cs : List Value} (h : Has w b cs) (i : Nat) {v : Value} (hi : cs[i]? = some v) : w.cell? ⟨b, i, none⟩ = some v := by
 obtain ⟨e, h⟩ := h; simp [World.cell?, h, hi]
theorem Has.free {w : World} {b : Nat} {cs : List Value} (h : Has w b cs) (i : Nat) : w.frozen? ⟨b, i, none⟩ = false := by
 obtain ⟨e, h⟩ := h; simp [World.frozen?, h]
theorem Has.set {w : World} {b : Nat} {cs : List Value} (h : Has w b cs) (i : Nat) (v : Value) : Has (w.setCell ⟨b, i, none⟩ v) b (cs.set i v) := by
 obtain ⟨e, h⟩ := h; exact ⟨e, by rw [zac h]; simp⟩
theorem Has.other {w : World} {b : Nat} {cs : List Value} (h : Has w b cs) (p : Addr) (v : Value) (hp : b ≠ p.block) : Has (w.setCell p v) b cs := by
 obtain ⟨e, h⟩ := h; exact ⟨e, (Below.heap_setCell w p v b hp).trans h⟩
theorem Has.new (w : World) (cs : List Value) (e : TypeId) : Has (w.alloc (.cells cs.toArray e)) w.heap.size cs := ⟨e, heap_alloc_new w _⟩
theorem Has.fr {w w' : World} {b : Nat} {cs : List Value} {S : Nat → Prop} (h : Has w b cs) (hf : Fr S w w') (hn : ¬ S b) : Has w' b cs := by
 obtain ⟨e, h⟩ := h; exact ⟨e, hf.heap h hn⟩
def Sl (w : World) (e : TypeId) (sz : Nat) (v : Value) (n : Nat) (xs : List Value) : Prop :=
 xs.length = n * sz ∧
 ((v = .slice none 0 0 ∧ n = 0) ∨
  ∃ g o cap cur, v = .slice (some ⟨g, o, none⟩) n cap ∧ w.heap[g]? = some (.cells cur e (0, 0)) ∧ n ≤ cap ∧ cap ≤ maxLen ∧ o + cap * sz ≤ cur.size ∧ (cur.toList.drop o).take (n * sz) = xs)
theorem Sl.nil (w : World) (e : TypeId) (sz : Nat) : Sl w e sz (.slice none 0 0) 0 [] := ⟨by simp, .inl ⟨rfl, rfl⟩⟩
theorem Sl.lt {w : World} {e : TypeId} {sz : Nat} {v : Value} {n : Nat} {xs : List Value} (h : Sl w e sz v n xs) : ∀ k, v.ownBlock = some k → k < w.heap.size := by
 intro k hk; rcases h.2 with ⟨rfl, _⟩ | ⟨g, o, cap, cur, rfl, hg, _⟩
 · simp [Value.ownBlock] at hk
 simp [Value.ownBlock] at hk
 subst hk; exact zaa hg
theorem Sl.keep {w w' : World} {e : TypeId} {sz : Nat} {v : Value} {n : Nat} {xs : List Value} (h : Sl w e sz v n xs) (hk : ∀ k, v.ownBlock = some k → w'.heap[k]? = w.heap[k]?) : Sl w' e sz v n xs := by
 refine ⟨h.1, ?_⟩; rcases h.2 with hn | ⟨g, o, cap, cur, rfl, hg, rest⟩
 · exact .inl hn
 exact .inr ⟨g, o, cap, cur, rfl, (hk g rfl).trans hg, rest⟩
theorem Sl.fr {w w' : World} {e : TypeId} {sz : Nat} {v : Value} {n : Nat} {xs : List Value} {S : Nat → Prop} (h : Sl w e sz v n xs) (hf : Fr S w w') (hn : ∀ k, v.ownBlock = some k → ¬ S k) : Sl w' e sz v n xs :=
 h.keep fun k hk => hf.block k (h.lt k hk) (hn k hk)
theorem Sl.fr0 {w w' : World} {e : TypeId} {sz : Nat} {v : Value} {n : Nat} {xs : List Value} (h : Sl w e sz v n xs) (hf : Fr No w w') : Sl w' e sz v n xs := h.fr hf fun _ _ s => s
theorem Sl.alloc {w : World} {e : TypeId} {sz : Nat} {v : Value} {n : Nat} {xs : List Value} (h : Sl w e sz v n xs) (o : Obj) : Sl (w.alloc o) e sz v n xs :=
 h.keep fun k hk => Below.heap_alloc w o k (h.lt k hk)
theorem Sl.other {w : World} {e : TypeId} {sz : Nat} {v : Value} {n : Nat} {xs : List Value} (h : Sl w e sz v n xs) (p : Addr) (u : Value) (hp : v.ownBlock ≠ some p.block) : Sl (w.setCell p u) e sz v n xs :=
 h.keep fun k hk => Below.heap_setCell w p u k fun e => hp (e ▸ hk)
theorem Sl.shape {w : World} {e : TypeId} {sz : Nat} {v : Value} {n : Nat} {xs : List Value} (h : Sl w e sz v n xs) : ∃ a cap, v = .slice a n cap ∧ n ≤ cap ∧ cap ≤ maxLen ∧ (0 < n → ∃ g o, a = some ⟨g, o, none⟩) := by
 rcases h.2 with ⟨rfl, rfl⟩ | ⟨g, o, cap, cur, rfl, _, h1, h2, _⟩
 · exact ⟨none, 0, rfl, by omega, by omega, by omega⟩
 exact ⟨_, cap, rfl, h1, h2, fun _ => ⟨g, o, rfl⟩⟩
theorem Sl.cell {w : World} {e : TypeId} {sz : Nat} {g o n cap : Nat} {xs : List Value} (h : Sl w e sz (.slice (some ⟨g, o, none⟩) n cap) n xs) (j : Nat) {u : Value} (hu : xs[j]? = some u) : w.cell? ⟨g, o + j, none⟩ = some u := by
 rcases h.2 with ⟨h0, _⟩ | ⟨g', o', cap', cur, hv, hg, h1, h2, h3, h4⟩
 · cases h0
 cases hv
 rw [← h4, List.getElem?_take] at hu
 split at hu
 · rw [List.getElem?_drop] at hu
   simp [World.cell?, hg]; simpa using hu
 cases hu
theorem Sl.free {w : World} {e : TypeId} {sz : Nat} {g o n cap : Nat} {xs : List Value} (h : Sl w e sz (.slice (some ⟨g, o, none⟩) n cap) n xs) (j : Nat) : w.frozen? ⟨g, j, none⟩ = false := by
 rcases h.2 with ⟨h0, _⟩ | ⟨g', o', cap', cur, hv, hg, _⟩
 · cases h0
 cases hv
 simp [World.frozen?, hg]
theorem Sl.set {w : World} {e : TypeId} {sz : Nat} {g o n cap : Nat} {xs : List Value} (h : Sl w e sz (.slice (some ⟨g, o, none⟩) n cap) n xs) (j : Nat) (hj : j < n * sz) (u : Value) :
 Sl (w.setCell ⟨g, o + j, none⟩ u) e sz (.slice (some ⟨g, o, none⟩) n cap) n (xs.set j u) := by
 refine ⟨by simpa using h.1, ?_⟩; rcases h.2 with ⟨h0, _⟩ | ⟨g', o', cap', cur, hv, hg, h1, h2, h3, h4⟩
 · cases h0
 cases hv
 have hmul : n * sz ≤ cap * sz := Nat.mul_le_mul_right _ h1; refine .inr ⟨g, o, cap, cur.setIfInBounds (o + j) u, rfl, zac hg _ _, h1, h2, by simpa using h3, ?_⟩; subst h4; apply List.ext_getElem?; intro i; rw [List.getElem?_take, List.getElem?_set, List.getElem?_take]; by_cases hi : i < n * sz
 · rw [if_pos hi, if_pos hi, List.getElem?_drop, List.getElem?_drop, Array.toList_setIfInBounds, List.getElem?_set]
   by_cases hij : j = i
   · subst hij
     rw [if_pos rfl, if_pos rfl, if_pos (by simp; omega), if_pos (by simp; omega)]
   rw [if_neg (by omega), if_neg hij]
 rw [if_neg hi, if_neg hi, if_neg (by omega)]
theorem Sl.take {w : World} {e : TypeId} {sz : Nat} {a : Option Addr} {n cap : Nat} {xs : List Value} (h : Sl w e sz (.slice a n cap) n xs) (k : Nat) (hk : k ≤ n) : Sl w e sz (.slice a k cap) k (xs.take (k * sz)) := by
 have hm : k * sz ≤ n * sz := Nat.mul_le_mul_right _ hk; refine ⟨by rw [List.length_take, h.1]; omega, ?_⟩; rcases h.2 with ⟨h0, _⟩ | ⟨g', o', cap', cur, hv, hg, h1, h2, h3, h4⟩
 · cases h0
   obtain rfl : k = 0 := by omega
   exact .inl ⟨rfl, rfl⟩
 cases hv
 refine .inr ⟨g', o', cap, cur, rfl, hg, by omega, h2, h3, ?_⟩; rw [← h4, List.take_take]
 congr 1
 omega
theorem zcq {P : Program} (w : World) (t ty e : TypeId) (i : TypeInfo) (z : Value) (ht : P.underlying t = some (.slice e)) (hi : P.info? e = some i) (hz : i.zero = some z) (hzs : z.cells.size = i.size) (_hsz : 0 < i.size)
 (v : Value) (n : Nat) (xs : List Value) (hown : Sl w e i.size v n xs)
 (a : Addr) (m c : Nat) (news : List Value) (hl : news.length = m * i.size) (hm : 0 < m) (hnews : ∀ j u, news[j]? = some u → w.cell? (a.add j) = some u) (h1 : ∀ u ∈ news, u.oneCell' = true)
 (h63 : n + m ≤ maxLen) (hbytes : (n + m) * i.bytes ≤ 140737488355328) :
 ∃ g o cap w', (Builtin.append_ #[t, t] ty #[v, .slice (some a) m c]).run P w = .ok (.slice (some ⟨g, o, none⟩) (n + m) cap) w' ∧ Sl w' e i.size (.slice (some ⟨g, o, none⟩) (n + m) cap) (n + m) (xs ++ news) ∧ w.grownBy w' v.ownBlock ∧
  (v.ownBlock = some g ∨ g = w.heap.size) ∧ g < w'.heap.size := by
 have hsmall : n + m ≤ 9223372036854775807 := by simp only [maxLen] at h63; omega
 have hlen : (xs ++ news).length = (n + m) * i.size := by rw [List.length_append, hown.1, hl, Nat.add_mul]
 have grown : ∀ (old : Nat), old < n + m → ∀ (row : Option Nat),
  Sl (w.drew.alloc (.cells (xs.toArray ++ news.toArray ++ Builtin.zeroCells z.cells (grownCap w (n + m) old e - (n + m))) e)) e i.size
   (.slice (some ⟨w.heap.size, 0, none⟩) (n + m) (grownCap w (n + m) old e)) (n + m) (xs ++ news) ∧
  w.grownBy (w.drew.alloc (.cells (xs.toArray ++ news.toArray ++ Builtin.zeroCells z.cells (grownCap w (n + m) old e - (n + m))) e)) row := by
  intro old ho row; have hge := grownCap_ge w (n + m) old e; have hcm : grownCap w (n + m) old e ≤ maxLen := grownCap_le_maxLen w (n + m) old e h63; refine ⟨⟨hlen, .inr ⟨w.heap.size, 0, _, _, rfl, heap_alloc_new w.drew _, hge, hcm, ?_, ?_⟩⟩, ⟨rfl, rfl, rfl, by simp, fun k hk _ => Below.heap_alloc w.drew _ k hk⟩⟩
  · simp only [Array.size_append, List.size_toArray, size_zeroCells, hzs, hown.1, hl, ← Nat.add_mul]
    rw [Nat.zero_add]; apply Nat.mul_le_mul_right; omega
  simp only [Array.toList_append, List.append_assoc, List.drop_zero]
  rw [← List.append_assoc, ← hlen]; exact List.take_left
 rcases hown.2 with ⟨rfl, rfl⟩ | ⟨g, o, cap, cur, rfl, hg, hnc, hcm, hcs, htake⟩
 · have hx : xs = [] := List.eq_nil_of_length_eq_zero (by simpa using hown.1)
   subst hx; have hr := run_append_nil (P := P) w t ty e i z ht hi hz a m c news hl hnews (by omega) (by omega) (by have hb := hbytes; simp only [Nat.zero_add] at hb; omega); have hgr := grown 0 (by omega) (Value.ownBlock (.slice none 0 0)); simp only [Nat.zero_add, List.nil_append, Array.empty_append] at hgr ⊢
   exact ⟨_, _, _, _, hr, hgr.1, hgr.2, .inr rfl, by simp⟩
 by_cases hroom : n + m ≤ cap
 · have hmul : n * i.size + news.length ≤ cap * i.size := by rw [hl, ← Nat.add_mul]; exact Nat.mul_le_mul_right _ hroom
   have hf := run_firstCells_some (P := P) w i.size m a m c news hl hnews; have hst := run_storeCells_at P g (o + n * i.size) e news 0 cur w hg (by simpa using (by omega : o + n * i.size + news.length ≤ cur.size)) h1; simp only [Nat.add_zero] at hst; refine ⟨g, o, cap, w.setRow g (cur.toList.take (o + n * i.size) ++ news ++ cur.toList.drop (o + n * i.size + news.length)).toArray, ?_, ⟨hlen, .inr ⟨g, o, cap, _, rfl, setRow_heap w g cur _ e _ hg, hroom, hcm, ?_, ?_⟩⟩, ⟨rfl, rfl, rfl, by simp, fun k _ hk => setRow_other w g k _ (fun e => hk (by simp [Value.ownBlock, e]))⟩, .inl rfl, by simpa using zaa hg⟩
   · have hadd : (⟨g, o, none⟩ : Addr).add (n * i.size) = ⟨g, o + n * i.size, none⟩ := by unfold Addr.add; split <;> simp_all
     simp [Builtin.append_, run_underlying ht, sizeOf, typeInfo, hi, Builtin.lenOf, hroom, hf, hadd, hst]
   · simp only [List.size_toArray, List.length_append, List.length_take, List.length_drop, Array.length_toList]
     omega
   have e1 : (cur.toList.take (o + n * i.size)).drop o = xs := by rw [← htake, List.drop_take]; congr 1; omega
   have hlt : o ≤ (cur.toList.take (o + n * i.size)).length := (by simp only [List.length_take, Array.length_toList]; omega)
   show ((cur.toList.take (o + n * i.size) ++ news ++ cur.toList.drop (o + n * i.size + news.length)).drop o).take ((n + m) * i.size) = xs ++ news
   rw [List.append_assoc, List.drop_append_of_le_length hlt, e1, ← hlen, ← List.append_assoc]; exact List.take_left
 have holds : ∀ j u, xs[j]? = some u → w.cell? ((⟨g, o, none⟩ : Addr).add j) = some u := fun j u hu => by
  have hadd : (⟨g, o, none⟩ : Addr).add j = ⟨g, o + j, none⟩ := (by unfold Addr.add; split <;> simp_all); rw [hadd]; exact hown.cell j hu
 have hr := run_append_grow (P := P) w t ty e i z ht hi hz ⟨g, o, none⟩ n cap xs hown.1 holds a m c news hl hnews (by omega) (by omega) (growslice_fits (by omega) hbytes); have hgr := grown cap (by omega) (Value.ownBlock (.slice (some ⟨g, o, none⟩) n cap)); exact ⟨_, _, _, _, hr, hgr.1, hgr.2, .inr rfl, by simp⟩
theorem zei {P : Program} {w : World} {ops : Array Oper} {rest : List Oper} {o : Oper} {a : Act} {Q : Exit → Act → World → Prop} (hgd : o.guard = none) (s x : Operand) (t : TypeId)
 (ho : o.op = .call { callee := .builtin .append, args := #[s, x], argTypes := #[t, t] })
 (e : TypeId) (i : TypeInfo) (z : Value) (sz bytes : Nat) (ht : P.underlying t = some (.slice e)) (hi : P.info? e = some i) (hz : i.zero = some z) (hsize : i.size = sz) (hby : i.bytes = bytes) (hzs : z.cells.size = sz) (hsz : 0 < sz)
 (v : Value) (n : Nat) (xs : List Value) (hs : a.eval s = v) (hown : Sl w e sz v n xs)
 (ad : Addr) (m c : Nat) (news : List Value) (hx : a.eval x = .slice (some ad) m c) (hl : news.length = m * sz) (hm : 0 < m) (hnews : ∀ j u, news[j]? = some u → w.cell? (ad.add j) = some u) (h1 : ∀ u ∈ news, u.oneCell' = true)
 (h63 : n + m ≤ maxLen) (hbytes : (n + m) * bytes ≤ 140737488355328)
 (h : ∀ g o' cap w', Sl w' e sz (.slice (some ⟨g, o', none⟩) (n + m) cap) (n + m) (xs ++ news) → w.grownBy w' v.ownBlock → (v.ownBlock = some g ∨ g = w.heap.size) → g < w'.heap.size →
   wpList P ops Q rest (a.put o.dst (.slice (some ⟨g, o', none⟩) (n + m) cap)) w') : wpList P ops Q (o :: rest) a w := by
 subst hsize; subst hby; refine wpList_plain hgd fun _ hK => ?_; obtain ⟨g, o', cap, w', hr, h2, h3, h4, h5⟩ := zcq (P := P) w t o.type e i z ht hi hz hzs hsz v n xs hown ad m c news hl hm hnews h1 h63 hbytes; unfold Oper.wp execOp; simp only [ho, resolve, invoke, builtin, Sem.run_bind, Sem.run_pure, Result.andThen_ok, List.map_toArray, List.map_cons, List.map_nil, hs, hx, hr]; exact hK _ _ (h g o' cap w' h2 h3 h4 h5)
theorem zax (w : World) (cs : List Value) (e : TypeId) (fr : Nat × Nat) : ∀ j u, cs[j]? = some u → (w.alloc (.cells cs.toArray e fr)).cell? ((⟨w.heap.size, 0, none⟩ : Addr).add j) = some u := by
 intro j u hu; have hadd : (⟨w.heap.size, 0, none⟩ : Addr).add j = ⟨w.heap.size, j, none⟩ := by unfold Addr.add; split <;> simp_all
 have := heap_alloc_new w (.cells cs.toArray e fr); rw [hadd]; unfold World.cell?; simp only; rw [this]; simpa using hu
/-! Lists of records, laid out flat. -/
section
variable {α : Type} {f : α → List Value} {sz : Nat}
theorem zam (hf : ∀ x, (f x).length = sz) (L : List α) : (L.flatMap f).length = L.length * sz := by
 induction L with
 | nil => simp
 | cons x L ih => rw [List.flatMap_cons, List.length_append, ih, hf, List.length_cons, Nat.succ_mul]; omega
theorem zpv (hf : ∀ x, (f x).length = sz) (L : List α) (i j : Nat) (hj : j < sz) : (L.flatMap f)[i * sz + j]? = (L[i]?).bind fun x => (f x)[j]? := by
 induction L generalizing i with
 | nil => simp
 | cons x L ih =>
   rw [List.flatMap_cons]
   cases i with
   | zero => rw [List.getElem?_append_left (by rw [hf]; omega)]; simp
   | succ i =>
     rw [List.getElem?_append_right (by rw [hf, Nat.succ_mul]; omega), hf, show (i + 1) * sz + j - sz = i * sz + j from by rw [Nat.succ_mul]; omega, ih]; simp
theorem zdm (hf : ∀ x, (f x).length = sz) (L : List α) (k : Nat) : (L.flatMap f).take (k * sz) = (L.take k).flatMap f := by
 induction L generalizing k with
 | nil => simp
 | cons x L ih =>
   cases k with
   | zero => simp
   | succ k =>
     rw [List.flatMap_cons, List.take_succ_cons, List.flatMap_cons, List.take_append, hf, show (k + 1) * sz - sz = k * sz from by rw [Nat.succ_mul]; omega, ih,
      List.take_of_length_le (by rw [hf, Nat.succ_mul]; omega)]
theorem zpu (hf : ∀ x, (f x).length = sz) (L : List α) (i j : Nat) (hj : j < sz) (x x' : α) (u : Value) (hx : L[i]? = some x) (hx' : f x' = (f x).set j u) :
 (L.flatMap f).set (i * sz + j) u = (L.set i x').flatMap f := by
 induction L generalizing i with
 | nil => simp at hx
 | cons y L ih =>
   rw [List.flatMap_cons]
   cases i with
   | zero =>
     simp at hx; subst hx; rw [List.set_append_left _ _ (by rw [hf]; omega)]; simp [hx']
   | succ i =>
     simp at hx; rw [List.set_append_right _ _ (by rw [hf, Nat.succ_mul]; omega), hf, show (i + 1) * sz + j - sz = i * sz + j from by rw [Nat.succ_mul]; omega, ih i hx]; simp
end
def SlF {α : Type} (w : World) (e sz : Nat) (f : α → List Value) (v : Value) (L : List α) : Prop := Sl w e sz v L.length (L.flatMap f)
section
variable {α : Type} {f : α → List Value} {w : World} {e sz : Nat} {v : Value} {L : List α}
theorem SlF.nil (w : World) (e sz : Nat) (f : α → List Value) : SlF w e sz f (.slice none 0 0) [] := Sl.nil w e sz
theorem SlF.fr {w' : World} {S : Nat → Prop} (h : SlF w e sz f v L) (hf : Fr S w w') (hn : ∀ k, v.ownBlock = some k → ¬ S k) : SlF w' e sz f v L := Sl.fr h hf hn
theorem SlF.fr0 {w' : World} (h : SlF w e sz f v L) (hf : Fr No w w') : SlF w' e sz f v L := Sl.fr0 h hf
theorem SlF.alloc (h : SlF w e sz f v L) (o : Obj) : SlF (w.alloc o) e sz f v L := Sl.alloc h o
theorem SlF.drew (h : SlF w e sz f v L) : SlF w.drew e sz f v L := h
theorem SlF.other (h : SlF w e sz f v L) (p : Addr) (u : Value) (hp : v.ownBlock ≠ some p.block) : SlF (w.setCell p u) e sz f v L := Sl.other h p u hp
theorem SlF.lt (h : SlF w e sz f v L) : ∀ k, v.ownBlock = some k → k < w.heap.size := Sl.lt h
theorem SlF.shape (h : SlF w e sz f v L) : ∃ a cap, v = .slice a L.length cap ∧ L.length ≤ cap ∧ cap ≤ maxLen ∧ (0 < L.length → ∃ g o, a = some ⟨g, o, none⟩) := Sl.shape h
theorem SlF.cell {g o cap : Nat} (hf : ∀ x, (f x).length = sz) (h : SlF w e sz f (.slice (some ⟨g, o, none⟩) L.length cap) L) (i j : Nat) {x : α} {u : Value} (hx : L[i]? = some x) (hu : (f x)[j]? = some u) :
 w.cell? ⟨g, o + i * sz + j, none⟩ = some u := by
 have hj : j < sz := by have := (List.getElem?_eq_some_iff.1 hu).1; rwa [hf] at this
 rw [Nat.add_assoc]; exact Sl.cell h _ (by rw [zpv hf L i j hj, hx]; exact hu)
theorem SlF.cell0 {g o cap : Nat} (hf : ∀ x, (f x).length = sz) (h : SlF w e sz f (.slice (some ⟨g, o, none⟩) L.length cap) L) (i : Nat) {x : α} {u : Value} (hx : L[i]? = some x) (hu : (f x)[0]? = some u) :
 w.cell? ⟨g, o + i * sz, none⟩ = some u := h.cell hf i 0 hx hu
theorem SlF.cell1 {g o cap : Nat} (hf : ∀ x, (f x).length = 1) (h : SlF w e 1 f (.slice (some ⟨g, o, none⟩) L.length cap) L) (i : Nat) {x : α} {u : Value} (hx : L[i]? = some x) (hu : (f x)[0]? = some u) :
 w.cell? ⟨g, o + i, none⟩ = some u := by
 have := h.cell0 hf i hx hu
 rwa [Nat.mul_one] at this
theorem SlF.free {g o cap : Nat} (h : SlF w e sz f (.slice (some ⟨g, o, none⟩) L.length cap) L) (j : Nat) : w.frozen? ⟨g, j, none⟩ = false := Sl.free h j
theorem SlF.set {g o cap : Nat} (hf : ∀ x, (f x).length = sz) (h : SlF w e sz f (.slice (some ⟨g, o, none⟩) L.length cap) L) (i j : Nat) (hj : j < sz) (x x' : α) (u : Value) (hx : L[i]? = some x) (hx' : f x' = (f x).set j u) :
 SlF (w.setCell ⟨g, o + i * sz + j, none⟩ u) e sz f (.slice (some ⟨g, o, none⟩) L.length cap) (L.set i x') := by
 have hi := (List.getElem?_eq_some_iff.1 hx).1; unfold SlF; rw [← zpu hf L i j hj x x' u hx hx', List.length_set, Nat.add_assoc]; refine Sl.set h _ ?_ u; have : (i + 1) * sz ≤ L.length * sz := Nat.mul_le_mul_right _ hi; rw [Nat.succ_mul] at this; omega
theorem SlF.take {a : Option Addr} {cap : Nat} (hf : ∀ x, (f x).length = sz) (h : SlF w e sz f (.slice a L.length cap) L) (k : Nat) (hk : k ≤ L.length) : SlF w e sz f (.slice a k cap) (L.take k) := by
 have := Sl.take h k hk; rw [zdm hf] at this; unfold SlF
 rwa [List.length_take, Nat.min_eq_left hk]
end
theorem zap {α : Type} {f : α → List Value} {P : Program} {w : World} {ops : Array Oper} {rest : List Oper} {o : Oper} {a : Act} {Q : Exit → Act → World → Prop} (hgd : o.guard = none) (s x : Operand) (t : TypeId)
 (ho : o.op = .call { callee := .builtin .append, args := #[s, x], argTypes := #[t, t] })
 (e : TypeId) (i : TypeInfo) (z : Value) (sz bytes : Nat) (ht : P.underlying t = some (.slice e)) (hi : P.info? e = some i) (hz : i.zero = some z) (hsize : i.size = sz) (hby : i.bytes = bytes) (hzs : z.cells.size = sz) (hsz : 0 < sz)
 (v : Value) (L : List α) (hs : a.eval s = v) (hown : SlF w e sz f v L)
 (b c : Nat) (y : α) (hx : a.eval x = .slice (some ⟨b, 0, none⟩) 1 c) (hnews : ∀ j u, (f y)[j]? = some u → w.cell? ((⟨b, 0, none⟩ : Addr).add j) = some u) (hl : (f y).length = sz) (h1 : ∀ u ∈ f y, u.oneCell' = true)
 (h63 : L.length + 1 ≤ maxLen) (hbytes : (L.length + 1) * bytes ≤ 140737488355328)
 (h : ∀ g o' cap w', SlF w' e sz f (.slice (some ⟨g, o', none⟩) (L.length + 1) cap) (L ++ [y]) → w.grownBy w' v.ownBlock → (v.ownBlock = some g ∨ g = w.heap.size) → g < w'.heap.size →
   wpList P ops Q rest (a.put o.dst (.slice (some ⟨g, o', none⟩) (L.length + 1) cap)) w') : wpList P ops Q (o :: rest) a w := by
 refine zei hgd s x t ho e i z sz bytes ht hi hz hsize hby hzs hsz v L.length (L.flatMap f) hs hown ⟨b, 0, none⟩ 1 c (f y) hx (by omega) (by omega) hnews h1 h63 hbytes ?_; intro g o' cap w' h2 h3 h4 h5; refine h g o' cap w' ?_ h3 h4 h5; unfold SlF; simpa using h2
def int1 (n : Int) : List Value := [.int .i64 n]
theorem zdy (n : Int) : (int1 n).length = 1 := rfl
open Go Go.RowKit Go.WideElems Go.ChangeMaps
def MapAt (w : World) (b : Nat) (f : Int → Option Value) : Prop :=
 ∃ es clock, w.heap[b]? = some (.map es clock) ∧ MapKept.Stamped es clock ∧ (∀ e ∈ es.toList, ∃ n, e.key = .int .i64 n ∧ (Lit.int .i64 n).wf = true ∧ f n = some e.val) ∧
  ∀ n v, f n = some v → ∃ e ∈ es.toList, e.key = .int .i64 n ∧ e.val = v
theorem Fr.setAt {b : Nat} {a w : World} (h : Fr (fun x => x = b) a w) (i : Nat) (u : Value) : Fr (fun x => x = b) a (w.setCell ⟨b, i, none⟩ u) := h.setCell (p := ⟨b, i, none⟩) (.inl rfl) u
theorem MapAt.lt {w : World} {b : Nat} {f : Int → Option Value} (h : MapAt w b f) : b < w.heap.size := by
 obtain ⟨es, clock, hb, _⟩ := h; exact zaa hb
theorem MapAt.keep {w w' : World} {b : Nat} {f : Int → Option Value} (h : MapAt w b f) (hk : w'.heap[b]? = w.heap[b]?) : MapAt w' b f := by
 obtain ⟨es, clock, hb, h⟩ := h; exact ⟨es, clock, hk.trans hb, h⟩
theorem MapAt.fr {w w' : World} {b : Nat} {f : Int → Option Value} {S : Nat → Prop} (h : MapAt w b f) (hf : Fr S w w') (hn : ¬ S b) : MapAt w' b f := h.keep (hf.block b h.lt hn)
theorem MapAt.alloc {w : World} {b : Nat} {f : Int → Option Value} (h : MapAt w b f) (o : Obj) : MapAt (w.alloc o) b f := h.keep (Below.heap_alloc w o b h.lt)
theorem MapAt.made (w : World) : MapAt (w.alloc (.map #[] 0)) w.heap.size fun _ => none :=
 ⟨#[], 0, heap_alloc_new w _, MapKept.stamped_empty 0, by simp, by simp⟩
theorem MapAt.apart {w : World} {b : Nat} {f : Int → Option Value} (h : MapAt w b f) {cs : List Value} {c : Nat} (hc : Has w c cs) : b ≠ c := by
 rintro rfl; obtain ⟨es, clock, hb, _⟩ := h; obtain ⟨e, hc⟩ := hc; rw [hb] at hc; cases hc
section
variable {P : Program} {w : World} {b : Nat} {f : Int → Option Value} {t k e : TypeId}
theorem znr (hk : P.underlying k = some (.int .i64)) {es : List MapEntry} (h : ∀ e ∈ es, ∃ n, e.key = .int .i64 n ∧ (Lit.int .i64 n).wf = true ∧ f n = some e.val) : ∀ e ∈ es, ∃ l, keyOf P k e.key = some l := by
 intro e he; obtain ⟨n, h1, h2, _⟩ := h e he; exact ⟨_, by rw [h1]; exact Maps.keyOf_int_mk hk h2⟩
theorem MapAt.look (h : MapAt w b f) (ht : P.underlying t = some (.map k e)) (hk : P.underlying k = some (.int .i64)) {n : Int} (hn : (Lit.int .i64 n).wf = true) {z : Value} (hz : (zeroValue e).run P w = .ok z w) :
 (Instr.lookup t (.map (some b)) (.int .i64 n) false).run P w = .ok ((f n).getD z) w := by
 obtain ⟨es, clock, hb, hst, h1, h2⟩ := h; have K := Maps.int_keyed hk; have hkey := Maps.keyOf_int_mk hk hn; rcases K.find w hkey es.toList (znr hk h1) with ⟨g1, g2⟩ | ⟨j, e0, g1, g2, g3⟩
 · have : f n = none := by
    cases hf : f n with
    | none => rfl
    | some v =>
      obtain ⟨e1, he1, hek, _⟩ := h2 n v hf; exact absurd hek (g2 e1 he1)
   simp [Instr.lookup, run_underlying ht, MapKept.run_getObj_map hb, K.check w _ hkey, g1, hz, Result.andThen, this]
 obtain ⟨m, hm, _, hfm⟩ := h1 e0 (List.mem_of_getElem? g2)
 rw [g3] at hm; cases hm; simp [Instr.lookup, run_underlying ht, MapKept.run_getObj_map hb, K.check w _ hkey, g1, Result.andThen, hfm]
theorem MapAt.store (h : MapAt w b f) (ht : P.underlying t = some (.map k e)) (hk : P.underlying k = some (.int .i64)) {n : Int} (hn : (Lit.int .i64 n).wf = true) (v : Value) :
 ∃ w', (Instr.mapUpdate t (.map (some b)) (.int .i64 n) v).run P w = .ok () w' ∧ MapAt w' b (fun m => if m = n then some v else f m) ∧ Fr (fun x => x = b) w w' ∧ w'.heap.size = w.heap.size := by
 obtain ⟨es, clock, hb, hst, h1, h2⟩ := h; have K := Maps.int_keyed hk; have hkey := Maps.keyOf_int_mk hk hn; have hfr : ∀ o, Fr (fun x => x = b) w (setBlock w b o) := fun o => ⟨rfl, rfl, rfl, by simp [setBlock], fun i _ hi => heap_setBlock_other hb _ hi⟩; rcases K.find w hkey es.toList (znr hk h1) with ⟨g1, g2⟩ | ⟨j, e0, g1, g2, g3⟩
 · refine ⟨setBlock w b (.map (es.push ⟨.int .i64 n, v, clock⟩) (clock + 1)), ?_, ⟨_, _, heap_setBlock_same hb _, MapKept.stamped_push hst g2, ?_, ?_⟩, hfr _, by simp [setBlock]⟩
   · simp [Instr.mapUpdate, run_underlying ht, MapKept.run_getObj_map hb, K.check w false hkey, g1, MapKept.run_setObj_map _ hb, Result.andThen, setBlock]
   · intro x hx
     simp only [Array.toList_push, List.mem_append, List.mem_singleton] at hx; rcases hx with hx | rfl
     · obtain ⟨m, e1, e2, e3⟩ := h1 x hx
       refine ⟨m, e1, e2, ?_⟩; dsimp only; rw [if_neg (fun e => g2 x hx (by rw [e1, e]))]; exact e3
     exact ⟨n, rfl, hn, by simp⟩
   intro m u hu
   simp only [Array.toList_push, List.mem_append, List.mem_singleton]; by_cases hmn : m = n
   · subst hmn
     simp at hu; subst hu; exact ⟨_, .inr rfl, rfl, rfl⟩
   dsimp only at hu
   rw [if_neg hmn] at hu; obtain ⟨x, hx, hx'⟩ := h2 m u hu; exact ⟨x, .inl hx, hx'⟩
 have hj : es[j]? = some e0 := by simpa using g2
 have hjl : j < es.size := (Array.getElem?_eq_some_iff.1 hj).1; have hkeyf : ∀ e', es[j]? = some e' → ({ e' with key := .int .i64 n, val := v } : MapEntry).key = e'.key := fun e' he' => by rw [hj] at he'; cases he'; exact g3.symm
 have hnd : es.toList.Pairwise (fun x y => x.key ≠ y.key) := ((MapKept.stamped_iff _ _).1 hst).2.2
 have hother : ∀ i x, es[i]? = some x → i ≠ j → x.key ≠ .int .i64 n := by
  intro i x hx hij e1; have hil := (Array.getElem?_eq_some_iff.1 hx).1; rw [List.pairwise_iff_getElem] at hnd; have ex : es[i] = x := (Array.getElem?_eq_some_iff.1 hx).2; have e0' : es[j] = e0 := (Array.getElem?_eq_some_iff.1 hj).2; rcases Nat.lt_or_gt_of_ne hij with h | h
  · exact hnd i j (by simpa using hil) (by simpa using hjl) h (by simp [ex, e0', e1, g3])
  exact hnd j i (by simpa using hjl) (by simpa using hil) h (by simp [ex, e0', e1, g3])
 refine ⟨setBlock w b (.map (es.modify j (fun e' => { e' with key := .int .i64 n, val := v })) clock), ?_,
  ⟨_, _, heap_setBlock_same hb _, MapKept.stamped_modify hst _ _ (fun _ _ => rfl) (fun e' _ he' => hkeyf e' he'), ?_, ?_⟩, hfr _, by simp [setBlock]⟩
 · simp [Instr.mapUpdate, run_underlying ht, MapKept.run_getObj_map hb, K.check w false hkey, g1, hj, g3, K.stays w hkey, MapKept.run_setObj_map _ hb, Result.andThen, setBlock]
 · intro x hx
   obtain ⟨i, hi⟩ := List.getElem?_of_mem hx; have hi' : (es.modify j (fun e' => { e' with key := .int .i64 n, val := v }))[i]? = some x := (by rw [Array.getElem?_toList] at hi; exact hi); rw [Array.getElem?_modify] at hi'; by_cases hji : j = i
   · rw [if_pos hji] at hi'
     obtain ⟨y, hy, rfl⟩ := Option.map_eq_some_iff.1 hi'; exact ⟨n, rfl, hn, by simp⟩
   rw [if_neg hji] at hi'
   obtain ⟨m, e1, e2, e3⟩ := h1 x (List.mem_of_getElem? (by simpa using hi')); refine ⟨m, e1, e2, ?_⟩; dsimp only; rw [if_neg (fun e => hother i x hi' (fun e' => hji e'.symm) (by rw [e1, e]))]; exact e3
 intro m u hu
 by_cases hmn : m = n
 · subst hmn
   simp at hu; subst hu; refine ⟨{ e0 with key := .int .i64 m, val := v }, ?_, rfl, rfl⟩; refine List.mem_of_getElem? (i := j) ?_; have : (es.modify j (fun e' => { e' with key := .int .i64 m, val := v }))[j]? = some { e0 with key := .int .i64 m, val := v } := (by rw [Array.getElem?_modify, if_pos rfl, hj]; rfl); rw [Array.getElem?_toList]; exact this
 dsimp only at hu
 rw [if_neg hmn] at hu; obtain ⟨x, hx, hx1, hx2⟩ := h2 m u hu; obtain ⟨i, hi⟩ := List.getElem?_of_mem hx; have hi' : es[i]? = some x := (by simpa using hi)
 have hij : j ≠ i := by
  rintro rfl; rw [hj] at hi'; cases hi'; rw [g3] at hx1; cases hx1; exact hmn rfl
 refine ⟨x, List.mem_of_getElem? (i := i) ?_, hx1, hx2⟩; have : (es.modify j (fun e' => { e' with key := .int .i64 n, val := v }))[i]? = some x := (by rw [Array.getElem?_modify, if_neg hij]; exact hi'); rw [Array.getElem?_toList]; exact this
theorem MapAt.drop (h : MapAt w b f) (ht : P.underlying t = some (.map k e)) (hk : P.underlying k = some (.int .i64)) {n : Int} (hn : (Lit.int .i64 n).wf = true) (ty : TypeId) :
 ∃ w', (Builtin.delete_ #[t, k] ty #[.map (some b), .int .i64 n]).run P w = .ok (.tuple #[]) w' ∧ MapAt w' b (fun m => if m = n then none else f m) ∧ Fr (fun x => x = b) w w' ∧ w'.heap.size = w.heap.size := by
 obtain ⟨es, clock, hb, hst, h1, h2⟩ := h; have K := Maps.int_keyed hk; have hkey := Maps.keyOf_int_mk hk hn; have hfr : ∀ o, Fr (fun x => x = b) w (setBlock w b o) := fun o => ⟨rfl, rfl, rfl, by simp [setBlock], fun i _ hi => heap_setBlock_other hb _ hi⟩; rcases K.find w hkey es.toList (znr hk h1) with ⟨g1, g2⟩ | ⟨j, e0, g1, g2, g3⟩
 · refine ⟨setBlock w b (.map es clock), ?_, ⟨_, _, heap_setBlock_same hb _, hst, ?_, ?_⟩, hfr _, by simp [setBlock]⟩
   · simp [Builtin.delete_, run_underlying ht, MapKept.run_getObj_map hb, K.check w _ hkey, g1, MapKept.run_setObj_map _ hb, Result.andThen, setBlock]
   · intro x hx
     obtain ⟨m, e1, e2, e3⟩ := h1 x hx; refine ⟨m, e1, e2, ?_⟩; dsimp only; rw [if_neg (fun e => g2 x hx (by rw [e1, e]))]; exact e3
   intro m u hu
   dsimp only at hu
   split at hu
   · cases hu
   exact h2 m u hu
 have hj : es[j]? = some e0 := by simpa using g2
 have hjl : j < es.size := (Array.getElem?_eq_some_iff.1 hj).1
 have hsub : (es.eraseIdxIfInBounds j).toList = es.toList.eraseIdx j := by
  unfold Array.eraseIdxIfInBounds; rw [dif_pos hjl]; simp
 have hnd : es.toList.Pairwise (fun x y => x.key ≠ y.key) := ((MapKept.stamped_iff _ _).1 hst).2.2; refine ⟨setBlock w b (.map (es.eraseIdxIfInBounds j) clock), ?_, ⟨_, _, heap_setBlock_same hb _, MapKept.stamped_erase hst j, ?_, ?_⟩, hfr _, by simp [setBlock]⟩
 · simp [Builtin.delete_, run_underlying ht, MapKept.run_getObj_map hb, K.check w _ hkey, g1, MapKept.run_setObj_map _ hb, Result.andThen, setBlock]
 · intro x hx
   rw [hsub] at hx; obtain ⟨m, e1, e2, e3⟩ := h1 x ((List.eraseIdx_sublist _ _).subset hx); refine ⟨m, e1, e2, ?_⟩; dsimp only; rw [if_neg ?_]; exact e3; rintro rfl; obtain ⟨i, hi⟩ := List.mem_iff_getElem?.1 hx; rw [List.pairwise_iff_getElem] at hnd; rw [List.getElem?_eraseIdx] at hi; have e0' : es[j] = e0 := (Array.getElem?_eq_some_iff.1 hj).2
   split at hi
   · rename_i hlt
     obtain ⟨hil, hx'⟩ := List.getElem?_eq_some_iff.1 hi; exact hnd i j hil (by simpa using hjl) hlt (by rw [hx', e1]; simp [e0', g3])
   rename_i hge
   obtain ⟨hil, hx'⟩ := List.getElem?_eq_some_iff.1 hi; exact hnd j (i + 1) (by simpa using hjl) hil (by omega) (by rw [hx', e1]; simp [e0', g3])
 intro m u hu
 dsimp only at hu
 split at hu
 · cases hu
 rename_i hmn
 obtain ⟨x, hx, hx1, hx2⟩ := h2 m u hu; refine ⟨x, ?_, hx1, hx2⟩; rw [hsub]; obtain ⟨i, hi⟩ := List.mem_iff_getElem?.1 hx; refine List.mem_iff_getElem?.2 ?_
 have hij : i ≠ j := by
  rintro rfl; have : es.toList[i]? = some e0 := g2; rw [hi] at this; cases this; rw [g3] at hx1; cases hx1; exact hmn rfl
 by_cases hlt : i < j
 · exact ⟨i, by rw [List.getElem?_eraseIdx, if_pos hlt]; exact hi⟩
 exact ⟨i - 1, by rw [List.getElem?_eraseIdx, if_neg (by omega), show i - 1 + 1 = i from by omega]; exact hi⟩
def mapUpW (P : Program) (t : TypeId) (b : Nat) (n : Int) (v : Value) (w : World) : World := match (Instr.mapUpdate t (.map (some b)) (.int .i64 n) v).run P w with
 | .ok _ w' => w'
 | .halt _ w' => w'
theorem MapAt.up (h : MapAt w b f) (ht : P.underlying t = some (.map k e)) (hk : P.underlying k = some (.int .i64)) {n : Int} (hn : (Lit.int .i64 n).wf = true) (v : Value) :
 (Instr.mapUpdate t (.map (some b)) (.int .i64 n) v).run P w = .ok () (mapUpW P t b n v w) ∧ MapAt (mapUpW P t b n v w) b (fun m => if m = n then some v else f m) ∧ Fr (fun x => x = b) w (mapUpW P t b n v w) ∧ (mapUpW P t b n v w).heap.size = w.heap.size := by
 obtain ⟨w', hrun, h1, h2, h3⟩ := h.store ht hk hn v; have e1 : mapUpW P t b n v w = w' := by unfold mapUpW; rw [hrun]
 rw [e1]; exact ⟨hrun, h1, h2, h3⟩
end
theorem zfm {P : Program} {w : World} {ops : Array Oper} {rest : List Oper} {o : Oper} {a : Act} {Q : Exit → Act → World → Prop} (hg : o.guard = none) (m x : Operand) (t : TypeId) (hop : o.op = Op.lookup t m x false)
 (k e : TypeId) (ht : P.underlying t = some (.map k e)) (hk : P.underlying k = some (.int .i64)) (b : Nat) (f : Int → Option Value) (hm : a.eval m = .map (some b)) (h : MapAt w b f) (n : Int) (hx : a.eval x = .int .i64 n)
 (hn : (Lit.int .i64 n).wf = true) (z : Value) (hz : (zeroValue e).run P w = .ok z w) (v : Value) (hv : (f n).getD z = v) (hK : wpList P ops Q rest (a.put o.dst v) w) : wpList P ops Q (o :: rest) a w := by
 refine wpList_plain hg fun K' hK' => ?_; have hrun := h.look ht hk hn hz; rw [hv] at hrun; unfold Oper.wp; simp [execOp, hop, hm, hx, hrun, Result.andThen]; exact hK' _ _ hK
theorem zkr {P : Program} {w : World} {ops : Array Oper} {rest : List Oper} {o : Oper} {a : Act} {Q : Exit → Act → World → Prop} (hg : o.guard = none) (m x v : Operand) (t : TypeId) (hop : o.op = Op.mapUpdate t m x v)
 (k e : TypeId) (ht : P.underlying t = some (.map k e)) (hk : P.underlying k = some (.int .i64)) (b : Nat) (f : Int → Option Value) (hm : a.eval m = .map (some b)) (h : MapAt w b f) (n : Int) (hx : a.eval x = .int .i64 n)
 (hn : (Lit.int .i64 n).wf = true) (u : Value) (hv : a.eval v = u)
 (hK : ∀ w', MapAt w' b (fun m => if m = n then some u else f m) → Fr (fun x => x = b) w w' → w'.heap.size = w.heap.size → wpList P ops Q rest (a.put o.dst undef) w') : wpList P ops Q (o :: rest) a w := by
 refine wpList_plain hg fun K' hK' => ?_; obtain ⟨w', hrun, r1, r2, r3⟩ := h.store ht hk hn u; unfold Oper.wp; simp [execOp, hop, hm, hx, hv, hrun, Result.andThen]; exact hK' _ _ (hK w' r1 r2 r3)
end Go.Proofs.YthljnnjpmdgkoaaGreat