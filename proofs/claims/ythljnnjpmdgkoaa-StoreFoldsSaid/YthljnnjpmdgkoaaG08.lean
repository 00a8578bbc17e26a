/- The inner function of the store's Apply that lays an event down: it is done, kept, and told. The condition: histories are small, the tree has room. The store's New, Rev, when, room. The condition of room: there is a revision left. The store's get, where neither Desc nor Keys is asked: what a range answers; nothing is changed. The condition: histories are small (HistOk). -/
import Derived.Test.YthljnnjpmdgkoaaG07
import Derived.Test.YthljnnjpmdgkoaaG05
import Derived.Test.YthljnnjpmdgkoaaG06
namespace Go.Proofs.Ythljnnjpmdgkoaa
open Go Go.Proofs Go.RowKit
set_option maxRecDepth 100000

/-- The store, the box that leads to it, the variable of events, and an answer. -/
structure LayR (TA : TreeRel) (w : World) (s sb vb ab : Nat) (S : St) (F : Nat → Prop) (ev : Value) (E : List Ev) (kind : Int) (kv : Value) (L : List Kv) (count : Int) (more : Bool) : Prop where
  store : StoreAt TA w s S F
  box : Has w sb [.pointer (some ⟨s, 0, none⟩)]
  evs : Has w vb [ev]
  evl : SlF w 73 13 evC ev E
  ans : Has w ab [.int .i64 kind, kv, .int .i64 count, .bool more]
  kvl : SlF w 57 6 kvC kv L
  f1 : ¬ F sb
  f2 : ¬ F vb
  f3 : ¬ F ab
  f4 : ∀ b, ev.ownBlock = some b → ¬ F b
  f5 : ∀ b, kv.ownBlock = some b → ¬ F b
  n1 : sb ≠ vb
  n2 : sb ≠ ab
  n3 : vb ≠ ab
  e1 : ev.ownBlock ≠ some sb
  e2 : ev.ownBlock ≠ some vb
  e3 : ev.ownBlock ≠ some ab
  k1 : kv.ownBlock ≠ some sb
  k2 : kv.ownBlock ≠ some vb
  k3 : kv.ownBlock ≠ some ab
  ek : ∀ b, ev.ownBlock = some b → kv.ownBlock ≠ some b

/-- What an event adds to an answer. -/
def told (x : Ev) : List Kv := if 0 < x.prev.version then [x.prev] else []

set_option maxHeartbeats 4000000 in
theorem lay_calls {TA : TreeRel} {N : Nat} (hT : TreeOk TA N) {n : Nat} (hn : n ≤ 1099511627) (w : World) (s sb vb ab : Nat) (S : St) (F : Nat → Prop) (ev : Value) (E : List Ev) (kind : Int) (kv : Value) (L : List Kv) (count : Int) (more : Bool)
    (a : LayR TA w s sb vb ab S F ev E kind kv L count more) (hok : StOk n S) (x : Ev) (hx : DoOk N S x) (hE : E.length ≤ 1099511627) (hL : L.length ≤ 1099511627) (hc0 : 0 ≤ count) (hc1 : count ≤ top) :
    Calls Try.prog 74 #[.pointer (some ⟨ab, 0, none⟩), evV x, .pointer (some ⟨sb, 0, none⟩), .pointer (some ⟨vb, 0, none⟩)] w fun e w' => (∃ v, e = .returned v) ∧
      ∃ F' ev' kv', LayR TA w' s sb vb ab (doS S x) F' ev' (E ++ [x]) kind kv' (L ++ told x) (count + (told x).length) more ∧
        Fr (fun b => F b ∨ b = vb ∨ b = ab ∨ ev.ownBlock = some b ∨ kv.ownBlock = some b) w w' ∧ (∀ b, F' b → F b ∨ w.heap.size ≤ b) ∧ (∀ b, ev'.ownBlock = some b → ev.ownBlock = some b ∨ w.heap.size ≤ b) ∧
        (∀ b, kv'.ownBlock = some b → kv.ownBlock = some b ∨ w.heap.size ≤ b) := by
  have HA := Lib.hid a
  have HX := Lib.hid hx
  have hls := a.store.lt hT
  have c0 := a.box.cell 0 rfl
  have hbx := alloc_at w (Obj.cells #[.int .i64 x.kind, .string x.kv.key, .string x.kv.value, .int .i64 x.kv.create, .int .i64 x.kv.mod, .int .i64 x.kv.version, .int .i64 x.kv.lease, .string x.prev.key, .string x.prev.value, .int .i64 x.prev.create, .int .i64 x.prev.mod, .int .i64 x.prev.version, .int .i64 x.prev.lease] 73) _ rfl
  have hf0 : Fr No w (w.alloc (Obj.cells #[.int .i64 x.kind, .string x.kv.key, .string x.kv.value, .int .i64 x.kv.create, .int .i64 x.kv.mod, .int .i64 x.kv.version, .int .i64 x.kv.lease, .string x.prev.key, .string x.prev.value, .int .i64 x.prev.create, .int .i64 x.prev.mod, .int .i64 x.prev.version, .int .i64 x.prev.lease] 73)) := (Fr.refl No w).alloc _
  have lsb := a.box.lt
  have lvb := a.evs.lt
  have lab := a.ans.lt
  have nbx : ¬ F w.heap.size := fun h => by have := hls _ h; omega
  obtain ⟨i0, hi0, hz0, hz1, hz2⟩ := info_parts info73
  obtain ⟨j0, hj0, hy0, hy1, hy2⟩ := info_parts info57
  unfold top at hc1
  unfold evV
  clear a hx
  go_enter Try.func74, Try.ntmps74
  go_wp2_with (first
    | (go_at_call 75; refine (do_calls hT hn _ s S F (HA.out.store.fr0 hT hf0) hok x HX.out).mono ?_; rintro e w1 ⟨⟨v, rfl⟩, F1, hs1, hf1, hn1⟩
       have hbx1 := hf1.heap hbx nbx
       have k0 : w1.cell? ⟨w.heap.size, 0, none⟩ = some (.int .i64 x.kind) := by simp [World.cell?, hbx1]
       have k1 : w1.cell? ⟨w.heap.size, 1, none⟩ = some (.string x.kv.key) := by simp [World.cell?, hbx1]
       have k2 : w1.cell? ⟨w.heap.size, 2, none⟩ = some (.string x.kv.value) := by simp [World.cell?, hbx1]
       have k3 : w1.cell? ⟨w.heap.size, 3, none⟩ = some (.int .i64 x.kv.create) := by simp [World.cell?, hbx1]
       have k4 : w1.cell? ⟨w.heap.size, 4, none⟩ = some (.int .i64 x.kv.mod) := by simp [World.cell?, hbx1]
       have k5 : w1.cell? ⟨w.heap.size, 5, none⟩ = some (.int .i64 x.kv.version) := by simp [World.cell?, hbx1]
       have k6 : w1.cell? ⟨w.heap.size, 6, none⟩ = some (.int .i64 x.kv.lease) := by simp [World.cell?, hbx1]
       have k7 : w1.cell? ⟨w.heap.size, 7, none⟩ = some (.string x.prev.key) := by simp [World.cell?, hbx1]
       have k8 : w1.cell? ⟨w.heap.size, 8, none⟩ = some (.string x.prev.value) := by simp [World.cell?, hbx1]
       have k9 : w1.cell? ⟨w.heap.size, 9, none⟩ = some (.int .i64 x.prev.create) := by simp [World.cell?, hbx1]
       have k10 : w1.cell? ⟨w.heap.size, 10, none⟩ = some (.int .i64 x.prev.mod) := by simp [World.cell?, hbx1]
       have k11 : w1.cell? ⟨w.heap.size, 11, none⟩ = some (.int .i64 x.prev.version) := by simp [World.cell?, hbx1]
       have k12 : w1.cell? ⟨w.heap.size, 12, none⟩ = some (.int .i64 x.prev.lease) := by simp [World.cell?, hbx1]
       have v1 : w1.cell? ⟨vb, 0, none⟩ = some ev := hf1.cell (hf0.cell0 (HA.out.evs.cell 0 rfl)) HA.out.f2
       have hnew := cells_new w1 [.int .i64 x.kind, .string x.kv.key, .string x.kv.value, .int .i64 x.kv.create, .int .i64 x.kv.mod, .int .i64 x.kv.version, .int .i64 x.kv.lease, .string x.prev.key, .string x.prev.value, .int .i64 x.prev.create, .int .i64 x.prev.mod, .int .i64 x.prev.version, .int .i64 x.prev.lease] 73 (0, 0))
    | (at_builtin; refine wpList_append_f rfl _ _ 34 rfl 73 i0 _ 13 136 Try.underlying34 hi0 hz0 hz1 hz2 rfl (by decide) ev E rfl (((HA.out.evl.fr0 hf0).fr hf1 HA.out.f4).alloc _) w1.heap.size 1 x rfl hnew rfl ?c1 ?c2 ?c3 ?_))
  case c1 => intro u hu; simp [evC, kvC] at hu; rcases hu with rfl | rfl | rfl | rfl | rfl | rfl | rfl | rfl | rfl | rfl | rfl | rfl | rfl <;> rfl
  case c2 => unfold maxLen; omega
  case c3 => omega
  intro g1 o1 cap1 w2 hs2 hg2 hb2 hlt2
  have hsz1 : w.heap.size + 1 ≤ w1.heap.size := by have := heap_lt hbx1; omega
  have hf2 : Fr (fun b => ev.ownBlock = some b) w1 w2 := ((Fr.refl _ w1).alloc _).grown hg2 fun k hk => .inl hk
  have hevl := HA.out.evl.lt
  have hkvl := HA.out.kvl.lt
  have hg1 : ev.ownBlock = some g1 ∨ w1.heap.size ≤ g1 := by
    rcases hb2 with h | h
    · exact .inl h
    · right; have h' : g1 = w1.heap.size + 1 := by simpa using h
      omega
  have nev : ev.ownBlock ≠ some w.heap.size := fun h => by have := hevl _ h; omega
  have v2 := hf2.cell v1 HA.out.e2
  have v2f : w2.frozen? ⟨vb, 0, none⟩ = false := hf2.free v1 (hf1.free (hf0.cell0 (HA.out.evs.cell 0 rfl)) (hf0.free0 (HA.out.evs.cell 0 rfl) (HA.out.evs.free 0)) HA.out.f2) HA.out.e2
  have p11 := hf2.cell k11 nev
  have hbx2 := hf2.heap hbx1 nev
  have hF1l := hs1.lt hT
  have HS1 := Lib.hid hs1
  have HF1 := Lib.hid hf1
  have HN1 := Lib.hid hn1
  have HS2 := Lib.hid hs2
  have HF2 := Lib.hid hf2
  have HB2 := Lib.hid hbx2
  have nvb : vb ≠ w.heap.size := by omega
  clear hs1 hf1 hn1 hs2 hg2 hb2 hf2 hbx1 hbx k0 k1 k2 k3 k4 k5 k6 k7 k8 k9 k10 k11 k12 v1 hnew hbx2
  go_upto_if 16 with fail
  have hsz2 : w1.heap.size ≤ w2.heap.size := HF2.out.size
  have nF1 : ∀ b, b < w.heap.size + 1 → ¬ F b → ¬ F1 b := fun b hb hF h => by
    rcases HN1.out b h with h | h
    · exact hF h
    · simp at h; omega
  have hf3 : Fr (fun b => b = vb) w2 (w2.setCell ⟨vb, 0, none⟩ (.slice (some ⟨g1, o1, none⟩) (E.length + 1) cap1)) := (Fr.refl _ w2).setAt 0 _
  have hw1 : Fr F w w1 := (hf0.mono fun _ _ s => s.elim).trans HF1.out fun _ _ h => h
  have hw2 : Fr (fun b => F b ∨ ev.ownBlock = some b) w w2 := (hw1.mono fun _ _ h => .inl h).trans HF2.out fun _ _ h => .inr h
  have hfT : Fr (fun b => F b ∨ b = vb ∨ ev.ownBlock = some b) w (w2.setCell ⟨vb, 0, none⟩ (.slice (some ⟨g1, o1, none⟩) (E.length + 1) cap1)) :=
    (hw2.mono fun b _ h => h.elim .inl fun h => .inr (.inr h)).trans hf3 fun b _ h => .inr (.inl h)
  have hbase : LayR TA (w2.setCell ⟨vb, 0, none⟩ (.slice (some ⟨g1, o1, none⟩) (E.length + 1) cap1)) s sb vb ab (doS S x) F1 (.slice (some ⟨g1, o1, none⟩) (E.length + 1) cap1) (E ++ [x]) kind kv L count more := {
    store := (HS1.out.fr hT HF2.out fun b hb e => nF1 b (by have := hevl b e; omega) (HA.out.f4 b e) hb).fr hT hf3 fun b hb e => nF1 vb (by omega) HA.out.f2 (by have e' : b = vb := e; rw [← e']; exact hb)
    box := HA.out.box.fr hfT fun h => h.elim HA.out.f1 fun h => h.elim HA.out.n1 HA.out.e1
    evs := (HA.out.evs.fr hw2 fun h => h.elim HA.out.f2 HA.out.e2).set 0 _
    evl := HS2.out.other ⟨vb, 0, none⟩ _ (by
      simp only [Value.ownBlock, ne_eq, Option.some.injEq]
      rintro rfl
      rcases hg1 with h | h
      · exact HA.out.e2 h
      · omega)
    ans := HA.out.ans.fr hfT fun h => h.elim HA.out.f3 fun h => h.elim (fun h => HA.out.n3 h.symm) HA.out.e3
    kvl := HA.out.kvl.fr hfT fun b hb h => by
      rcases h with h | h | h
      · exact HA.out.f5 b hb h
      · exact HA.out.k2 (h ▸ hb)
      · exact HA.out.ek b h hb
    f1 := nF1 sb (by omega) HA.out.f1
    f2 := nF1 vb (by omega) HA.out.f2
    f3 := nF1 ab (by omega) HA.out.f3
    f4 := fun b hb h => by
      obtain rfl : g1 = b := by simpa [Value.ownBlock] using hb
      rcases hg1 with h1 | h1
      · exact nF1 g1 (by have := hevl g1 h1; omega) (HA.out.f4 g1 h1) h
      · have := hF1l g1 h; omega
    f5 := fun b hb h => nF1 b (by have := hkvl b hb; omega) (HA.out.f5 b hb) h
    n1 := HA.out.n1
    n2 := HA.out.n2
    n3 := HA.out.n3
    e1 := by
      simp only [Value.ownBlock, ne_eq, Option.some.injEq]
      rintro rfl
      rcases hg1 with h | h
      · exact HA.out.e1 h
      · omega
    e2 := by
      simp only [Value.ownBlock, ne_eq, Option.some.injEq]
      rintro rfl
      rcases hg1 with h | h
      · exact HA.out.e2 h
      · omega
    e3 := by
      simp only [Value.ownBlock, ne_eq, Option.some.injEq]
      rintro rfl
      rcases hg1 with h | h
      · exact HA.out.e3 h
      · omega
    k1 := HA.out.k1
    k2 := HA.out.k2
    k3 := HA.out.k3
    ek := fun b hb h => by
      obtain rfl : g1 = b := by simpa [Value.ownBlock] using hb
      rcases hg1 with h1 | h1
      · exact HA.out.ek g1 h1 h
      · have := hkvl g1 h; omega }
  have hB3 := hf3.heap HB2.out (fun e => nvb e.symm)
  have hsz3 : (w2.setCell ⟨vb, 0, none⟩ (.slice (some ⟨g1, o1, none⟩) (E.length + 1) cap1)).heap.size = w2.heap.size := by simp
  have hsz4 : w1.heap.size ≤ (w2.setCell ⟨vb, 0, none⟩ (.slice (some ⟨g1, o1, none⟩) (E.length + 1) cap1)).heap.size := by omega
  clear hsz3
  generalize w2.setCell ⟨vb, 0, none⟩ (.slice (some ⟨g1, o1, none⟩) (E.length + 1) cap1) = W3 at *
  have HBASE := Lib.hid hbase
  have HFT := Lib.hid hfT
  have HB3 := Lib.hid hB3
  clear hbase hfT hB3 hf3 hw1 hw2 p11 v2 v2f
  have hF1n : ∀ b, F1 b → F b ∨ w.heap.size ≤ b := fun b hb => by
    rcases HN1.out b hb with h | h
    · exact .inl h
    · simp at h; exact .inr (by omega)
  have hevn : ∀ b, (Value.slice (some ⟨g1, o1, none⟩) (E.length + 1) cap1).ownBlock = some b → ev.ownBlock = some b ∨ w.heap.size ≤ b := fun b hb => by
    obtain rfl : g1 = b := by simpa [Value.ownBlock] using hb
    rcases hg1 with h | h
    · exact .inl h
    · exact .inr (by omega)
  by_cases hv : 0 < x.prev.version
  · have htold : told x = [x.prev] := by unfold told; rw [if_pos hv]
    have a1 := HBASE.out.ans.cell 1 rfl
    have a2 := HBASE.out.ans.cell 2 rfl
    have f1 := HBASE.out.ans.free 1
    have f2 := HBASE.out.ans.free 2
    have hkvl3 := HBASE.out.kvl.lt
    have hl3 := HBASE.out.ans.lt
    have hlb := heap_lt HB3.out
    have q7 : W3.cell? ⟨w.heap.size, 7, none⟩ = some (.string x.prev.key) := by simp [World.cell?, HB3.out]
    have q8 : W3.cell? ⟨w.heap.size, 8, none⟩ = some (.string x.prev.value) := by simp [World.cell?, HB3.out]
    have q9 : W3.cell? ⟨w.heap.size, 9, none⟩ = some (.int .i64 x.prev.create) := by simp [World.cell?, HB3.out]
    have q10 : W3.cell? ⟨w.heap.size, 10, none⟩ = some (.int .i64 x.prev.mod) := by simp [World.cell?, HB3.out]
    have q11 : W3.cell? ⟨w.heap.size, 11, none⟩ = some (.int .i64 x.prev.version) := by simp [World.cell?, HB3.out]
    have q12 : W3.cell? ⟨w.heap.size, 12, none⟩ = some (.int .i64 x.prev.lease) := by simp [World.cell?, HB3.out]
    have hnew := cells_new W3.drew [.string x.prev.key, .string x.prev.value, .int .i64 x.prev.create, .int .i64 x.prev.mod, .int .i64 x.prev.version, .int .i64 x.prev.lease] 57 (0, 0)
    have nk3 := HBASE.out.k3
    have HT := Lib.hid htold
    clear htold
    go_wp2_with fail
    go_region_law (refine step_append_f rfl _ _ 53 rfl 57 j0 _ 6 64 Try.underlying53 hj0 hy0 hy1 hy2 rfl (by decide) _ L rfl (HBASE.out.kvl.fr0 ((Fr.refl No W3).drew.alloc _)) W3.heap.size 1 x.prev rfl hnew rfl (by intro u hu; simp [kvC] at hu; rcases hu with rfl | rfl | rfl | rfl | rfl | rfl <;> rfl) (by unfold maxLen; omega) (by omega) ?_; intro g2 o2 cap2 w4 hs4 hg4 hb4 hlt4; have hf4 : Fr (fun k => kv.ownBlock = some k) W3 w4 := ((Fr.refl _ W3).drew.alloc _).grown hg4 (fun k hk => .inl hk); have b1 := hf4.cell a1 nk3; have bf := hf4.free a1 f1 nk3; have b2 := hf4.cell a2 nk3; have bf2 := hf4.free a2 f2 nk3; have HS4 := Lib.hid hs4; have HB4 := Lib.hid hb4; have HF4 := Lib.hid hf4; clear hs4 hg4 hb4 hf4)
    all_goals
      have hcz : count + 1 ≤ 1099511627777 := by omega
      go_wp2
      refine bodyPost_end (results_none rfl _ _ _) rfl ?_
      have hg2 : kv.ownBlock = some g2 ∨ W3.heap.size ≤ g2 := by
        rcases HB4.out with h | h
        · exact .inl h
        · right
          have h' : g2 = W3.heap.size + 1 := by simpa using h
          omega
      have hFs : ∀ b, F1 b → b < W3.heap.size := fun b h => by have := hF1l b h; omega
      have hvl := HBASE.out.evs.lt
      have hbl := HBASE.out.box.lt
      have hell := HBASE.out.evl.lt
      have ng : ∀ b, kv.ownBlock ≠ some b → b < W3.heap.size → g2 ≠ b := by
        rintro b h1 h2 rfl
        rcases hg2 with h | h
        · exact h1 h
        · omega
      have hf6 : Fr (fun b => b = ab ∨ kv.ownBlock = some b) W3 ((w4.setCell ⟨ab, 1, none⟩ (.slice (some ⟨g2, o2, none⟩) (L.length + 1) cap2)).setCell ⟨ab, 2, none⟩ (.int .i64 (count + 1))) :=
        ((HF4.out.mono fun _ _ h => .inr h).setCell (p := ⟨ab, 1, none⟩) (.inl (.inl rfl)) _).setCell (p := ⟨ab, 2, none⟩) (.inl (.inl rfl)) _
      have hkn : ∀ b, (Value.slice (some ⟨g2, o2, none⟩) (L.length + 1) cap2).ownBlock = some b → kv.ownBlock = some b ∨ w.heap.size ≤ b := fun b hb => by
        obtain rfl : g2 = b := by simpa [Value.ownBlock] using hb
        rcases hg2 with h | h
        · exact .inl h
        · exact .inr (by omega)
      refine ⟨⟨_, rfl⟩, F1, _, .slice (some ⟨g2, o2, none⟩) (L.length + 1) cap2, {
        store := HBASE.out.store.fr hT hf6 fun b hb h => h.elim (fun h => HBASE.out.f3 (h ▸ hb)) fun h => HBASE.out.f5 b h hb
        box := HBASE.out.box.fr hf6 fun h => h.elim HBASE.out.n2 HBASE.out.k1
        evs := HBASE.out.evs.fr hf6 fun h => h.elim HBASE.out.n3 HBASE.out.k2
        evl := HBASE.out.evl.fr hf6 fun b hb h => h.elim (fun h => HBASE.out.e3 (h ▸ hb)) fun h => HBASE.out.ek b hb h
        ans := by
          rw [HT.out]
          exact ((HBASE.out.ans.fr HF4.out nk3).set 1 (.slice (some ⟨g2, o2, none⟩) (L.length + 1) cap2)).set 2 (.int .i64 (count + 1))
        kvl := by
          rw [HT.out]
          have ng2 := ng ab nk3 hl3
          exact (HS4.out.other ⟨ab, 1, none⟩ _ (by simp [Value.ownBlock]; exact ng2)).other ⟨ab, 2, none⟩ _ (by simp [Value.ownBlock]; exact ng2)
        f1 := HBASE.out.f1
        f2 := HBASE.out.f2
        f3 := HBASE.out.f3
        f4 := HBASE.out.f4
        f5 := fun b hb h => by
          obtain rfl : g2 = b := by simpa [Value.ownBlock] using hb
          rcases hg2 with h1 | h1
          · exact HBASE.out.f5 g2 h1 h
          · have := hFs g2 h; omega
        n1 := HBASE.out.n1
        n2 := HBASE.out.n2
        n3 := HBASE.out.n3
        e1 := HBASE.out.e1
        e2 := HBASE.out.e2
        e3 := HBASE.out.e3
        k1 := by simp only [Value.ownBlock, ne_eq, Option.some.injEq]; exact ng sb HBASE.out.k1 hbl
        k2 := by simp only [Value.ownBlock, ne_eq, Option.some.injEq]; exact ng vb HBASE.out.k2 hvl
        k3 := by simp only [Value.ownBlock, ne_eq, Option.some.injEq]; exact ng ab HBASE.out.k3 hl3
        ek := fun b hb => by
          simp only [Value.ownBlock, ne_eq, Option.some.injEq]
          exact ng b (HBASE.out.ek b hb) (hell b hb) }, ?_, hF1n, hevn, hkn⟩
      refine (HFT.out.mono fun b _ h => h.elim .inl fun h => h.elim (fun h => .inr (.inl h)) fun h => .inr (.inr (.inr (.inl h)))).trans hf6 fun b _ h => h.elim (fun h => .inr (.inr (.inl h))) fun h => .inr (.inr (.inr (.inr h)))
  · have htold : told x = [] := by unfold told; rw [if_neg hv]
    have HT := Lib.hid htold
    clear htold
    go_wp2
    refine bodyPost_end (results_none rfl _ _ _) rfl ?_
    exact ⟨⟨_, rfl⟩, F1, _, kv, by rw [HT.out]; simpa using HBASE.out, HFT.out.mono fun b _ h => h.elim .inl fun h => h.elim (fun h => .inr (.inl h)) fun h => .inr (.inr (.inr (.inl h))), hF1n, hevn, fun b hb => .inl hb⟩
end Go.Proofs.Ythljnnjpmdgkoaa

namespace Go.Proofs.Ythljnnjpmdgkoaa
open Go Go.Proofs Go.RowKit
set_option maxRecDepth 100000

def st0 : St := { T := [], past := fun _ => none, next := 0, rev := 0, mark := 0, events := [] }
theorem StoreNew_calls {TA : TreeRel} {N : Nat} (hT : TreeOk TA N) (w : World) : Calls Try.prog 31 #[] w fun e w' => ∃ s, e = .returned (.pointer (some ⟨s, 0, none⟩)) ∧ ∃ F, StoreAt TA w' s st0 F ∧ Fr No w w' ∧ (∀ b, F b → w.heap.size ≤ b) := by
  have hmm : ∀ w, (Instr.makeMap 119 none).run Try.prog w = .ok (.map (some w.heap.size)) (w.alloc (.map #[] 0)) := fun w => run_makeMap 119 w
  go_enter Try.func31, Try.ntmps31
  go_wp2_with (go_at_call 67; refine (hT.new w).mono ?_; rintro e w1 ⟨t, rfl, FT, ht, hf, hn⟩)
  go_ret
  have hlt := hT.lt ht
  have hsz := hf.size
  refine ⟨_, rfl, storeF (w1.heap.size + 1) w1.heap.size (.slice none 0 0) FT fun _ _ => False, ⟨t, w1.heap.size, .slice none 0 0, fun _ => none, FT, fun _ _ => False, ?_, fun _ => Iff.rfl⟩, (hf.alloc _).alloc _, ?_⟩
  · exact {
      obj := ⟨121, alloc_at _ _ _ (by simp)⟩
      tree := hT.fr ht (((Fr.refl No w1).alloc _).alloc _) fun _ _ s => s
      map := (MapAt.made w1).alloc _
      events := SlF.nil _ _ _ _
      hist := fun i H h => by simp [st0] at h
      gone := fun i h => ⟨rfl, fun _ h => h⟩
      ds := ⟨fun h => by have := hlt _ h; omega, by simp [Value.ownBlock], fun _ h => h⟩
      dp := ⟨fun h => by have := hlt _ h; omega, by simp [Value.ownBlock], fun _ h => h⟩
      dt := fun b hb => ⟨by simp [Value.ownBlock], fun _ h => h⟩
      de := fun b hb => by simp [Value.ownBlock] at hb
      dh := fun _ _ _ h => h.elim }
  · rintro b (rfl | rfl | h | h | ⟨_, h⟩)
    · omega
    · omega
    · exact hn b h
    · simp [Value.ownBlock] at h
    · exact h.elim

theorem StoreRev_calls {TA : TreeRel} (w : World) (s : Nat) (S : St) (F : Nat → Prop) (hS : StoreAt TA w s S F) : Calls Try.prog 33 #[.pointer (some ⟨s, 0, none⟩)] w fun e w' => e = .returned (.int .i64 S.rev) ∧ w = w' := by
  obtain ⟨t, p, ev, hp, FT, FH, a, hF⟩ := hS
  have c3 := a.obj.cell 3 rfl
  have ls := a.obj.lt
  clear a
  go_enter Try.func33, Try.ntmps33
  go_wp2
  go_ret
  exact ⟨rfl, rfl⟩

/-- What is wrong with a range's revision. -/
def whenE (S : St) (rev : Int) : Int := if S.rev < rev then 33 else if rev ≠ 0 ∧ rev < S.mark then 32 else 0

theorem when_calls {TA : TreeRel} (w : World) (s : Nat) (S : St) (F : Nat → Prop) (hS : StoreAt TA w s S F) (rev : Int) : Calls Try.prog 65 #[.pointer (some ⟨s, 0, none⟩), .int .i64 rev] w fun e w' => e = .returned (.int .i64 (whenE S rev)) ∧ w = w' := by
  obtain ⟨t, p, ev, hp, FT, FH, a, hF⟩ := hS
  have c3 := a.obj.cell 3 rfl
  have c4 := a.obj.cell 4 rfl
  have ls := a.obj.lt
  unfold whenE
  clear a
  by_cases h1 : S.rev < rev
  · rw [if_pos h1]
    go_enter Try.func65, Try.ntmps65
    go_wp2
    go_ret
    exact ⟨rfl, rfl⟩
  · rw [if_neg h1]
    have h1' : rev ≤ S.rev := by omega
    by_cases h2 : rev = 0
    · subst h2
      go_enter Try.func65, Try.ntmps65
      go_wp2
      go_ret
      exact ⟨by simp, rfl⟩
    · have h2' : (rev == 0) = false := by simpa using h2
      by_cases h3 : rev < S.mark
      · rw [if_pos ⟨h2, h3⟩]
        go_enter Try.func65, Try.ntmps65
        go_wp2
        go_ret
        exact ⟨rfl, rfl⟩
      · rw [if_neg (fun h => h3 h.2)]
        go_enter Try.func65, Try.ntmps65
        go_wp2
        go_ret
        exact ⟨rfl, rfl⟩

theorem room_calls {TA : TreeRel} (w : World) (s : Nat) (S : St) (F : Nat → Prop) (hS : StoreAt TA w s S F) (v : Value) (hr : S.rev < top) : Calls Try.prog 73 #[.pointer (some ⟨s, 0, none⟩), v] w fun e w' => e = .returned (.bool true) ∧ Fr No w w' := by
  obtain ⟨t, p, ev, hp, FT, FH, a, hF⟩ := hS
  have c3 := a.obj.cell 3 rfl
  have ls := a.obj.lt
  have hmf : ∀ (fn : Fn) (first cap : Array Value) (w : World), (Instr.makeFunc fn first cap).run Try.prog w = .ok (.func fn first cap) w := fun _ _ _ _ => rfl
  unfold top at hr
  clear a
  go_enter Try.func73, Try.ntmps73
  go_wp2
  go_ret
  exact ⟨rfl, (Fr.refl No w).alloc _⟩
end Go.Proofs.Ythljnnjpmdgkoaa

namespace Go.Proofs.Ythljnnjpmdgkoaa
open Go Go.Proofs Go.RowKit
set_option maxRecDepth 100000

def revOf (g : Rg) (rev : Int) : Int := if g.rev ≠ 0 then g.rev else rev
def allL (S : St) (g : Rg) (rev : Int) : List Kv := betweenS S g.key g.end_ (revOf g rev)
def moreB (S : St) (g : Rg) (rev : Int) : Bool := !g.count && decide (0 < g.limit) && decide (g.limit < (allL S g rev).length)
def cutL (g : Rg) (more : Bool) (l : List Kv) : List Kv := if more then l.take g.limit.toNat else l
/-- What a range answers. -/
def getL (S : St) (g : Rg) (rev : Int) : List Kv :=
  if g.count then [] else
    let l := cutL g (moreB S g rev) (if g.desc then (allL S g rev).reverse else allL S g rev)
    if g.keys then l.map fun x => { x with value := ByteArray.empty } else l

set_option maxHeartbeats 4000000 in
theorem get_calls {TA : TreeRel} {N : Nat} (hT : TreeOk TA N) {n : Nat} (hn : n ≤ 1099511627) (w : World) (s : Nat) (S : St) (F : Nat → Prop) (hS : StoreAt TA w s S F) (hok : StOk n S) (hN : S.T.length ≤ 1099511627) (g : Rg) (rev : Int)
    (hks : g.key.size ≤ 1099511627776) (hdesc : g.desc = false) (hkeys : g.keys = false) :
    Calls Try.prog 66 #[.pointer (some ⟨s, 0, none⟩), rgV g, .int .i64 rev] w fun e w' => ∃ v, e = .returned (.tuple #[v, .int .i64 (allL S g rev).length, .bool (moreB S g rev)]) ∧ SlF w' 57 6 kvC v (getL S g rev) ∧ Fr No w w' ∧ (∀ b, v.ownBlock = some b → w.heap.size ≤ b) := by
  have hbl : (allL S g rev).length ≤ 1099511627 := Nat.le_trans (List.length_filterMap_le _ _) (Nat.le_trans (List.length_filter_le _ _) hN)
  have hb := fun W hW => between_calls hT hn W s S F hW hok hN g.key g.end_ (revOf g rev) hks
  obtain ⟨g1, g2, g3, g4, g5, g6, g7⟩ := g
  dsimp only at hdesc hkeys hb
  subst hdesc hkeys
  have hal : betweenS S g1 g2 (revOf ⟨g1, g2, g3, g4, false, g6, false⟩ rev) = allL S ⟨g1, g2, g3, g4, false, g6, false⟩ rev := rfl
  rw [hal] at hb
  have hgl : getL S ⟨g1, g2, g3, g4, false, g6, false⟩ rev = if g6 then [] else cutL ⟨g1, g2, g3, g4, false, g6, false⟩ (moreB S ⟨g1, g2, g3, g4, false, g6, false⟩ rev) (allL S ⟨g1, g2, g3, g4, false, g6, false⟩ rev) := by unfold getL; rfl
  have hmo : moreB S ⟨g1, g2, g3, g4, false, g6, false⟩ rev = (!g6 && decide (0 < g4) && decide (g4 < (allL S ⟨g1, g2, g3, g4, false, g6, false⟩ rev).length)) := rfl
  rw [hgl, hmo]
  unfold rgV cutL
  dsimp only
  generalize allL S ⟨g1, g2, g3, g4, false, g6, false⟩ rev = l at *
  have hrv : (g3 = 0 ∧ revOf ⟨g1, g2, g3, g4, false, g6, false⟩ rev = rev) ∨ ((g3 == 0) = false ∧ revOf ⟨g1, g2, g3, g4, false, g6, false⟩ rev = g3) := by
    unfold revOf
    by_cases h : g3 = 0
    · exact .inl ⟨h, by simp [h]⟩
    · exact .inr ⟨by simpa using h, by simp [h]⟩
  generalize revOf ⟨g1, g2, g3, g4, false, g6, false⟩ rev = rv at *
  have HB := Lib.hid hb
  have HS := Lib.hid hS
  clear hb hgl hmo hal hS
  have hcase : (g6 = true) ∨ (g6 = false ∧ ¬ 0 < g4) ∨ (g6 = false ∧ 0 < g4 ∧ ¬ g4 < (l.length : Int)) ∨ (g6 = false ∧ 0 < g4 ∧ g4 < (l.length : Int)) := by
    cases g6 <;> simp <;> omega
  rcases hrv with ⟨hr1, rfl⟩ | ⟨hr1, rfl⟩
  · subst hr1
    rcases hcase with rfl | ⟨rfl, h1⟩ | ⟨rfl, h1, h2⟩ | ⟨rfl, h1, h2⟩
    · simp only [Bool.not_true, Bool.false_and, if_true]
      go_enter Try.func66, Try.ntmps66
      go_wp2_with (go_at_call 77; refine (HB.out _ (HS.out.fr0 hT ((Fr.refl No w).alloc _))).mono ?_; rintro e w1 ⟨v, rfl, hv, hf1, hvn⟩; obtain ⟨va, vcap, rfl, hc1, hc2, hva⟩ := hv.shape
                   have hf2 : Fr No w w1 := ((Fr.refl No w).alloc _).trans0 hf1
                   have hbx := hf1.heap (alloc_at w (Obj.cells #[.string g1, .string g2, .int .i64 0, .int .i64 g4, .bool false, .bool true, .bool false] 38) _ rfl) id
                   have y3 : w1.cell? ⟨w.heap.size, 3, none⟩ = some (.int .i64 g4) := by simp [World.cell?, hbx]
                   have y4 : w1.cell? ⟨w.heap.size, 4, none⟩ = some (.bool false) := by simp [World.cell?, hbx]
                   have y5 : w1.cell? ⟨w.heap.size, 5, none⟩ = some (.bool true) := by simp [World.cell?, hbx]
                   have y6 : w1.cell? ⟨w.heap.size, 6, none⟩ = some (.bool false) := by simp [World.cell?, hbx]
                   have hl1 : w.heap.size < w1.heap.size := heap_lt hbx
                   have HV := Lib.hid hv
                   have HVN : Hid (∀ b, (Value.slice va l.length vcap).ownBlock = some b → w.heap.size ≤ b) := Lib.hid (fun b hb => by have := hvn b hb; simp at this; omega)
                   clear hv hbx hvn)
      go_ret3
      exact ⟨_, rfl, SlF.nil _ _ _ _, hf2, by simp [Value.ownBlock]⟩
    · have hd : decide (0 < g4) = false := by simpa using h1
      rw [hd]
      simp only [Bool.not_false, Bool.true_and, Bool.false_and, if_false, Bool.false_eq_true]
      go_enter Try.func66, Try.ntmps66
      go_wp2_with (go_at_call 77; refine (HB.out _ (HS.out.fr0 hT ((Fr.refl No w).alloc _))).mono ?_; rintro e w1 ⟨v, rfl, hv, hf1, hvn⟩; obtain ⟨va, vcap, rfl, hc1, hc2, hva⟩ := hv.shape
                   have hf2 : Fr No w w1 := ((Fr.refl No w).alloc _).trans0 hf1
                   have hbx := hf1.heap (alloc_at w (Obj.cells #[.string g1, .string g2, .int .i64 0, .int .i64 g4, .bool false, .bool false, .bool false] 38) _ rfl) id
                   have y3 : w1.cell? ⟨w.heap.size, 3, none⟩ = some (.int .i64 g4) := by simp [World.cell?, hbx]
                   have y4 : w1.cell? ⟨w.heap.size, 4, none⟩ = some (.bool false) := by simp [World.cell?, hbx]
                   have y5 : w1.cell? ⟨w.heap.size, 5, none⟩ = some (.bool false) := by simp [World.cell?, hbx]
                   have y6 : w1.cell? ⟨w.heap.size, 6, none⟩ = some (.bool false) := by simp [World.cell?, hbx]
                   have hl1 : w.heap.size < w1.heap.size := heap_lt hbx
                   have HV := Lib.hid hv
                   have HVN : Hid (∀ b, (Value.slice va l.length vcap).ownBlock = some b → w.heap.size ≤ b) := Lib.hid (fun b hb => by have := hvn b hb; simp at this; omega)
                   clear hv hbx hvn)
      go_loopg [50] l.length (fun g s50 wr => ∃ i : Nat, s50 = .int .i64 i ∧ i + g = l.length ∧ w1 = wr)
      case atStart => exact ⟨0, rfl, by omega, rfl⟩
      case round =>
        obtain ⟨i, rfl, hi, rfl⟩ := hrel
        cases gk with
        | zero =>
          have hil : ¬ (i : Int) < ((l.length : Nat) : Int) := by omega
          go_wp2
          go_ret3
          exact ⟨_, rfl, HV.out, hf2, HVN.out⟩
        | succ g =>
          have hil : (i : Int) < ((l.length : Nat) : Int) := by omega
          go_wp2
          go_roundg g
          case rel => exact ⟨i + 1, by go_num, by omega, rfl⟩
          case measure => omega
    · have hd : decide (g4 < (l.length : Int)) = false := by simpa using h2
      rw [hd]
      simp only [Bool.and_false, if_false, Bool.false_eq_true]
      go_enter Try.func66, Try.ntmps66
      go_wp2_with (go_at_call 77; refine (HB.out _ (HS.out.fr0 hT ((Fr.refl No w).alloc _))).mono ?_; rintro e w1 ⟨v, rfl, hv, hf1, hvn⟩; obtain ⟨va, vcap, rfl, hc1, hc2, hva⟩ := hv.shape
                   have hf2 : Fr No w w1 := ((Fr.refl No w).alloc _).trans0 hf1
                   have hbx := hf1.heap (alloc_at w (Obj.cells #[.string g1, .string g2, .int .i64 0, .int .i64 g4, .bool false, .bool false, .bool false] 38) _ rfl) id
                   have y3 : w1.cell? ⟨w.heap.size, 3, none⟩ = some (.int .i64 g4) := by simp [World.cell?, hbx]
                   have y4 : w1.cell? ⟨w.heap.size, 4, none⟩ = some (.bool false) := by simp [World.cell?, hbx]
                   have y5 : w1.cell? ⟨w.heap.size, 5, none⟩ = some (.bool false) := by simp [World.cell?, hbx]
                   have y6 : w1.cell? ⟨w.heap.size, 6, none⟩ = some (.bool false) := by simp [World.cell?, hbx]
                   have hl1 : w.heap.size < w1.heap.size := heap_lt hbx
                   have HV := Lib.hid hv
                   have HVN : Hid (∀ b, (Value.slice va l.length vcap).ownBlock = some b → w.heap.size ≤ b) := Lib.hid (fun b hb => by have := hvn b hb; simp at this; omega)
                   clear hv hbx hvn)
      go_loopg [50] l.length (fun g s50 wr => ∃ i : Nat, s50 = .int .i64 i ∧ i + g = l.length ∧ w1 = wr)
      case atStart => exact ⟨0, rfl, by omega, rfl⟩
      case round =>
        obtain ⟨i, rfl, hi, rfl⟩ := hrel
        cases gk with
        | zero =>
          have hil : ¬ (i : Int) < ((l.length : Nat) : Int) := by omega
          go_wp2
          go_ret3
          exact ⟨_, rfl, HV.out, hf2, HVN.out⟩
        | succ g =>
          have hil : (i : Int) < ((l.length : Nat) : Int) := by omega
          go_wp2
          go_roundg g
          case rel => exact ⟨i + 1, by go_num, by omega, rfl⟩
          case measure => omega
    · obtain ⟨k, rfl⟩ : ∃ k : Nat, g4 = k := ⟨g4.toNat, by omega⟩
      have hk1 : k ≤ l.length := by omega
      have hd1 : decide (0 < (k : Int)) = true := by simpa using h1
      have hd2 : decide ((k : Int) < (l.length : Int)) = true := by simpa using h2
      rw [hd1, hd2]
      simp only [Bool.not_false, Bool.true_and, if_true, if_false, Bool.false_eq_true, Int.toNat_natCast]
      go_enter Try.func66, Try.ntmps66
      go_wp2_with (go_at_call 77; refine (HB.out _ (HS.out.fr0 hT ((Fr.refl No w).alloc _))).mono ?_; rintro e w1 ⟨v, rfl, hv, hf1, hvn⟩; obtain ⟨va, vcap, rfl, hc1, hc2, hva⟩ := hv.shape
                   have hf2 : Fr No w w1 := ((Fr.refl No w).alloc _).trans0 hf1
                   have hbx := hf1.heap (alloc_at w (Obj.cells #[.string g1, .string g2, .int .i64 0, .int .i64 k, .bool false, .bool false, .bool false] 38) _ rfl) id
                   have y3 : w1.cell? ⟨w.heap.size, 3, none⟩ = some (.int .i64 k) := by simp [World.cell?, hbx]
                   have y4 : w1.cell? ⟨w.heap.size, 4, none⟩ = some (.bool false) := by simp [World.cell?, hbx]
                   have y5 : w1.cell? ⟨w.heap.size, 5, none⟩ = some (.bool false) := by simp [World.cell?, hbx]
                   have y6 : w1.cell? ⟨w.heap.size, 6, none⟩ = some (.bool false) := by simp [World.cell?, hbx]
                   have hl1 : w.heap.size < w1.heap.size := heap_lt hbx
                   have HV := Lib.hid hv
                   have HVN : Hid (∀ b, (Value.slice va l.length vcap).ownBlock = some b → w.heap.size ≤ b) := Lib.hid (fun b hb => by have := hvn b hb; simp at this; omega)
                   have hk3 : (k : Int) ≤ (vcap : Int) := by omega
                   have hk4 : k ≤ vcap := by omega
                   clear hv hbx hvn)
      go_loopg [50] k (fun g s50 wr => ∃ i : Nat, s50 = .int .i64 i ∧ i + g = k ∧ w1 = wr)
      case atStart => exact ⟨0, rfl, by omega, rfl⟩
      case round =>
        obtain ⟨i, rfl, hi, rfl⟩ := hrel
        cases gk with
        | zero =>
          have hil : ¬ (i : Int) < ((k : Nat) : Int) := by omega
          go_wp2
          go_ret3
          exact ⟨_, rfl, HV.out.take kvC_length k hk1, hf2, fun b hb => HVN.out b (by cases va <;> exact hb)⟩
        | succ g =>
          have hil : (i : Int) < ((k : Nat) : Int) := by omega
          go_wp2
          go_roundg g
          case rel => exact ⟨i + 1, by go_num, by omega, rfl⟩
          case measure => omega
  · skip
    rcases hcase with rfl | ⟨rfl, h1⟩ | ⟨rfl, h1, h2⟩ | ⟨rfl, h1, h2⟩
    · simp only [Bool.not_true, Bool.false_and, if_true]
      go_enter Try.func66, Try.ntmps66
      go_wp2_with (go_at_call 77; refine (HB.out _ (HS.out.fr0 hT ((Fr.refl No w).alloc _))).mono ?_; rintro e w1 ⟨v, rfl, hv, hf1, hvn⟩; obtain ⟨va, vcap, rfl, hc1, hc2, hva⟩ := hv.shape
                   have hf2 : Fr No w w1 := ((Fr.refl No w).alloc _).trans0 hf1
                   have hbx := hf1.heap (alloc_at w (Obj.cells #[.string g1, .string g2, .int .i64 rv, .int .i64 g4, .bool false, .bool true, .bool false] 38) _ rfl) id
                   have y3 : w1.cell? ⟨w.heap.size, 3, none⟩ = some (.int .i64 g4) := by simp [World.cell?, hbx]
                   have y4 : w1.cell? ⟨w.heap.size, 4, none⟩ = some (.bool false) := by simp [World.cell?, hbx]
                   have y5 : w1.cell? ⟨w.heap.size, 5, none⟩ = some (.bool true) := by simp [World.cell?, hbx]
                   have y6 : w1.cell? ⟨w.heap.size, 6, none⟩ = some (.bool false) := by simp [World.cell?, hbx]
                   have hl1 : w.heap.size < w1.heap.size := heap_lt hbx
                   have HV := Lib.hid hv
                   have HVN : Hid (∀ b, (Value.slice va l.length vcap).ownBlock = some b → w.heap.size ≤ b) := Lib.hid (fun b hb => by have := hvn b hb; simp at this; omega)
                   clear hv hbx hvn)
      go_ret3
      exact ⟨_, rfl, SlF.nil _ _ _ _, hf2, by simp [Value.ownBlock]⟩
    · have hd : decide (0 < g4) = false := by simpa using h1
      rw [hd]
      simp only [Bool.not_false, Bool.true_and, Bool.false_and, if_false, Bool.false_eq_true]
      go_enter Try.func66, Try.ntmps66
      go_wp2_with (go_at_call 77; refine (HB.out _ (HS.out.fr0 hT ((Fr.refl No w).alloc _))).mono ?_; rintro e w1 ⟨v, rfl, hv, hf1, hvn⟩; obtain ⟨va, vcap, rfl, hc1, hc2, hva⟩ := hv.shape
                   have hf2 : Fr No w w1 := ((Fr.refl No w).alloc _).trans0 hf1
                   have hbx := hf1.heap (alloc_at w (Obj.cells #[.string g1, .string g2, .int .i64 rv, .int .i64 g4, .bool false, .bool false, .bool false] 38) _ rfl) id
                   have y3 : w1.cell? ⟨w.heap.size, 3, none⟩ = some (.int .i64 g4) := by simp [World.cell?, hbx]
                   have y4 : w1.cell? ⟨w.heap.size, 4, none⟩ = some (.bool false) := by simp [World.cell?, hbx]
                   have y5 : w1.cell? ⟨w.heap.size, 5, none⟩ = some (.bool false) := by simp [World.cell?, hbx]
                   have y6 : w1.cell? ⟨w.heap.size, 6, none⟩ = some (.bool false) := by simp [World.cell?, hbx]
                   have hl1 : w.heap.size < w1.heap.size := heap_lt hbx
                   have HV := Lib.hid hv
                   have HVN : Hid (∀ b, (Value.slice va l.length vcap).ownBlock = some b → w.heap.size ≤ b) := Lib.hid (fun b hb => by have := hvn b hb; simp at this; omega)
                   clear hv hbx hvn)
      go_loopg [50] l.length (fun g s50 wr => ∃ i : Nat, s50 = .int .i64 i ∧ i + g = l.length ∧ w1 = wr)
      case atStart => exact ⟨0, rfl, by omega, rfl⟩
      case round =>
        obtain ⟨i, rfl, hi, rfl⟩ := hrel
        cases gk with
        | zero =>
          have hil : ¬ (i : Int) < ((l.length : Nat) : Int) := by omega
          go_wp2
          go_ret3
          exact ⟨_, rfl, HV.out, hf2, HVN.out⟩
        | succ g =>
          have hil : (i : Int) < ((l.length : Nat) : Int) := by omega
          go_wp2
          go_roundg g
          case rel => exact ⟨i + 1, by go_num, by omega, rfl⟩
          case measure => omega
    · have hd : decide (g4 < (l.length : Int)) = false := by simpa using h2
      rw [hd]
      simp only [Bool.and_false, if_false, Bool.false_eq_true]
      go_enter Try.func66, Try.ntmps66
      go_wp2_with (go_at_call 77; refine (HB.out _ (HS.out.fr0 hT ((Fr.refl No w).alloc _))).mono ?_; rintro e w1 ⟨v, rfl, hv, hf1, hvn⟩; obtain ⟨va, vcap, rfl, hc1, hc2, hva⟩ := hv.shape
                   have hf2 : Fr No w w1 := ((Fr.refl No w).alloc _).trans0 hf1
                   have hbx := hf1.heap (alloc_at w (Obj.cells #[.string g1, .string g2, .int .i64 rv, .int .i64 g4, .bool false, .bool false, .bool false] 38) _ rfl) id
                   have y3 : w1.cell? ⟨w.heap.size, 3, none⟩ = some (.int .i64 g4) := by simp [World.cell?, hbx]
                   have y4 : w1.cell? ⟨w.heap.size, 4, none⟩ = some (.bool false) := by simp [World.cell?, hbx]
                   have y5 : w1.cell? ⟨w.heap.size, 5, none⟩ = some (.bool false) := by simp [World.cell?, hbx]
                   have y6 : w1.cell? ⟨w.heap.size, 6, none⟩ = some (.bool false) := by simp [World.cell?, hbx]
                   have hl1 : w.heap.size < w1.heap.size := heap_lt hbx
                   have HV := Lib.hid hv
                   have HVN : Hid (∀ b, (Value.slice va l.length vcap).ownBlock = some b → w.heap.size ≤ b) := Lib.hid (fun b hb => by have := hvn b hb; simp at this; omega)
                   clear hv hbx hvn)
      go_loopg [50] l.length (fun g s50 wr => ∃ i : Nat, s50 = .int .i64 i ∧ i + g = l.length ∧ w1 = wr)
      case atStart => exact ⟨0, rfl, by omega, rfl⟩
      case round =>
        obtain ⟨i, rfl, hi, rfl⟩ := hrel
        cases gk with
        | zero =>
          have hil : ¬ (i : Int) < ((l.length : Nat) : Int) := by omega
          go_wp2
          go_ret3
          exact ⟨_, rfl, HV.out, hf2, HVN.out⟩
        | succ g =>
          have hil : (i : Int) < ((l.length : Nat) : Int) := by omega
          go_wp2
          go_roundg g
          case rel => exact ⟨i + 1, by go_num, by omega, rfl⟩
          case measure => omega
    · obtain ⟨k, rfl⟩ : ∃ k : Nat, g4 = k := ⟨g4.toNat, by omega⟩
      have hk1 : k ≤ l.length := by omega
      have hd1 : decide (0 < (k : Int)) = true := by simpa using h1
      have hd2 : decide ((k : Int) < (l.length : Int)) = true := by simpa using h2
      rw [hd1, hd2]
      simp only [Bool.not_false, Bool.true_and, if_true, if_false, Bool.false_eq_true, Int.toNat_natCast]
      go_enter Try.func66, Try.ntmps66
      go_wp2_with (go_at_call 77; refine (HB.out _ (HS.out.fr0 hT ((Fr.refl No w).alloc _))).mono ?_; rintro e w1 ⟨v, rfl, hv, hf1, hvn⟩; obtain ⟨va, vcap, rfl, hc1, hc2, hva⟩ := hv.shape
                   have hf2 : Fr No w w1 := ((Fr.refl No w).alloc _).trans0 hf1
                   have hbx := hf1.heap (alloc_at w (Obj.cells #[.string g1, .string g2, .int .i64 rv, .int .i64 k, .bool false, .bool false, .bool false] 38) _ rfl) id
                   have y3 : w1.cell? ⟨w.heap.size, 3, none⟩ = some (.int .i64 k) := by simp [World.cell?, hbx]
                   have y4 : w1.cell? ⟨w.heap.size, 4, none⟩ = some (.bool false) := by simp [World.cell?, hbx]
                   have y5 : w1.cell? ⟨w.heap.size, 5, none⟩ = some (.bool false) := by simp [World.cell?, hbx]
                   have y6 : w1.cell? ⟨w.heap.size, 6, none⟩ = some (.bool false) := by simp [World.cell?, hbx]
                   have hl1 : w.heap.size < w1.heap.size := heap_lt hbx
                   have HV := Lib.hid hv
                   have HVN : Hid (∀ b, (Value.slice va l.length vcap).ownBlock = some b → w.heap.size ≤ b) := Lib.hid (fun b hb => by have := hvn b hb; simp at this; omega)
                   have hk3 : (k : Int) ≤ (vcap : Int) := by omega
                   have hk4 : k ≤ vcap := by omega
                   clear hv hbx hvn)
      go_loopg [50] k (fun g s50 wr => ∃ i : Nat, s50 = .int .i64 i ∧ i + g = k ∧ w1 = wr)
      case atStart => exact ⟨0, rfl, by omega, rfl⟩
      case round =>
        obtain ⟨i, rfl, hi, rfl⟩ := hrel
        cases gk with
        | zero =>
          have hil : ¬ (i : Int) < ((k : Nat) : Int) := by omega
          go_wp2
          go_ret3
          exact ⟨_, rfl, HV.out.take kvC_length k hk1, hf2, fun b hb => HVN.out b (by cases va <;> exact hb)⟩
        | succ g =>
          have hil : (i : Int) < ((k : Nat) : Int) := by omega
          go_wp2
          go_roundg g
          case rel => exact ⟨i + 1, by go_num, by omega, rfl⟩
          case measure => omega
end Go.Proofs.Ythljnnjpmdgkoaa
