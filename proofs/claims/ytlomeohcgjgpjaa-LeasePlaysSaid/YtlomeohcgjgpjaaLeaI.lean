/- The queue's methods Push and Pop. The condition: the queue lies in the table's cell. -/
import Derived.Test.YtlomeohcgjgpjaaLeaH
import Derived.Test.YtlomeohcgjgpjaaLib4
namespace Go.Proofs.Ytlomeohcgjgpjaa
open Go Go.Proofs Go.RowKit
set_option maxRecDepth 100000

/-- The queue of the table in the block t. -/
structure QAt (w : World) (t : Nat) (a0 a1 a2 qv : Value) (q : List Ent) : Prop where
  obj : Has w t [a0, a1, a2, qv]
  sl : SlF w 82 2 entC qv q
  d : qv.ownBlock ≠ some t
/-- Behind a call that changed the queue alone. -/
def QOut (w w' : World) (t : Nat) (a0 a1 a2 qv : Value) (q' : List Ent) : Prop :=
  ∃ qv', QAt w' t a0 a1 a2 qv' q' ∧ Fr (fun b => b = t ∨ qv.ownBlock = some b) w w' ∧ ∀ b, qv'.ownBlock = some b → qv.ownBlock = some b ∨ w.heap.size ≤ b
theorem QAt.fr {w w' : World} {t : Nat} {a0 a1 a2 qv : Value} {q : List Ent} {S : Nat → Prop} (h : QAt w t a0 a1 a2 qv q) (hf : Fr S w w') (h1 : ¬ S t) (h2 : ∀ b, qv.ownBlock = some b → ¬ S b) : QAt w' t a0 a1 a2 qv q :=
  ⟨h.obj.fr hf h1, h.sl.fr hf h2, h.d⟩
theorem QAt.out {w : World} {t : Nat} {a0 a1 a2 qv : Value} {q : List Ent} (h : QAt w t a0 a1 a2 qv q) : QOut w w t a0 a1 a2 qv q := ⟨qv, h, Fr.refl _ _, fun _ h => .inl h⟩
theorem QAt.fr0 {w w' : World} {t : Nat} {a0 a1 a2 qv : Value} {q : List Ent} (h : QAt w t a0 a1 a2 qv q) (hf : Fr No w w') : QAt w' t a0 a1 a2 qv q := h.fr hf id fun _ _ h => h
theorem QOut.after {w w1 w2 : World} {t : Nat} {a0 a1 a2 qv : Value} {q' : List Ent} (hf : Fr No w w1) (h : QOut w1 w2 t a0 a1 a2 qv q') : QOut w w2 t a0 a1 a2 qv q' := by
  obtain ⟨qv', h1, h2, h3⟩ := h
  have hs := hf.size
  exact ⟨qv', h1, (hf.mono fun _ _ s => s.elim).trans h2 fun _ _ s => s, fun b hb => (h3 b hb).imp id fun h => by omega⟩
theorem QOut.trans {w w1 w2 : World} {t : Nat} {a0 a1 a2 qv qv1 : Value} {q' : List Ent} (hf : Fr (fun b => b = t ∨ qv.ownBlock = some b) w w1) (hn : ∀ b, qv1.ownBlock = some b → qv.ownBlock = some b ∨ w.heap.size ≤ b) (h : QOut w1 w2 t a0 a1 a2 qv1 q') : QOut w w2 t a0 a1 a2 qv q' := by
  obtain ⟨qv', h1, h2, h3⟩ := h
  have hs := hf.size
  refine ⟨qv', h1, hf.trans h2 fun j hj s => s.imp id fun s => ?_, fun b hb => ?_⟩
  · rcases hn j s with h | h
    · exact h
    · omega
  · rcases h3 b hb with h | h
    · exact hn b h
    · exact .inr (by omega)
theorem QAt.stored {W w4 : World} {t : Nat} {a0 a1 a2 qv qv' : Value} {q q' : List Ent} (H : QAt W t a0 a1 a2 qv q) (hf : Fr (fun k => qv.ownBlock = some k) W w4) (hs : SlF w4 82 2 entC qv' q')
    (hb : ∀ b, qv'.ownBlock = some b → qv.ownBlock = some b ∨ W.heap.size ≤ b) : QOut W (w4.setCell ⟨t, 3, none⟩ qv') t a0 a1 a2 qv q' := by
  have hn : qv'.ownBlock ≠ some t := fun e => by
    rcases hb t e with h | h
    · exact H.d h
    · have := H.obj.lt; omega
  exact ⟨qv', ⟨(H.obj.fr hf H.d).set 3 qv', hs.other _ _ hn, hn⟩, (hf.mono fun _ _ h => .inr h).setCell (p := ⟨t, 3, none⟩) (.inl (.inl rfl)) _, hb⟩
theorem QOut.then0 {w w1 w2 : World} {t : Nat} {a0 a1 a2 qv : Value} {q' : List Ent} (h : QOut w w1 t a0 a1 a2 qv q') (hf : Fr No w1 w2) : QOut w w2 t a0 a1 a2 qv q' := by
  obtain ⟨qv', h1, h2, h3⟩ := h
  exact ⟨qv', h1.fr0 hf, h2.trans0 hf, h3⟩
theorem own_grown {W : World} {qv : Value} {g o n cap : Nat} {X : Nat} (hx : W.heap.size ≤ X) (h : qv.ownBlock = some g ∨ g = X) : ∀ b, (Value.slice (some ⟨g, o, none⟩) n cap).ownBlock = some b → qv.ownBlock = some b ∨ W.heap.size ≤ b := by
  intro b hb
  obtain rfl : g = b := by simpa [Value.ownBlock] using hb
  exact h.imp id fun h => by omega
theorem info82 : (Try.prog.info? 82).map (fun i => (i.zero, i.size, i.bytes)) = some (some (.agg #[.int .i64 0, .int .i64 0]), 2, 16) := by kernel_rfl
theorem info_parts {P : Program} {t : TypeId} {z : Value} {n b : Nat} (h : (P.info? t).map (fun i => (i.zero, i.size, i.bytes)) = some (some z, n, b)) : ∃ i, P.info? t = some i ∧ i.zero = some z ∧ i.size = n ∧ i.bytes = b := by
  obtain ⟨i, hi, h2⟩ := Option.map_eq_some_iff.1 h
  simp only [Prod.mk.injEq] at h2
  exact ⟨i, hi, h2.1, h2.2.1, h2.2.2⟩
set_option maxHeartbeats 1000000 in
theorem qPush_calls (w : World) (t : Nat) (a0 a1 a2 qv : Value) (q : List Ent) (H : QAt w t a0 a1 a2 qv q) (hl : q.length ≤ 1099511627) (d i : Int) :
    Calls Try.prog 117 #[.pointer (some ⟨t, 3, none⟩), .iface 82 (.agg #[.int .i64 d, .int .i64 i])] w fun e w' => e = .returned (.tuple #[]) ∧ QOut w w' t a0 a1 a2 qv (q ++ [(d, i)]) := by
  have ha : ∀ W : World, (Instr.typeAssert (.iface 82 (.agg #[.int .i64 d, .int .i64 i])) 20 82 true).run Try.prog W = .ok (.tuple #[.agg #[.int .i64 d, .int .i64 i], .bool true]) W := fun W => by kernel_rfl
  have c3 := H.obj.cell 3 rfl
  have f3 := H.obj.free 3
  have lt := H.obj.lt
  have HH := Lib.hid H
  clear H
  go_enter Try.func117, Try.ntmps117
  go_wp2_with fail
  have HW := Lib.hid (HH.out.fr0 ((Fr.refl No w).alloc (Obj.cells #[.int .i64 d, .int .i64 i] 82)))
  have hfw : Fr No w (w.alloc (Obj.cells #[.int .i64 d, .int .i64 i] 82)) := (Fr.refl No w).alloc _
  have hb0 : (w.alloc (Obj.cells #[.int .i64 d, .int .i64 i] 82)).heap[w.heap.size]? = some (.cells #[.int .i64 d, .int .i64 i] 82 (0, 0)) := alloc_at _ _ _ rfl
  generalize w.alloc (Obj.cells #[.int .i64 d, .int .i64 i] 82) = W at *
  obtain ⟨x0, x1⟩ : W.cell? ⟨w.heap.size, 0, none⟩ = some (.int .i64 d) ∧ W.cell? ⟨w.heap.size, 1, none⟩ = some (.int .i64 i) := ⟨cellAt hb0 0 rfl, cellAt hb0 1 rfl⟩
  have lb := heap_lt hb0
  have ltW : t < W.heap.size := Nat.lt_of_lt_of_le lt hfw.size
  have c3W := HW.out.obj.cell 3 rfl
  have f3W := HW.out.obj.free 3
  have hnew := cells_new W.drew [.int .i64 d, .int .i64 i] 82 (0, 0)
  obtain ⟨j0, hj0, hy0, hy1, hy2⟩ := info_parts info82
  have HB0 := Lib.hid hb0
  have HFW := Lib.hid hfw
  clear hb0 hfw
  go_region_law (refine step_append_f rfl _ _ 66 rfl 82 j0 _ 2 16 Try.underlying66 hj0 hy0 hy1 hy2 rfl (by decide) _ q rfl (HW.out.sl.fr0 ((Fr.refl No W).drew.alloc _)) W.heap.size 1 (d, i) rfl hnew rfl (by intro u hu; simp [entC] at hu; rcases hu with rfl | rfl <;> rfl) (by unfold maxLen; omega) (by omega) ?_; intro g2 o2 cap2 w4 hs4 hg4 hb4 hlt4; have hf4 : Fr (fun k => qv.ownBlock = some k) W w4 := ((Fr.refl _ W).drew.alloc _).grown hg4 (fun k hk => .inl hk); have b1 := hf4.cell c3W HW.out.d; have bf := hf4.free c3W f3W HW.out.d; have HS4 := Lib.hid hs4; have HB4 := Lib.hid hb4; have HF4 := Lib.hid hf4; clear hs4 hg4 hb4 hf4)
  all_goals
    go_wp2
    refine bodyPost_end (results_none rfl _ _ _) rfl ?_
    exact ⟨rfl, ((HW.out.stored HF4.out HS4.out (own_grown (X := W.heap.size + 1) (by omega) (HB4.out.imp id fun h => by simpa using h))).after HFW.out)⟩
set_option maxHeartbeats 1000000 in
theorem qPop_calls (w : World) (t : Nat) (a0 a1 a2 qv : Value) (q : List Ent) (H : QAt w t a0 a1 a2 qv q) (hl : q.length ≤ 1099511627) (n : Nat) (hn : q.length = n + 1) (x : Ent) (hx : q[n]? = some x) :
    Calls Try.prog 116 #[.pointer (some ⟨t, 3, none⟩)] w fun e w' => e = .returned (.iface 82 (.agg #[.int .i64 x.1, .int .i64 x.2])) ∧ QOut w w' t a0 a1 a2 qv (q.take n) := by
  have c3 := H.obj.cell 3 rfl
  have f3 := H.obj.free 3
  have lt := H.obj.lt
  obtain ⟨a, cap, rfl, h1, h2, h3⟩ := H.sl.shape
  obtain ⟨g, o, rfl⟩ := h3 (by omega)
  obtain ⟨d1, d2⟩ := H.sl.cells2 entC_length n hx rfl
  have hlg := H.sl.lt g rfl
  have htk := H.sl.take entC_length n (by omega)
  have hqn := hn
  rw [hn] at c3 h1 H ⊢
  unfold maxLen at h2
  have e1 : IntKind.i64.wrap ((↑(n + 1) : Int) - 1) = n := by rw [show ((↑(n + 1) : Int) - 1) = n from by omega]; simp [IntKind.wrap, IntKind.bits, IntKind.signed]; omega
  have HH := Lib.hid H
  have HN := Lib.hid hn
  have HT := Lib.hid htk
  clear H hn hx h3 htk
  go_enter Try.func116, Try.ntmps116
  go_wp2_with fail
  go_region
  go_wp2_with fail
  have hfw : Fr No w (w.alloc (Obj.cells #[.int .i64 x.1, .int .i64 x.2] 82)).drew := ((Fr.refl No w).alloc _).drew
  have hb0 : (w.alloc (Obj.cells #[.int .i64 x.1, .int .i64 x.2] 82)).drew.heap[w.heap.size]? = some (.cells #[.int .i64 x.1, .int .i64 x.2] 82 (0, 0)) := alloc_at _ _ _ rfl
  generalize (w.alloc (Obj.cells #[.int .i64 x.1, .int .i64 x.2] 82)).drew = W at *
  have HW := Lib.hid (HH.out.fr0 hfw)
  have HTW := Lib.hid (HT.out.fr0 hfw)
  obtain ⟨x0, x1⟩ : W.cell? ⟨w.heap.size, 0, none⟩ = some (.int .i64 x.1) ∧ W.cell? ⟨w.heap.size, 1, none⟩ = some (.int .i64 x.2) := ⟨cellAt hb0 0 rfl, cellAt hb0 1 rfl⟩
  have lb := heap_lt hb0
  have ltW : t < W.heap.size := Nat.lt_of_lt_of_le lt hfw.size
  have c3W := HW.out.obj.cell 3 rfl
  have f3W := HW.out.obj.free 3
  have nt : ¬ w.heap.size = t := by omega
  have HFW := Lib.hid hfw
  clear hfw hb0 c3 f3 d1 d2
  go_region
  go_wp2
  go_ret
  have hso := HW.out.stored (Fr.refl _ W) HTW.out (fun b hb => .inl hb)
  exact ⟨rfl, (hso.then0 (Fr.refl No _).drew).after HFW.out⟩
end Go.Proofs.Ytlomeohcgjgpjaa
