/- The store's 'putting': the event of a put. The condition: histories are small (HistOk); versions have room. -/
import Derived.Test.YthljnnjpmdgkoaaPut
import Derived.Test.YthljnnjpmdgkoaaAsks
namespace Go.Proofs.Ythljnnjpmdgkoaa
open Go Go.Proofs Go.RowKit
set_option maxRecDepth 100000

/-- Thirteen cells that are stored into a result's own block, and the block read again. -/
theorem ev_stored {w X : World} {b : Nat} {a0 a1 a2 a3 a4 a5 a6 a7 a8 a9 a10 a11 a12 : Value} (hk : X.heap[b]? = some (.cells #[a0, a1, a2, a3, a4, a5, a6, a7, a8, a9, a10, a11, a12] 73 (0, 0))) (r : Ev) :
    ∃ Z, (((((((((((((X.setCell ⟨b, 0, none⟩ (.int .i64 r.kind)).setCell ⟨b, 1, none⟩ (.string r.kv.key)).setCell ⟨b, 2, none⟩ (.string r.kv.value)).setCell ⟨b, 3, none⟩ (.int .i64 r.kv.create)).setCell ⟨b, 4, none⟩ (.int .i64 r.kv.mod)).setCell ⟨b, 5, none⟩ (.int .i64 r.kv.version)).setCell ⟨b, 6, none⟩ (.int .i64 r.kv.lease)).setCell ⟨b, 7, none⟩ (.string r.prev.key)).setCell ⟨b, 8, none⟩ (.string r.prev.value)).setCell ⟨b, 9, none⟩ (.int .i64 r.prev.create)).setCell ⟨b, 10, none⟩ (.int .i64 r.prev.mod)).setCell ⟨b, 11, none⟩ (.int .i64 r.prev.version)).setCell ⟨b, 12, none⟩ (.int .i64 r.prev.lease)) = Z ∧
      Z.heap[b]? = some (.cells #[.int .i64 r.kind, .string r.kv.key, .string r.kv.value, .int .i64 r.kv.create, .int .i64 r.kv.mod, .int .i64 r.kv.version, .int .i64 r.kv.lease, .string r.prev.key, .string r.prev.value, .int .i64 r.prev.create, .int .i64 r.prev.mod, .int .i64 r.prev.version, .int .i64 r.prev.lease] 73 (0, 0)) ∧ (Fr No w X → w.heap.size ≤ b → Fr No w Z) := by
  have z0 := heap_setCell_same hk 0 (.int .i64 r.kind)
  have z1 := heap_setCell_same z0 1 (.string r.kv.key)
  have z2 := heap_setCell_same z1 2 (.string r.kv.value)
  have z3 := heap_setCell_same z2 3 (.int .i64 r.kv.create)
  have z4 := heap_setCell_same z3 4 (.int .i64 r.kv.mod)
  have z5 := heap_setCell_same z4 5 (.int .i64 r.kv.version)
  have z6 := heap_setCell_same z5 6 (.int .i64 r.kv.lease)
  have z7 := heap_setCell_same z6 7 (.string r.prev.key)
  have z8 := heap_setCell_same z7 8 (.string r.prev.value)
  have z9 := heap_setCell_same z8 9 (.int .i64 r.prev.create)
  have z10 := heap_setCell_same z9 10 (.int .i64 r.prev.mod)
  have z11 := heap_setCell_same z10 11 (.int .i64 r.prev.version)
  have z12 := heap_setCell_same z11 12 (.int .i64 r.prev.lease)
  have hfZ := ((((((((((((((Fr.refl (fun x => x = b) X).setAt 0 (.int .i64 r.kind)).setAt 1 (.string r.kv.key)).setAt 2 (.string r.kv.value)).setAt 3 (.int .i64 r.kv.create)).setAt 4 (.int .i64 r.kv.mod)).setAt 5 (.int .i64 r.kv.version)).setAt 6 (.int .i64 r.kv.lease)).setAt 7 (.string r.prev.key)).setAt 8 (.string r.prev.value)).setAt 9 (.int .i64 r.prev.create)).setAt 10 (.int .i64 r.prev.mod)).setAt 11 (.int .i64 r.prev.version)).setAt 12 (.int .i64 r.prev.lease))
  clear z0 z1 z2 z3 z4 z5 z6 z7 z8 z9 z10 z11
  generalize (((((((((((((X.setCell ⟨b, 0, none⟩ (.int .i64 r.kind)).setCell ⟨b, 1, none⟩ (.string r.kv.key)).setCell ⟨b, 2, none⟩ (.string r.kv.value)).setCell ⟨b, 3, none⟩ (.int .i64 r.kv.create)).setCell ⟨b, 4, none⟩ (.int .i64 r.kv.mod)).setCell ⟨b, 5, none⟩ (.int .i64 r.kv.version)).setCell ⟨b, 6, none⟩ (.int .i64 r.kv.lease)).setCell ⟨b, 7, none⟩ (.string r.prev.key)).setCell ⟨b, 8, none⟩ (.string r.prev.value)).setCell ⟨b, 9, none⟩ (.int .i64 r.prev.create)).setCell ⟨b, 10, none⟩ (.int .i64 r.prev.mod)).setCell ⟨b, 11, none⟩ (.int .i64 r.prev.version)).setCell ⟨b, 12, none⟩ (.int .i64 r.prev.lease)) = Z at *
  refine ⟨Z, rfl, ?_, fun hf hb => hf.trans hfZ fun j hj e => ?_⟩
  · rw [z12]; simp
  · have e' : j = b := e
    omega

/-- The event of a put. -/
def puttingS (S : St) (o : Opr) (rev : Int) : Ev :=
  ⟨1, ⟨o.rg.key, o.value, if (livesS S o.rg.key rev).1.version = 0 then rev else (livesS S o.rg.key rev).1.create, rev, (livesS S o.rg.key rev).1.version + 1, o.lease⟩, (livesS S o.rg.key rev).1⟩

set_option maxHeartbeats 2000000 in
theorem putting_calls {TA : TreeRel} {N : Nat} (hT : TreeOk TA N) {n : Nat} (hn : n ≤ 1099511627) (w : World) (s : Nat) (S : St) (F : Nat → Prop) (hS : StoreAt TA w s S F) (hok : StOk n S) (o : Opr) (rev : Int)
    (hv0 : 0 ≤ (livesS S o.rg.key rev).1.version) (hv1 : (livesS S o.rg.key rev).1.version ≤ top) :
    Calls Try.prog 76 #[.pointer (some ⟨s, 0, none⟩), opV o, .int .i64 rev] w fun e w' => e = .returned (evV (puttingS S o rev)) ∧ Fr No w w' := by
  have hl := fun W hW => lives_calls hT hn W s S F hW hok o.rg.key rev
  obtain ⟨o1, ⟨g1, g2, g3, g4, g5, g6, g7⟩, o2, o3⟩ := o
  have HS := Lib.hid hS
  have HL := Lib.hid hl
  unfold puttingS opV
  dsimp only at *
  rcases hr : livesS S g1 rev with ⟨⟨r1, r2, r3, r4, r5, r6⟩, rb⟩
  rw [hr] at hv0 hv1
  unfold top at hv1
  have HR := Lib.hid hr
  clear hS hl hr hok
  dsimp only at *
  have hv2 : r5 + 1 ≤ 1099511627777 := by omega
  by_cases hz : r5 = 0
  · subst hz
    go_enter Try.func76, Try.ntmps76
    go_wp2_with (go_at_call 79; refine (HL.out _ ((HS.out.fr0 hT ((Fr.refl No w).alloc _)).fr0 hT ((Fr.refl No _).alloc _))).mono ?_; rintro e w1 ⟨rfl, hf1⟩
                 rw [HR.out]; unfold kvTuple kvV
                 have hf2 : Fr No w w1 := (((Fr.refl No w).alloc _).alloc _).trans0 hf1
                 have hb : w1.heap[w.heap.size]? = some (.cells #[.int .i64 o1, .string g1, .string g2, .int .i64 g3, .int .i64 g4, .bool g5, .bool g6, .bool g7, .string o2, .int .i64 o3] 87 (0, 0)) := hf1.heap (alloc_old (alloc_at _ _ _ rfl) _) id
                 have he : w1.heap[w.heap.size + 1]? = some (.cells #[.int .i64 0, .string ByteArray.empty, .string ByteArray.empty, .int .i64 0, .int .i64 0, .int .i64 0, .int .i64 0, .string ByteArray.empty, .string ByteArray.empty, .int .i64 0, .int .i64 0, .int .i64 0, .int .i64 0] 73 (0, 0)) := hf1.heap (alloc_at _ _ _ (by simp)) id
                 have x1 : w1.cell? ⟨w.heap.size, 1, none⟩ = some (.string g1) := by simp [World.cell?, hb]
                 have x8 : w1.cell? ⟨w.heap.size, 8, none⟩ = some (.string o2) := by simp [World.cell?, hb]
                 have x9 : w1.cell? ⟨w.heap.size, 9, none⟩ = some (.int .i64 o3) := by simp [World.cell?, hb]
                 have k0 : w1.cell? ⟨w.heap.size + 1, 0, none⟩ = some (.int .i64 0) := by simp [World.cell?, he]
                 have k1 : w1.cell? ⟨w.heap.size + 1, 1, none⟩ = some (.string ByteArray.empty) := by simp [World.cell?, he]
                 have k2 : w1.cell? ⟨w.heap.size + 1, 2, none⟩ = some (.string ByteArray.empty) := by simp [World.cell?, he]
                 have k3 : w1.cell? ⟨w.heap.size + 1, 3, none⟩ = some (.int .i64 0) := by simp [World.cell?, he]
                 have k4 : w1.cell? ⟨w.heap.size + 1, 4, none⟩ = some (.int .i64 0) := by simp [World.cell?, he]
                 have k5 : w1.cell? ⟨w.heap.size + 1, 5, none⟩ = some (.int .i64 0) := by simp [World.cell?, he]
                 have k6 : w1.cell? ⟨w.heap.size + 1, 6, none⟩ = some (.int .i64 0) := by simp [World.cell?, he]
                 have k7 : w1.cell? ⟨w.heap.size + 1, 7, none⟩ = some (.string ByteArray.empty) := by simp [World.cell?, he]
                 have k8 : w1.cell? ⟨w.heap.size + 1, 8, none⟩ = some (.string ByteArray.empty) := by simp [World.cell?, he]
                 have k9 : w1.cell? ⟨w.heap.size + 1, 9, none⟩ = some (.int .i64 0) := by simp [World.cell?, he]
                 have k10 : w1.cell? ⟨w.heap.size + 1, 10, none⟩ = some (.int .i64 0) := by simp [World.cell?, he]
                 have k11 : w1.cell? ⟨w.heap.size + 1, 11, none⟩ = some (.int .i64 0) := by simp [World.cell?, he]
                 have k12 : w1.cell? ⟨w.heap.size + 1, 12, none⟩ = some (.int .i64 0) := by simp [World.cell?, he]
                 have kf : ∀ i, w1.frozen? ⟨w.heap.size + 1, i, none⟩ = false := fun i => by simp [World.frozen?, he]
                 have hl0 : w.heap.size < w1.heap.size := heap_lt hb
                 have hl1 : w.heap.size + 1 < w1.heap.size := heap_lt he)
    obtain ⟨Z, hZ, z6, hzf⟩ := ev_stored (w := w) he ⟨1, ⟨g1, o2, rev, rev, 1, o3⟩, ⟨r1, r2, r3, r4, 0, r6⟩⟩
    dsimp only at hZ z6
    rw [hZ]
    exact bodyPost_ret (results_cell_row rfl _ _ (w.heap.size + 1) 73 _ (0, 0) _ rfl (alloc_old (alloc_old z6 _) _) Try.underlying73 rfl (by kernel_rfl)) rfl ⟨by first | rfl | (rw [if_neg hz]; rfl), ((hzf hf2 (by omega)).alloc _).alloc _⟩
  · have hz' : (r5 == 0) = false := by simpa using hz
    go_enter Try.func76, Try.ntmps76
    go_wp2_with (go_at_call 79; refine (HL.out _ ((HS.out.fr0 hT ((Fr.refl No w).alloc _)).fr0 hT ((Fr.refl No _).alloc _))).mono ?_; rintro e w1 ⟨rfl, hf1⟩
                 rw [HR.out]; unfold kvTuple kvV
                 have hf2 : Fr No w w1 := (((Fr.refl No w).alloc _).alloc _).trans0 hf1
                 have hb : w1.heap[w.heap.size]? = some (.cells #[.int .i64 o1, .string g1, .string g2, .int .i64 g3, .int .i64 g4, .bool g5, .bool g6, .bool g7, .string o2, .int .i64 o3] 87 (0, 0)) := hf1.heap (alloc_old (alloc_at _ _ _ rfl) _) id
                 have he : w1.heap[w.heap.size + 1]? = some (.cells #[.int .i64 0, .string ByteArray.empty, .string ByteArray.empty, .int .i64 0, .int .i64 0, .int .i64 0, .int .i64 0, .string ByteArray.empty, .string ByteArray.empty, .int .i64 0, .int .i64 0, .int .i64 0, .int .i64 0] 73 (0, 0)) := hf1.heap (alloc_at _ _ _ (by simp)) id
                 have x1 : w1.cell? ⟨w.heap.size, 1, none⟩ = some (.string g1) := by simp [World.cell?, hb]
                 have x8 : w1.cell? ⟨w.heap.size, 8, none⟩ = some (.string o2) := by simp [World.cell?, hb]
                 have x9 : w1.cell? ⟨w.heap.size, 9, none⟩ = some (.int .i64 o3) := by simp [World.cell?, hb]
                 have k0 : w1.cell? ⟨w.heap.size + 1, 0, none⟩ = some (.int .i64 0) := by simp [World.cell?, he]
                 have k1 : w1.cell? ⟨w.heap.size + 1, 1, none⟩ = some (.string ByteArray.empty) := by simp [World.cell?, he]
                 have k2 : w1.cell? ⟨w.heap.size + 1, 2, none⟩ = some (.string ByteArray.empty) := by simp [World.cell?, he]
                 have k3 : w1.cell? ⟨w.heap.size + 1, 3, none⟩ = some (.int .i64 0) := by simp [World.cell?, he]
                 have k4 : w1.cell? ⟨w.heap.size + 1, 4, none⟩ = some (.int .i64 0) := by simp [World.cell?, he]
                 have k5 : w1.cell? ⟨w.heap.size + 1, 5, none⟩ = some (.int .i64 0) := by simp [World.cell?, he]
                 have k6 : w1.cell? ⟨w.heap.size + 1, 6, none⟩ = some (.int .i64 0) := by simp [World.cell?, he]
                 have k7 : w1.cell? ⟨w.heap.size + 1, 7, none⟩ = some (.string ByteArray.empty) := by simp [World.cell?, he]
                 have k8 : w1.cell? ⟨w.heap.size + 1, 8, none⟩ = some (.string ByteArray.empty) := by simp [World.cell?, he]
                 have k9 : w1.cell? ⟨w.heap.size + 1, 9, none⟩ = some (.int .i64 0) := by simp [World.cell?, he]
                 have k10 : w1.cell? ⟨w.heap.size + 1, 10, none⟩ = some (.int .i64 0) := by simp [World.cell?, he]
                 have k11 : w1.cell? ⟨w.heap.size + 1, 11, none⟩ = some (.int .i64 0) := by simp [World.cell?, he]
                 have k12 : w1.cell? ⟨w.heap.size + 1, 12, none⟩ = some (.int .i64 0) := by simp [World.cell?, he]
                 have kf : ∀ i, w1.frozen? ⟨w.heap.size + 1, i, none⟩ = false := fun i => by simp [World.frozen?, he]
                 have hl0 : w.heap.size < w1.heap.size := heap_lt hb
                 have hl1 : w.heap.size + 1 < w1.heap.size := heap_lt he)
    obtain ⟨Z, hZ, z6, hzf⟩ := ev_stored (w := w) he ⟨1, ⟨g1, o2, r3, rev, r5 + 1, o3⟩, ⟨r1, r2, r3, r4, r5, r6⟩⟩
    dsimp only at hZ z6
    rw [hZ]
    exact bodyPost_ret (results_cell_row rfl _ _ (w.heap.size + 1) 73 _ (0, 0) _ rfl (alloc_old (alloc_old z6 _) _) Try.underlying73 rfl (by kernel_rfl)) rfl ⟨by first | rfl | (rw [if_neg hz]; rfl), ((hzf hf2 (by omega)).alloc _).alloc _⟩
end Go.Proofs.Ythljnnjpmdgkoaa
