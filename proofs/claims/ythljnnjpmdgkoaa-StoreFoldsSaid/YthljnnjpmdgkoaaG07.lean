/- The store's 'putting': the event of a put. The condition: histories are small (HistOk); versions have room. An own lemma: append of one element as a step of a region that draws its order. No condition but room. The store's 'do': an event is done, and kept. The condition: histories are small, the tree has room. The store's 'between': what the keys of a range have at a revision; nothing is changed. The condition: histories are small (HistOk). -/
import Derived.Test.YthljnnjpmdgkoaaG06
import Derived.Test.YthljnnjpmdgkoaaG00
import Derived.Test.YthljnnjpmdgkoaaG05
import Derived.Deep.RegionLaw
namespace Go.Proofs.Ythljnnjpmdgkoaa
open Go Go.Proofs Go.RowKit
set_option maxRecDepth 100000

/-- Thirteen cells that are stored into a result's own block, and the block read again. -/
theorem ev_stored {w X : World} {b : Nat} {a0 a1 a2 a3 a4 a5 a6 a7 a8 a9 a10 a11 a12 : Value} (hk : X.heap[b]? = some (.cells #[a0, a1, a2, a3, a4, a5, a6, a7, a8, a9, a10, a11, a12] 73 (0, 0))) (r : Ev) :
    ∃ Z, (((((((((((((X.setCell ⟨b, 0, none⟩ (.int .i64 r.kind)).setCell ⟨b, 1, none⟩ (.string r.kv.key)).setCell ⟨b, 2, none⟩ (.string r.kv.value)).setCell ⟨b, 3, none⟩ (.int .i64 r.kv.create)).setCell ⟨b, 4, none⟩ (.int .i64 r.kv.mod)).setCell ⟨b, 5, none⟩ (.int .i64 r.kv.version)).setCell ⟨b, 6, none⟩ (.int .i64 r.kv.lease)).setCell ⟨b, 7, none⟩ (.string r.prev.key)).setCell ⟨b, 8, none⟩ (.string r.prev.value)).setCell ⟨b, 9, none⟩ (.int .i64 r.prev.create)).setCell ⟨b, 10, none⟩ (.int .i64 r.prev.mod)).setCell ⟨b, 11, none⟩ (.int .i64 r.prev.version)).setCell ⟨b, 12, none⟩ (.int .i64 r.prev.lease)) = Z ∧
      Z.heap[b]? = some (.cells #[.int .i64 r.kind, .string r.kv.key, .string r.kv.value, .int .i64 r.kv.create, .int .i64 r.kv.mod, .int .i64 r.kv.version, .int .i64 r.kv.lease, .string r.prev.key, .string r.prev.value, .int .i64 r.prev.create, .int .i64 r.prev.mod, .int .i64 r.prev.version, .int .i64 r.prev.lease] 73 (0, 0)) ∧ (Fr No w X → w.heap.size ≤ b → Fr No w Z) := by
  have z0 := heap_setCell_same hk 0 (.int .i64 r.kind)
  have z1 := heap_setCell_same z0 1 (.string r.kv.key)
  have z2 := heap_setCell_same z1 2 (.string r.kv.value)
  have z3 := heap_setCell_same z2 3 (.int .i64 r.kv.create)
  have z4 := heap_setCell_same z3 4 (.int .i64 r.kv.mod)
  have z5 := heap_setCell_same z4 5 (.int .i64 r.kv.version)
  have z6 := heap_setCell_same z5 6 (.int .i64 r.kv.lease)
  have z7 := heap_setCell_same z6 7 (.string r.prev.key)
  have z8 := heap_setCell_same z7 8 (.string r.prev.value)
  have z9 := heap_setCell_same z8 9 (.int .i64 r.prev.create)
  have z10 := heap_setCell_same z9 10 (.int .i64 r.prev.mod)
  have z11 := heap_setCell_same z10 11 (.int .i64 r.prev.version)
  have z12 := heap_setCell_same z11 12 (.int .i64 r.prev.lease)
  have hfZ := ((((((((((((((Fr.refl (fun x => x = b) X).setAt 0 (.int .i64 r.kind)).setAt 1 (.string r.kv.key)).setAt 2 (.string r.kv.value)).setAt 3 (.int .i64 r.kv.create)).setAt 4 (.int .i64 r.kv.mod)).setAt 5 (.int .i64 r.kv.version)).setAt 6 (.int .i64 r.kv.lease)).setAt 7 (.string r.prev.key)).setAt 8 (.string r.prev.value)).setAt 9 (.int .i64 r.prev.create)).setAt 10 (.int .i64 r.prev.mod)).setAt 11 (.int .i64 r.prev.version)).setAt 12 (.int .i64 r.prev.lease))
  clear z0 z1 z2 z3 z4 z5 z6 z7 z8 z9 z10 z11
  generalize (((((((((((((X.setCell ⟨b, 0, none⟩ (.int .i64 r.kind)).setCell ⟨b, 1, none⟩ (.string r.kv.key)).setCell ⟨b, 2, none⟩ (.string r.kv.value)).setCell ⟨b, 3, none⟩ (.int .i64 r.kv.create)).setCell ⟨b, 4, none⟩ (.int .i64 r.kv.mod)).setCell ⟨b, 5, none⟩ (.int .i64 r.kv.version)).setCell ⟨b, 6, none⟩ (.int .i64 r.kv.lease)).setCell ⟨b, 7, none⟩ (.string r.prev.key)).setCell ⟨b, 8, none⟩ (.string r.prev.value)).setCell ⟨b, 9, none⟩ (.int .i64 r.prev.create)).setCell ⟨b, 10, none⟩ (.int .i64 r.prev.mod)).setCell ⟨b, 11, none⟩ (.int .i64 r.prev.version)).setCell ⟨b, 12, none⟩ (.int .i64 r.prev.lease)) = Z at *
  refine ⟨Z, rfl, ?_, fun hf hb => hf.trans hfZ fun j hj e => ?_⟩
  · rw [z12]; simp
  · have e' : j = b := e
    omega

/-- The event of a put. -/
def puttingS (S : St) (o : Opr) (rev : Int) : Ev :=
  ⟨1, ⟨o.rg.key, o.value, if (livesS S o.rg.key rev).1.version = 0 then rev else (livesS S o.rg.key rev).1.create, rev, (livesS S o.rg.key rev).1.version + 1, o.lease⟩, (livesS S o.rg.key rev).1⟩

set_option maxHeartbeats 2000000 in
theorem putting_calls {TA : TreeRel} {N : Nat} (hT : TreeOk TA N) {n : Nat} (hn : n ≤ 1099511627) (w : World) (s : Nat) (S : St) (F : Nat → Prop) (hS : StoreAt TA w s S F) (hok : StOk n S) (o : Opr) (rev : Int)
    (hv0 : 0 ≤ (livesS S o.rg.key rev).1.version) (hv1 : (livesS S o.rg.key rev).1.version ≤ top) :
    Calls Try.prog 76 #[.pointer (some ⟨s, 0, none⟩), opV o, .int .i64 rev] w fun e w' => e = .returned (evV (puttingS S o rev)) ∧ Fr No w w' := by
  have hl := fun W hW => lives_calls hT hn W s S F hW hok o.rg.key rev
  obtain ⟨o1, ⟨g1, g2, g3, g4, g5, g6, g7⟩, o2, o3⟩ := o
  have HS := Lib.hid hS
  have HL := Lib.hid hl
  unfold puttingS opV
  dsimp only at *
  rcases hr : livesS S g1 rev with ⟨⟨r1, r2, r3, r4, r5, r6⟩, rb⟩
  rw [hr] at hv0 hv1
  unfold top at hv1
  have HR := Lib.hid hr
  clear hS hl hr hok
  dsimp only at *
  have hv2 : r5 + 1 ≤ 1099511627777 := by omega
  by_cases hz : r5 = 0
  · subst hz
    go_enter Try.func76, Try.ntmps76
    go_wp2_with (go_at_call 79; refine (HL.out _ ((HS.out.fr0 hT ((Fr.refl No w).alloc _)).fr0 hT ((Fr.refl No _).alloc _))).mono ?_; rintro e w1 ⟨rfl, hf1⟩
                 rw [HR.out]; unfold kvTuple kvV
                 have hf2 : Fr No w w1 := (((Fr.refl No w).alloc _).alloc _).trans0 hf1
                 have hb : w1.heap[w.heap.size]? = some (.cells #[.int .i64 o1, .string g1, .string g2, .int .i64 g3, .int .i64 g4, .bool g5, .bool g6, .bool g7, .string o2, .int .i64 o3] 87 (0, 0)) := hf1.heap (alloc_old (alloc_at _ _ _ rfl) _) id
                 have he : w1.heap[w.heap.size + 1]? = some (.cells #[.int .i64 0, .string ByteArray.empty, .string ByteArray.empty, .int .i64 0, .int .i64 0, .int .i64 0, .int .i64 0, .string ByteArray.empty, .string ByteArray.empty, .int .i64 0, .int .i64 0, .int .i64 0, .int .i64 0] 73 (0, 0)) := hf1.heap (alloc_at _ _ _ (by simp)) id
                 have x1 : w1.cell? ⟨w.heap.size, 1, none⟩ = some (.string g1) := by simp [World.cell?, hb]
                 have x8 : w1.cell? ⟨w.heap.size, 8, none⟩ = some (.string o2) := by simp [World.cell?, hb]
                 have x9 : w1.cell? ⟨w.heap.size, 9, none⟩ = some (.int .i64 o3) := by simp [World.cell?, hb]
                 have k0 : w1.cell? ⟨w.heap.size + 1, 0, none⟩ = some (.int .i64 0) := by simp [World.cell?, he]
                 have k1 : w1.cell? ⟨w.heap.size + 1, 1, none⟩ = some (.string ByteArray.empty) := by simp [World.cell?, he]
                 have k2 : w1.cell? ⟨w.heap.size + 1, 2, none⟩ = some (.string ByteArray.empty) := by simp [World.cell?, he]
                 have k3 : w1.cell? ⟨w.heap.size + 1, 3, none⟩ = some (.int .i64 0) := by simp [World.cell?, he]
                 have k4 : w1.cell? ⟨w.heap.size + 1, 4, none⟩ = some (.int .i64 0) := by simp [World.cell?, he]
                 have k5 : w1.cell? ⟨w.heap.size + 1, 5, none⟩ = some (.int .i64 0) := by simp [World.cell?, he]
                 have k6 : w1.cell? ⟨w.heap.size + 1, 6, none⟩ = some (.int .i64 0) := by simp [World.cell?, he]
                 have k7 : w1.cell? ⟨w.heap.size + 1, 7, none⟩ = some (.string ByteArray.empty) := by simp [World.cell?, he]
                 have k8 : w1.cell? ⟨w.heap.size + 1, 8, none⟩ = some (.string ByteArray.empty) := by simp [World.cell?, he]
                 have k9 : w1.cell? ⟨w.heap.size + 1, 9, none⟩ = some (.int .i64 0) := by simp [World.cell?, he]
                 have k10 : w1.cell? ⟨w.heap.size + 1, 10, none⟩ = some (.int .i64 0) := by simp [World.cell?, he]
                 have k11 : w1.cell? ⟨w.heap.size + 1, 11, none⟩ = some (.int .i64 0) := by simp [World.cell?, he]
                 have k12 : w1.cell? ⟨w.heap.size + 1, 12, none⟩ = some (.int .i64 0) := by simp [World.cell?, he]
                 have kf : ∀ i, w1.frozen? ⟨w.heap.size + 1, i, none⟩ = false := fun i => by simp [World.frozen?, he]
                 have hl0 : w.heap.size < w1.heap.size := heap_lt hb
                 have hl1 : w.heap.size + 1 < w1.heap.size := heap_lt he)
    obtain ⟨Z, hZ, z6, hzf⟩ := ev_stored (w := w) he ⟨1, ⟨g1, o2, rev, rev, 1, o3⟩, ⟨r1, r2, r3, r4, 0, r6⟩⟩
    dsimp only at hZ z6
    rw [hZ]
    exact bodyPost_ret (results_cell_row rfl _ _ (w.heap.size + 1) 73 _ (0, 0) _ rfl (alloc_old (alloc_old z6 _) _) Try.underlying73 rfl (by kernel_rfl)) rfl ⟨by first | rfl | (rw [if_neg hz]; rfl), ((hzf hf2 (by omega)).alloc _).alloc _⟩
  · have hz' : (r5 == 0) = false := by simpa using hz
    go_enter Try.func76, Try.ntmps76
    go_wp2_with (go_at_call 79; refine (HL.out _ ((HS.out.fr0 hT ((Fr.refl No w).alloc _)).fr0 hT ((Fr.refl No _).alloc _))).mono ?_; rintro e w1 ⟨rfl, hf1⟩
                 rw [HR.out]; unfold kvTuple kvV
                 have hf2 : Fr No w w1 := (((Fr.refl No w).alloc _).alloc _).trans0 hf1
                 have hb : w1.heap[w.heap.size]? = some (.cells #[.int .i64 o1, .string g1, .string g2, .int .i64 g3, .int .i64 g4, .bool g5, .bool g6, .bool g7, .string o2, .int .i64 o3] 87 (0, 0)) := hf1.heap (alloc_old (alloc_at _ _ _ rfl) _) id
                 have he : w1.heap[w.heap.size + 1]? = some (.cells #[.int .i64 0, .string ByteArray.empty, .string ByteArray.empty, .int .i64 0, .int .i64 0, .int .i64 0, .int .i64 0, .string ByteArray.empty, .string ByteArray.empty, .int .i64 0, .int .i64 0, .int .i64 0, .int .i64 0] 73 (0, 0)) := hf1.heap (alloc_at _ _ _ (by simp)) id
                 have x1 : w1.cell? ⟨w.heap.size, 1, none⟩ = some (.string g1) := by simp [World.cell?, hb]
                 have x8 : w1.cell? ⟨w.heap.size, 8, none⟩ = some (.string o2) := by simp [World.cell?, hb]
                 have x9 : w1.cell? ⟨w.heap.size, 9, none⟩ = some (.int .i64 o3) := by simp [World.cell?, hb]
                 have k0 : w1.cell? ⟨w.heap.size + 1, 0, none⟩ = some (.int .i64 0) := by simp [World.cell?, he]
                 have k1 : w1.cell? ⟨w.heap.size + 1, 1, none⟩ = some (.string ByteArray.empty) := by simp [World.cell?, he]
                 have k2 : w1.cell? ⟨w.heap.size + 1, 2, none⟩ = some (.string ByteArray.empty) := by simp [World.cell?, he]
                 have k3 : w1.cell? ⟨w.heap.size + 1, 3, none⟩ = some (.int .i64 0) := by simp [World.cell?, he]
                 have k4 : w1.cell? ⟨w.heap.size + 1, 4, none⟩ = some (.int .i64 0) := by simp [World.cell?, he]
                 have k5 : w1.cell? ⟨w.heap.size + 1, 5, none⟩ = some (.int .i64 0) := by simp [World.cell?, he]
                 have k6 : w1.cell? ⟨w.heap.size + 1, 6, none⟩ = some (.int .i64 0) := by simp [World.cell?, he]
                 have k7 : w1.cell? ⟨w.heap.size + 1, 7, none⟩ = some (.string ByteArray.empty) := by simp [World.cell?, he]
                 have k8 : w1.cell? ⟨w.heap.size + 1, 8, none⟩ = some (.string ByteArray.empty) := by simp [World.cell?, he]
                 have k9 : w1.cell? ⟨w.heap.size + 1, 9, none⟩ = some (.int .i64 0) := by simp [World.cell?, he]
                 have k10 : w1.cell? ⟨w.heap.size + 1, 10, none⟩ = some (.int .i64 0) := by simp [World.cell?, he]
                 have k11 : w1.cell? ⟨w.heap.size + 1, 11, none⟩ = some (.int .i64 0) := by simp [World.cell?, he]
                 have k12 : w1.cell? ⟨w.heap.size + 1, 12, none⟩ = some (.int .i64 0) := by simp [World.cell?, he]
                 have kf : ∀ i, w1.frozen? ⟨w.heap.size + 1, i, none⟩ = false := fun i => by simp [World.frozen?, he]
                 have hl0 : w.heap.size < w1.heap.size := heap_lt hb
                 have hl1 : w.heap.size + 1 < w1.heap.size := heap_lt he)
    obtain ⟨Z, hZ, z6, hzf⟩ := ev_stored (w := w) he ⟨1, ⟨g1, o2, r3, rev, r5 + 1, o3⟩, ⟨r1, r2, r3, r4, r5, r6⟩⟩
    dsimp only at hZ z6
    rw [hZ]
    exact bodyPost_ret (results_cell_row rfl _ _ (w.heap.size + 1) 73 _ (0, 0) _ rfl (alloc_old (alloc_old z6 _) _) Try.underlying73 rfl (by kernel_rfl)) rfl ⟨by first | rfl | (rw [if_neg hz]; rfl), ((hzf hf2 (by omega)).alloc _).alloc _⟩
end Go.Proofs.Ythljnnjpmdgkoaa

namespace Go.Proofs.Ythljnnjpmdgkoaa
open Go Go.RowKit

theorem step_append_f {α : Type} {f : α → List Value} {P : Program} {w : World} {ops : Array Oper} {o : Oper} {a : Act} {K : Act → World → Prop} {Q : Exit → Act → World → Prop} {E : Prop} (hgd : o.guard = none) (s x : Operand) (t : TypeId)
    (ho : o.op = .call { callee := .builtin .append, args := #[s, x], argTypes := #[t, t] })
    (e : TypeId) (i : TypeInfo) (z : Value) (sz bytes : Nat) (ht : P.underlying t = some (.slice e)) (hi : P.info? e = some i) (hz : i.zero = some z) (hsize : i.size = sz) (hby : i.bytes = bytes) (hzs : z.cells.size = sz) (hsz : 0 < sz)
    (v : Value) (L : List α) (hs : a.eval s = v) (hown : SlF w e sz f v L)
    (b c : Nat) (y : α) (hx : a.eval x = .slice (some ⟨b, 0, none⟩) 1 c) (hnews : ∀ j u, (f y)[j]? = some u → w.cell? ((⟨b, 0, none⟩ : Addr).add j) = some u) (hl : (f y).length = sz) (h1 : ∀ u ∈ f y, u.oneCell' = true)
    (h63 : L.length + 1 ≤ maxLen) (hbytes : (L.length + 1) * bytes ≤ 140737488355328)
    (h : ∀ g o' cap w', SlF w' e sz f (.slice (some ⟨g, o', none⟩) (L.length + 1) cap) (L ++ [y]) → w.grownBy w' v.ownBlock → (v.ownBlock = some g ∨ g = w.heap.size) → g < w'.heap.size →
      K (a.put o.dst (.slice (some ⟨g, o', none⟩) (L.length + 1) cap)) w') :
    if Region.wanted o (yielded ops a.tmps) = true then Oper.wp P o a w K Q else E := by
  have hw : Region.wanted o (yielded ops a.tmps) = true := by simp [Region.wanted, hgd]
  rw [if_pos hw]
  subst hsize
  subst hby
  obtain ⟨g, o', cap, w', hr, h2, h3, h4, h5⟩ := run_append_sl (P := P) w t o.type e i z ht hi hz hzs hsz v L.length (L.flatMap f) hown ⟨b, 0, none⟩ 1 c (f y) (by omega) (by omega) hnews h1 h63 hbytes
  unfold Oper.wp execOp
  simp only [ho, resolve, invoke, builtin, Sem.run_bind, Sem.run_pure, Result.andThen_ok, List.map_toArray, List.map_cons, List.map_nil, hs, hx, hr]
  refine h g o' cap w' ?_ h3 h4 h5
  unfold SlF
  simpa using h2
theorem results_tmp4 {fn : Func} {t u v x : Tmp} (h : fn.results = #[.tmp t, .tmp u, .tmp v, .tmp x]) (tmps : Array Value) (P : Program) (w : World) :
    (results fn tmps).run P w = .ok (.tuple #[tmps.getD t undef, tmps.getD u undef, tmps.getD v undef, tmps.getD x undef]) w := by
  simp [results, h]
end Go.Proofs.Ythljnnjpmdgkoaa

namespace Go.Proofs.Ythljnnjpmdgkoaa
open Go Go.Proofs Go.RowKit
set_option maxRecDepth 100000

def tombH (H : Hist) (rev : Int) : Hist := { H with gens := tombK H.gens rev, last := rev }
def tombS (S : St) (x : Kv) : St :=
  if (getT S.T x.key).2 then { S with past := fun i => if i = (getT S.T x.key).1 then (S.past (getT S.T x.key).1).map (fun H => tombH H x.mod) else S.past i } else S
def doneS (S : St) (x : Ev) : St := if x.kind = 1 then putS S x.kv else tombS S x.kv
def doS (S : St) (x : Ev) : St := { doneS S x with events := (doneS S x).events ++ [x] }

theorem info73 : (Try.prog.info? 73).map (fun i => (i.zero, i.size, i.bytes)) = some (some (.agg #[.int .i64 0, .string ByteArray.empty, .string ByteArray.empty, .int .i64 0, .int .i64 0, .int .i64 0, .int .i64 0, .string ByteArray.empty, .string ByteArray.empty, .int .i64 0, .int .i64 0, .int .i64 0, .int .i64 0]), 13, 136) := by kernel_rfl

theorem doneS_events (S : St) (x : Ev) : (doneS S x).events = S.events := by
  unfold doneS putS tombS madeS
  dsimp only
  split
  · split <;> rfl
  · split <;> rfl

/-- What an event asks of the store. -/
structure DoOk (N : Nat) (S : St) (x : Ev) : Prop where
  m1 : 1 ≤ x.kv.mod
  m2 : x.kv.mod ≤ top
  last : ∀ H, S.past (getT S.T x.kv.key).1 = some H → (getT S.T x.kv.key).2 = true → H.last < x.kv.mod
  room : x.kind = 1 → (getT S.T x.kv.key).2 = false → S.T.length < N
  opened : x.kind ≠ 1 → ∀ H, S.past (getT S.T x.kv.key).1 = some H → (getT S.T x.kv.key).2 = true → isOpen H.gens = true

set_option maxHeartbeats 4000000 in
theorem do_calls {TA : TreeRel} {N : Nat} (hT : TreeOk TA N) {n : Nat} (hn : n ≤ 1099511627) (w : World) (s : Nat) (S : St) (F : Nat → Prop) (hS : StoreAt TA w s S F) (hok : StOk n S) (x : Ev) (hx : DoOk N S x) :
    Calls Try.prog 75 #[.pointer (some ⟨s, 0, none⟩), evV x] w fun e w' => (∃ v, e = .returned v) ∧ ∃ F', StoreAt TA w' s (doS S x) F' ∧ Fr F w w' ∧ (∀ b, F' b → F b ∨ w.heap.size ≤ b) := by
  have hpv : (∃ v, kvV x.kv = v) := ⟨_, rfl⟩
  have HS := Lib.hid hS
  have HX := Lib.hid hx
  have hls := hS.lt hT
  have HLS := Lib.hid hls
  unfold evV
  clear hS hx hls hpv
  go_enter Try.func75, Try.ntmps75
  go_upto_if 8 with fail
  go_cut [1] (fun _ wx => Hid (wx.heap[w.heap.size]? = some (.cells #[.int .i64 x.kind, .string x.kv.key, .string x.kv.value, .int .i64 x.kv.create, .int .i64 x.kv.mod, .int .i64 x.kv.version, .int .i64 x.kv.lease, .string x.prev.key, .string x.prev.value, .int .i64 x.prev.create, .int .i64 x.prev.mod, .int .i64 x.prev.version, .int .i64 x.prev.lease] 73 (0, 0))) ∧ ∃ F1, Hid (StoreAt TA wx s (doneS S x) F1) ∧ Hid (Fr F w wx) ∧ Hid (∀ b, F1 b → F b ∨ w.heap.size < b))
  case first =>
    by_cases hk : x.kind = 1
    · have hkb : (x.kind == 1) = true := by simpa using hk
      have HK1 := Lib.hid hk
      go_wp2_with (go_at_call 111; refine (put_store hT hn _ s S F (HS.out.fr0 hT ((Fr.refl No w).alloc _)) hok x.kv (HX.out.room HK1.out) HX.out.m1 HX.out.m2 HX.out.last).mono ?_; rintro e w1 ⟨⟨v, rfl⟩, F1, hs1, hf1, hn1⟩)
      go_meet
      case rel =>
        have hnb : ¬ F w.heap.size := fun h => by have := HLS.out _ h; omega
        refine ⟨Lib.hid (hf1.heap ?_ hnb), F1, Lib.hid (by unfold doneS; rw [if_pos HK1.out]; exact hs1), Lib.hid (((Fr.refl F w).alloc _).trans hf1 fun _ _ h => h), Lib.hid fun b hb => ?_⟩
        · rw [HK1.out]; exact alloc_at _ _ _ rfl
        · rcases hn1 b hb with h | h
          · exact .inl h
          · simp at h; exact .inr (by omega)
    · have hkb : (x.kind == 1) = false := by simpa using hk
      obtain ⟨t, p, ev, hp, FT, FH, a, hF⟩ := HS.out
      have HA := Lib.hid a
      have HFF := Lib.hid hF
      have hbx := alloc_at w (Obj.cells #[.int .i64 x.kind, .string x.kv.key, .string x.kv.value, .int .i64 x.kv.create, .int .i64 x.kv.mod, .int .i64 x.kv.version, .int .i64 x.kv.lease, .string x.prev.key, .string x.prev.value, .int .i64 x.prev.create, .int .i64 x.prev.mod, .int .i64 x.prev.version, .int .i64 x.prev.lease] 73) _ rfl
      have hf0 : Fr No w (w.alloc (Obj.cells #[.int .i64 x.kind, .string x.kv.key, .string x.kv.value, .int .i64 x.kv.create, .int .i64 x.kv.mod, .int .i64 x.kv.version, .int .i64 x.kv.lease, .string x.prev.key, .string x.prev.value, .int .i64 x.prev.create, .int .i64 x.prev.mod, .int .i64 x.prev.version, .int .i64 x.prev.lease] 73)) := (Fr.refl No w).alloc _
      clear a hF
      go_wp2_with fail
      generalize w.alloc (Obj.cells #[.int .i64 x.kind, .string x.kv.key, .string x.kv.value, .int .i64 x.kv.create, .int .i64 x.kv.mod, .int .i64 x.kv.version, .int .i64 x.kv.lease, .string x.prev.key, .string x.prev.value, .int .i64 x.prev.create, .int .i64 x.prev.mod, .int .i64 x.prev.version, .int .i64 x.prev.lease] 73) = W0 at hbx hf0 ⊢
      have c0 := HA.out.obj.cell 0 rfl
      have e0 := hf0.cell0 c0
      have k0 : W0.cell? ⟨w.heap.size, 1, none⟩ = some (.string x.kv.key) := by simp [World.cell?, hbx]
      have ls := HA.out.obj.lt
      have lb := heap_lt hbx
      go_region_held (fun W => W.cell? ⟨s, 0, none⟩ = some (.pointer (some ⟨t, 0, none⟩)) ∧ W.cell? ⟨w.heap.size, 1, none⟩ = some (.string x.kv.key))
        (first | exact ⟨e0, k0⟩ | exact ⟨hf1.cell0 e0, hf1.cell0 k0⟩)
        (first | (go_at_call 112; refine (hT.get x.kv.key (hT.fr HA.out.tree hf0.drew (fun _ _ s => s))).mono ?_; rintro e w1 ⟨rfl, hf1⟩; unfold getTuple))
      have hfA : Fr No w w1 := hf0.drew.trans0 hf1
      have hbA := hf1.heap (b := w.heap.size) hbx id
      have hsA := HA.out.fr hT hfA fun _ _ s => s
      have l1A := hfA.size
      clear hf1 e0 k0 c0 hf0 hbx
      cases hg : (getT S.T x.kv.key).2
      · go_wp2_with fail
        go_meet
        case rel => exact ⟨Lib.hid hbA, F, Lib.hid (by unfold doneS tombS; rw [if_neg hk, hg]; exact ⟨t, p, ev, hp, FT, FH, hsA, HFF.out⟩), Lib.hid (hfA.mono fun _ _ s => s.elim), Lib.hid fun b h => .inl h⟩
      · have hidH : ∃ H, S.past (getT S.T x.kv.key).1 = some H := by
          revert hg
          unfold getT
          cases hf : S.T.find? (fun q => keq q.1 x.kv.key) with
          | none => intro h; cases h
          | some q => intro _; exact hok.id q (List.mem_of_find?_eq_some hf)
        obtain ⟨H, hH⟩ := hidH
        obtain ⟨h, hh, g, m, FK, b, hFH⟩ := hsA.hist _ _ hH
        have hids := hok.ids _ _ hH
        have hnx := hok.next
        have hwf : (Lit.int .i64 (getT S.T x.kv.key).1).wf = true := wf64 (by omega) (by omega)
        have hplk := MapAt.look (P := Try.prog) (t := 119) hsA.map Try.underlying119 Try.underlying3 hwf (zero142 _)
        have hpl : ((hp (getT S.T x.kv.key).1).map fun h => Value.pointer (some ⟨h, 0, none⟩)).getD (.pointer none) = .pointer (some ⟨h, 0, none⟩) := by rw [hh]; rfl
        have c1 := hsA.obj.cell 1 rfl
        have h0 := b.obj.cell 0 rfl
        have k4 : w1.cell? ⟨w.heap.size, 4, none⟩ = some (.int .i64 x.kv.mod) := by simp [World.cell?, hbA]
        have lbox : w.heap.size < w1.heap.size := heap_lt hbA
        have nKs : ¬ FK s := fun e => hsA.ds.2.2 _ ((hFH _).2 (.inr (.inr e)))
        have nKp : ¬ FK p := fun e => hsA.dp.2.2 _ ((hFH _).2 (.inr (.inr e)))
        have nKb : ¬ FK w.heap.size := fun e => by
          have := HA.out.lt hT _ (.inr (.inr (.inr (.inr ⟨_, (hFH _).2 (.inr (.inr e))⟩))))
          omega
        have lh := b.obj.lt
        have lsA := hsA.obj.lt
        have HSW : ∀ W, Fr FK w1 W → W.cell? ⟨s, 1, none⟩ = some (.map (some p)) ∧ (Instr.lookup 119 (.map (some p)) (.int .i64 (getT S.T x.kv.key).1) false).run Try.prog W = .ok (.pointer (some ⟨h, 0, none⟩)) W ∧
            W.cell? ⟨h, 0, none⟩ = some (.pointer (some ⟨g, 0, none⟩)) ∧ W.cell? ⟨w.heap.size, 4, none⟩ = some (.int .i64 x.kv.mod) := by
          intro W hW
          refine ⟨hW.cell c1 nKs, ?_, hW.cell h0 b.d1, hW.cell k4 nKb⟩
          have := MapAt.look (P := Try.prog) (t := 119) (hsA.map.fr hW nKp) Try.underlying119 Try.underlying3 hwf (zero142 _)
          rw [hpl] at this
          exact this
        have H1 := Lib.hid HSW
        have HSA := Lib.hid hsA
        have HB := Lib.hid b
        have HFH := Lib.hid hFH
        have HHok := Lib.hid (hok.hist _ _ hH)
        clear HSW hsA b hFH hplk hpl
        go_wp2_with fail
        go_region_held (fun W => W.cell? ⟨s, 1, none⟩ = some (.map (some p)) ∧ (Instr.lookup 119 (.map (some p)) (.int .i64 (getT S.T x.kv.key).1) false).run Try.prog W = .ok (.pointer (some ⟨h, 0, none⟩)) W ∧
            W.cell? ⟨h, 0, none⟩ = some (.pointer (some ⟨g, 0, none⟩)) ∧ W.cell? ⟨w.heap.size, 4, none⟩ = some (.int .i64 x.kv.mod))
          (first | exact H1.out _ (Fr.refl FK w1).drew | exact H1.out _ ((Fr.refl FK w1).drew.trans hf4 fun _ _ h => h))
          (first | (go_at_call 113; refine (Tombstone_calls _ g H.gens H.last x.kv.mod FK (HB.out.key.fr (Fr.refl No w1).drew (fun _ _ s => s)) (HHok.out.1.fits hn) (HX.out.opened hk H hH hg) HX.out.m1 HX.out.m2 (HX.out.last H hH hg)).mono ?_; rintro e w4 ⟨rfl, hk4, hf4⟩))
        go_wp2_with fail
        go_meet
        case rel =>
          have hf4' : Fr FK w1 w4 := (Fr.refl FK w1).drew.trans hf4 fun _ _ h => h
          have hfc : Fr (FH (getT S.T x.kv.key).1) w1 w4 := hf4'.mono fun b _ e => (HFH.out b).2 (.inr (.inr e))
          have hhist : HistAt w4 h (tombH H x.kv.mod) (fun b => b = h ∨ b = m ∨ FK b) :=
            ⟨g, m, FK, ⟨HB.out.obj.fr hf4' HB.out.d1, hk4, HB.out.map.fr hf4' HB.out.d2, HB.out.d1, HB.out.d2⟩, fun _ => Iff.rfl⟩
          have hfin := HSA.out.setHist hT hh hfc hhist fun b hb => .inl ((HFH.out b).2 hb)
          have heq : doneS S x = { S with past := fun i => if i = (getT S.T x.kv.key).1 then some (tombH H x.kv.mod) else S.past i } := by
            unfold doneS tombS
            rw [if_neg hk, hg, hH]
            rfl
          have hset : ∀ b, storeF s p ev FT (fun i => if i = (getT S.T x.kv.key).1 then (fun b => b = h ∨ b = m ∨ FK b) else FH i) b → F b := by
            rintro b (e | e | e | e | ⟨i, e⟩)
            · exact (HFF.out b).2 (.inl e)
            · exact (HFF.out b).2 (.inr (.inl e))
            · exact (HFF.out b).2 (.inr (.inr (.inl e)))
            · exact (HFF.out b).2 (.inr (.inr (.inr (.inl e))))
            · by_cases hi : i = (getT S.T x.kv.key).1
              · rw [if_pos hi] at e
                exact (HFF.out b).2 (.inr (.inr (.inr (.inr ⟨_, (HFH.out b).2 e⟩))))
              · rw [if_neg hi] at e
                exact (HFF.out b).2 (.inr (.inr (.inr (.inr ⟨i, e⟩))))
          exact ⟨Lib.hid (hf4'.heap hbA nKb), _, Lib.hid (by rw [heq]; exact ⟨t, p, ev, hp, FT, _, hfin, fun _ => Iff.rfl⟩),
            Lib.hid ((hfA.mono fun _ _ s => s.elim).trans hfc fun b _ e => (HFF.out b).2 (.inr (.inr (.inr (.inr ⟨_, e⟩))))), Lib.hid fun b hb => .inl (hset b hb)⟩
  case rest =>
    obtain ⟨HK, F1, HS1, HF, HN⟩ := hcut
    obtain ⟨t, p, ev, hp, FT, FH, a, hF1⟩ := HS1.out
    obtain ⟨ea, ecap, rfl, hc1, hc2, hea⟩ := a.events.shape
    have HA := Lib.hid a
    have HF1 := Lib.hid hF1
    have c5 := a.obj.cell 5 rfl
    have f5 := a.obj.free 5
    have ls := a.obj.lt
    have lb := heap_lt HK.out
    have k0 : wc.cell? ⟨w.heap.size, 0, none⟩ = some (.int .i64 x.kind) := by simp [World.cell?, HK.out]
    have k1 : wc.cell? ⟨w.heap.size, 1, none⟩ = some (.string x.kv.key) := by simp [World.cell?, HK.out]
    have k2 : wc.cell? ⟨w.heap.size, 2, none⟩ = some (.string x.kv.value) := by simp [World.cell?, HK.out]
    have k3 : wc.cell? ⟨w.heap.size, 3, none⟩ = some (.int .i64 x.kv.create) := by simp [World.cell?, HK.out]
    have k4 : wc.cell? ⟨w.heap.size, 4, none⟩ = some (.int .i64 x.kv.mod) := by simp [World.cell?, HK.out]
    have k5 : wc.cell? ⟨w.heap.size, 5, none⟩ = some (.int .i64 x.kv.version) := by simp [World.cell?, HK.out]
    have k6 : wc.cell? ⟨w.heap.size, 6, none⟩ = some (.int .i64 x.kv.lease) := by simp [World.cell?, HK.out]
    have k7 : wc.cell? ⟨w.heap.size, 7, none⟩ = some (.string x.prev.key) := by simp [World.cell?, HK.out]
    have k8 : wc.cell? ⟨w.heap.size, 8, none⟩ = some (.string x.prev.value) := by simp [World.cell?, HK.out]
    have k9 : wc.cell? ⟨w.heap.size, 9, none⟩ = some (.int .i64 x.prev.create) := by simp [World.cell?, HK.out]
    have k10 : wc.cell? ⟨w.heap.size, 10, none⟩ = some (.int .i64 x.prev.mod) := by simp [World.cell?, HK.out]
    have k11 : wc.cell? ⟨w.heap.size, 11, none⟩ = some (.int .i64 x.prev.version) := by simp [World.cell?, HK.out]
    have k12 : wc.cell? ⟨w.heap.size, 12, none⟩ = some (.int .i64 x.prev.lease) := by simp [World.cell?, HK.out]
    clear a hF1
    go_wp2_with fail
    obtain ⟨i0, hi0, hz0, hz1, hz2⟩ := info_parts info73
    have hnew := cells_new wc.drew [.int .i64 x.kind, .string x.kv.key, .string x.kv.value, .int .i64 x.kv.create, .int .i64 x.kv.mod, .int .i64 x.kv.version, .int .i64 x.kv.lease, .string x.prev.key, .string x.prev.value, .int .i64 x.prev.create, .int .i64 x.prev.mod, .int .i64 x.prev.version, .int .i64 x.prev.lease] 73 (0, 0)
    have hel : (doneS S x).events.length ≤ 1099511627 := by rw [doneS_events]; exact Nat.le_trans hok.ev hn
    have hes : (Value.slice ea (doneS S x).events.length ecap).ownBlock ≠ some s := HA.out.ds.2.1
    have hevl := HA.out.events.lt
    go_region_law (refine step_append_f rfl _ _ 34 rfl 73 i0 _ 13 136 Try.underlying34 hi0 hz0 hz1 hz2 rfl (by decide) _ (doneS S x).events rfl (HA.out.events.fr0 ((Fr.refl No wc).drew.alloc _)) wc.heap.size 1 x rfl hnew rfl (by intro u hu; simp [evC, kvC] at hu; rcases hu with rfl | rfl | rfl | rfl | rfl | rfl | rfl | rfl | rfl | rfl | rfl | rfl | rfl <;> rfl) (by unfold maxLen; omega) (by omega) ?_; intro g1 o' cap w4 hs4 hg4 hb4 hlt4; have hf4 : Fr (fun k => (Value.slice ea (doneS S x).events.length ecap).ownBlock = some k) wc w4 := ((Fr.refl _ wc).drew.alloc _).grown hg4 (fun k hk => .inl hk); have e5 := hf4.cell c5 hes; have ef := hf4.free c5 f5 hes; have HS4 := Lib.hid hs4; have HB4 := Lib.hid hb4; have HF4 := Lib.hid hf4; clear hs4 hg4 hb4 hf4)
    all_goals
      go_wp2
      refine bodyPost_end (results_none rfl _ _ _) rfl ?_
      have hgs : g1 ≠ s ∧ ((Value.slice ea (doneS S x).events.length ecap).ownBlock = some g1 ∨ wc.heap.size ≤ g1) := by
        rcases HB4.out with h | h
        · exact ⟨fun e => hes (e ▸ h), .inl h⟩
        · have h' : g1 = wc.heap.size + 1 := by simpa using h
          exact ⟨by omega, .inr (by omega)⟩
      have hfE : Fr (fun b => b = s ∨ (Value.slice ea (doneS S x).events.length ecap).ownBlock = some b) wc (w4.setCell ⟨s, 5, none⟩ (.slice (some ⟨g1, o', none⟩) ((doneS S x).events.length + 1) cap)) :=
        (HF4.out.mono fun _ _ h => .inr h).setCell (p := ⟨s, 5, none⟩) (.inl (.inl rfl)) _
      have ho := (HA.out.obj.fr HF4.out hes).set 5 (.slice (some ⟨g1, o', none⟩) ((doneS S x).events.length + 1) cap)
      have he := HS4.out.other ⟨s, 5, none⟩ (.slice (some ⟨g1, o', none⟩) ((doneS S x).events.length + 1) cap) (by simp [Value.ownBlock]; exact hgs.1)
      have hfin := HA.out.setEvents hT hfE ho he (fun b hb => by
        obtain rfl : g1 = b := by simpa [Value.ownBlock] using hb
        exact hgs.2)
      have hwc := HF.out.size
      refine ⟨⟨_, rfl⟩, _, ⟨t, p, _, hp, FT, FH, hfin, fun _ => Iff.rfl⟩, ?_, ?_⟩
      · refine HF.out.trans hfE fun b hb e => ?_
        have h1 : F1 b := (HF1.out b).2 (by
          rcases e with e | e
          · exact .inl e
          · exact .inr (.inr (.inr (.inl e))))
        rcases HN.out b h1 with h | h
        · exact h
        · omega
      · have old : ∀ b, F1 b → F b ∨ w.heap.size ≤ b := fun b hb => by
          rcases HN.out b hb with h | h
          · exact .inl h
          · exact .inr (by omega)
        rintro b (e | e | e | e | e)
        · exact old b ((HF1.out b).2 (.inl e))
        · exact old b ((HF1.out b).2 (.inr (.inl e)))
        · exact old b ((HF1.out b).2 (.inr (.inr (.inl e))))
        · obtain rfl : g1 = b := by simpa [Value.ownBlock] using e
          rcases hgs.2 with h | h
          · exact old _ ((HF1.out _).2 (.inr (.inr (.inr (.inl h)))))
          · exact .inr (by omega)
        · exact old b ((HF1.out b).2 (.inr (.inr (.inr (.inr e)))))
end Go.Proofs.Ythljnnjpmdgkoaa

namespace Go.Proofs.Ythljnnjpmdgkoaa
open Go Go.Proofs Go.RowKit
set_option maxRecDepth 100000

/-- Where a range ends. -/
def toOf (key end_ : ByteArray) : ByteArray := if end_.toList.isEmpty then key ++ ⟨#[0]⟩ else if end_.toList == [0] then ByteArray.empty else end_
def oneL (S : St) (rev : Int) (p : ByteArray × Int) : Option Kv := match S.past p.2 with
  | some H => if (hadH H rev).2 then some (hadH H rev).1 else none
  | none => none
def betweenL (S : St) (R : Pairs) (rev : Int) : List Kv := R.filterMap (oneL S rev)
def betweenS (S : St) (key end_ : ByteArray) (rev : Int) : List Kv := betweenL S (rangeT S.T key (toOf key end_)) rev

theorem info57 : (Try.prog.info? 57).map (fun i => (i.zero, i.size, i.bytes)) = some (some (.agg #[.string ByteArray.empty, .string ByteArray.empty, .int .i64 0, .int .i64 0, .int .i64 0, .int .i64 0]), 6, 64) := by kernel_rfl

theorem mem_rangeT {T : Pairs} {a b : ByteArray} {p : ByteArray × Int} (h : p ∈ rangeT T a b) : p ∈ T := (List.mem_filter.1 h).1

set_option maxHeartbeats 4000000 in
theorem between_calls {TA : TreeRel} {N : Nat} (hT : TreeOk TA N) {n : Nat} (hn : n ≤ 1099511627) (w : World) (s : Nat) (S : St) (F : Nat → Prop) (hS : StoreAt TA w s S F) (hok : StOk n S) (hN : S.T.length ≤ 1099511627) (key end_ : ByteArray) (rev : Int) (hks : key.size ≤ 1099511627776) :
    Calls Try.prog 77 #[.pointer (some ⟨s, 0, none⟩), .string key, .string end_, .int .i64 rev] w fun e w' => ∃ v, e = .returned v ∧ SlF w' 57 6 kvC v (betweenS S key end_ rev) ∧ Fr No w w' ∧ (∀ b, v.ownBlock = some b → w.heap.size ≤ b) := by
  have hhad := fun W hW at_ H hH => had_calls hT hn W s S F hW hok at_ rev H hH
  have hSA := Lib.hid hS
  obtain ⟨t, p, ev, hp, FT, FH, a, hF⟩ := hS
  have c0 := a.obj.cell 0 rfl
  have l1 := a.obj.lt
  have HT := Lib.hid a.tree
  have HLen := Lib.hid fun W hW => hT.len (w := W) (t := t) (T := S.T) (F := FT) hW
  have hrange := fun W to1 hW => hT.range (w := W) (t := t) (T := S.T) (F := FT) key to1 hW
  have HH := Lib.hid hhad
  have HOk := Lib.hid hok.id
  obtain ⟨i0, hi0, hz0, hz1, hz2⟩ := info_parts info57
  have hlenR : ∀ to1, (rangeT S.T key to1).length ≤ S.T.length := fun to1 => List.length_filter_le _ _
  have hto : (end_.toList.isEmpty = true ∧ toOf key end_ = key ++ ⟨#[0]⟩) ∨ (end_.toList.isEmpty = false ∧ (end_.toList == [0]) = true ∧ toOf key end_ = ⟨#[]⟩) ∨ (end_.toList.isEmpty = false ∧ (end_.toList == [0]) = false ∧ toOf key end_ = end_) := by
    unfold toOf
    have he : ByteArray.empty = ⟨#[]⟩ := rfl
    rw [he]
    cases h1 : end_.toList.isEmpty
    · cases h2 : (end_.toList == [0])
      · exact .inr (.inr ⟨rfl, rfl, by simp⟩)
      · exact .inr (.inl ⟨rfl, rfl, by simp⟩)
    · exact .inl ⟨rfl, by simp⟩
  have hks' : ¬ 9223372036854775807 < key.size + 1 := by omega
  clear a hhad hks
  have HF0 : Fr No w w := Fr.refl No w
  have HX : ∃ X, toOf key end_ = X ∧ ((end_.toList.isEmpty = true ∧ X = key ++ ⟨#[0]⟩) ∨ (end_.toList.isEmpty = false ∧ (end_.toList == [0]) = true ∧ X = ⟨#[]⟩) ∨ (end_.toList.isEmpty = false ∧ (end_.toList == [0]) = false ∧ X = end_)) := ⟨_, rfl, hto⟩
  obtain ⟨X, hX, hto⟩ := HX
  unfold betweenS
  rw [hX]
  have hRl := hlenR X
  have hRm : ∀ q ∈ rangeT S.T key X, q ∈ S.T := fun q hq => mem_rangeT hq
  have hrX := fun W hW => hrange W X hW
  generalize rangeT S.T key X = R at hRl hRm hrX ⊢
  have HRM := Lib.hid hRm
  have HRange := Lib.hid hrX
  clear hlenR hrange hRm hrX hX
  rcases hto with ⟨h1, hX2⟩ | ⟨h1, h2, hX2⟩ | ⟨h1, h2, hX2⟩
  all_goals
    have HX2 := Lib.hid hX2
    clear hX2
    go_enter Try.func77, Try.ntmps77
    go_wp2_with fail
    have hS0 : w.drew.cell? ⟨s, 0, none⟩ = some (.pointer (some ⟨t, 0, none⟩)) := c0
    go_region_held (fun W => W.cell? ⟨s, 0, none⟩ = some (.pointer (some ⟨t, 0, none⟩)))
      (first | assumption | exact hf2.cell0 c0)
      (first
        | (go_at_call 70; refine (HLen.out _ (hT.fr HT.out (Fr.refl No w).drew (fun _ _ s => s))).mono ?_; rintro e w' ⟨rfl, rfl⟩)
        | (go_at_call 69; (first | rw [← HX2.out] | skip); refine (HRange.out _ (hT.fr HT.out (Fr.refl No w).drew (fun _ _ s => s))).mono ?_; rintro e w2 ⟨v, rfl, hv, hf1, hvn⟩
           have hf2 : Fr No w w2 := (Fr.refl No w).drew.trans0 hf1
           obtain ⟨va, vcap, rfl, hc1, hc2, hva⟩ := hv.shape
           have HV := Lib.hid hv
           have HVA := Lib.hid hva
           clear hv hva))
    clear hS0
    have l2 := hf2.size
    go_wp2_with fail
    go_loopg [36, 10] R.length (fun g s36 s10 wr => ∃ (i : Nat) (o : Value), s36 = .int .i64 i ∧ s10 = o ∧ i + g = R.length ∧ Hid (SlF wr 57 6 kvC o (betweenL S (R.take i) rev)) ∧ Fr No w wr ∧ w2.heap.size ≤ wr.heap.size ∧ Hid (∀ b, o.ownBlock = some b → w2.heap.size ≤ b) ∧ Hid (Fr No w2 wr))
    case atStart => exact ⟨0, _, rfl, rfl, by simp, Lib.hid (SlF.nil _ _ _ _), hf2, Nat.le_refl _, Lib.hid (by simp [Value.ownBlock]), Lib.hid (Fr.refl _ _)⟩
    case round =>
      obtain ⟨i, o, rfl, rfl, hi, HO, hfr, hsz, HOn, HF2⟩ := hrel
      cases gk with
      | zero =>
        have hil : ¬ (i : Int) < (R.length : Int) := by omega
        go_wp2
        go_ret
        have e1 := HO.out
        rw [List.take_of_length_le (by omega)] at e1
        exact ⟨_, rfl, e1, hfr, fun b hb => by have := HOn.out b hb; omega⟩
      | succ g =>
        have hil : (i : Int) < (R.length : Int) := by omega
        obtain ⟨q, hq⟩ : ∃ q, R[i]? = some q := ⟨_, List.getElem?_eq_getElem (by omega)⟩
        obtain ⟨H, hH⟩ := HOk.out q (HRM.out q (List.mem_of_getElem? hq))
        obtain ⟨gb, go, rfl⟩ := HVA.out (by omega)
        have hVr := HV.out.fr0 HF2.out
        have x0 := hVr.cell0 pairC_length i hq rfl
        have x1 := hVr.cell pairC_length i 1 hq rfl
        have hone : oneL S rev q = if (hadH H rev).2 then some (hadH H rev).1 else none := by unfold oneL; rw [hH]
        have hstep : betweenL S (R.take (i + 1)) rev = betweenL S (R.take i) rev ++ (oneL S rev q).toList := by
          unfold betweenL
          rw [List.take_add_one, hq, List.filterMap_append]
          cases h : oneL S rev q <;> simp [h]
        have HST := Lib.hid hstep
        have HON := Lib.hid hone
        have HPH := Lib.hid hH
        have HQ := Lib.hid hq
        clear hstep hone hH hq hVr
        rcases hr : hadH H rev with ⟨⟨r1, r2, r3, r4, r5, r6⟩, rb⟩
        rw [hr] at HON
        have HR := Lib.hid hr
        clear hr
        obtain ⟨o1, o2, rfl, ho1, ho2, ho3⟩ := HO.out.shape
        clear ho3
        have hob : (betweenL S (R.take i) rev).length ≤ R.length := Nat.le_trans (List.length_filterMap_le _ _) (by simp; omega)
        have hi5 : 0 ≤ (i : Int) + 1 := by omega
        cases rb
        · have HE : Hid (betweenL S (R.take (i + 1)) rev = betweenL S (R.take i) rev) := Lib.hid (by rw [HST.out, HON.out]; simp)
          clear HST HON
          go_wp2_with (go_at_call 71; refine (HH.out _ (hSA.out.fr0 hT (hfr.alloc _)) q.2 H HPH.out).mono ?_; rintro e w3 ⟨rfl, hf3⟩
                       have hf4 : Fr No wr w3 := ((Fr.refl No wr).alloc _).trans0 hf3
                       rw [HR.out]; unfold kvTuple kvV)
          go_roundg g
          case rel =>
            have hf5 : Fr No wr (w3.alloc (Obj.cells #[Value.string r1, Value.string r2, Value.int .i64 r3, Value.int .i64 r4, Value.int .i64 r5, Value.int .i64 r6] 57)) := hf4.alloc _
            exact ⟨i + 1, _, by go_num, rfl, by omega, Lib.hid (by rw [HE.out]; exact HO.out.fr0 hf5), hfr.trans0 hf5, Nat.le_trans hsz hf5.size, HOn, Lib.hid (HF2.out.trans0 hf5)⟩
          case measure => omega
        · have HE : Hid (betweenL S (R.take (i + 1)) rev = betweenL S (R.take i) rev ++ [⟨r1, r2, r3, r4, r5, r6⟩]) := Lib.hid (by rw [HST.out, HON.out]; simp)
          clear HST HON
          go_wp2_with (first
            | (go_at_call 71; refine (HH.out _ (hSA.out.fr0 hT (hfr.alloc _)) q.2 H HPH.out).mono ?_; rintro e w3 ⟨rfl, hf3⟩
               have hf4 : Fr No wr w3 := ((Fr.refl No wr).alloc _).trans0 hf3
               have hnew := cells_new (w3.alloc (.cells [Value.string r1, .string r2, .int .i64 r3, .int .i64 r4, .int .i64 r5, .int .i64 r6].toArray 57)) [Value.string r1, .string r2, .int .i64 r3, .int .i64 r4, .int .i64 r5, .int .i64 r6] 57 (0, 0)
               rw [HR.out]; unfold kvTuple kvV)
            | (at_builtin; refine wpList_append_f rfl _ _ 53 rfl 57 i0 _ 6 64 Try.underlying53 hi0 hz0 hz1 hz2 rfl (by decide) _ (betweenL S (R.take i) rev) rfl (((HO.out.fr0 hf4).alloc _).alloc _) (w3.heap.size + 1) 1 (⟨r1, r2, r3, r4, r5, r6⟩ : Kv) rfl (by simpa [kvC] using hnew) rfl ?c1 ?c2 ?c3 ?_))
          case c1 => intro u hu; simp [kvC] at hu; rcases hu with rfl | rfl | rfl | rfl | rfl | rfl <;> rfl
          case c2 => unfold maxLen; omega
          case c3 => omega
          intro g1 o' cap w4 hs4 hg4 hb4 hlt4
          have hlen4 : (betweenL S (R.take i) rev ++ [(⟨r1, r2, r3, r4, r5, r6⟩ : Kv)]).length = (betweenL S (R.take i) rev).length + 1 := by simp
          have hfA : Fr No w w4 := (((hfr.trans0 hf4).alloc _).alloc _).grown hg4 fun k hk => .inr (by have := HOn.out k hk; omega)
          have hfB : Fr No w2 w4 := (((HF2.out.trans0 hf4).alloc _).alloc _).grown hg4 fun k hk => .inr (HOn.out k hk)
          have hg1 : w2.heap.size ≤ g1 := by
            rcases hb4 with e | e
            · exact HOn.out _ e
            · have := hf4.size; try simp at e
              omega
          have H4 := Lib.hid hs4
          have HL4 := Lib.hid hlen4
          clear hs4 hlen4 hg4 hb4 hnew
          go_wp2
          go_roundg g
          case rel =>
            exact ⟨i + 1, _, by go_num, rfl, by omega, Lib.hid (by rw [HE.out]; exact H4.out), hfA, hfB.size, Lib.hid (fun b hb => by simp [Value.ownBlock] at hb; omega), Lib.hid hfB⟩
          case measure => omega
end Go.Proofs.Ythljnnjpmdgkoaa
