/- Lemmas for the claim. Conditions stand in each. -/
import Derived.Test.YthljnnjpmdgkoaaGreatG18
import Derived.Test.YthljnnjpmdgkoaaGreatG09
import Derived.Test.YthljnnjpmdgkoaaGreatG01
import Derived.Test.YthljnnjpmdgkoaaGreatG07
import Derived.Deep.CutBlock
import Derived.WalkLawsBesides
namespace Go.Proofs.YthljnnjpmdgkoaaGreat
open Go Go.Proofs Go.RowKit
def sameB (x y : Kv) : Bool := keq x.key y.key && (keq x.value y.value && (x.create == y.create && (x.mod == y.mod && (x.version == y.version && x.lease == y.lease))))
theorem zkc (a : ByteArray) : keq a a = true := zar.2 rfl
theorem zso {x y : Kv} : sameB x y = true ↔ x = y := by
 obtain ⟨x1, x2, x3, x4, x5, x6⟩ := x; obtain ⟨y1, y2, y3, y4, y5, y6⟩ := y; unfold sameB; simp only [Bool.and_eq_true, beq_iff_eq, zar, Kv.mk.injEq]
theorem zfa (x : Kv) : sameB x x = true := zso.2 rfl
theorem zmo (l : List Kv) (x : Ev) : (doneL l x).length ≤ l.length + 1 := by
 induction l with
 | nil => unfold doneL; split <;> simp
 | cons k l ih =>
   unfold doneL
   split
   · simp only [List.length_cons]; omega
   simp only [List.length_append, List.length_cons]
   split <;> split <;> simp <;> omega
def mayB (x : Kv) (rev : Int) : Bool :=
 if keyE x.key ≠ 0 ∨ 1024 < x.value.size ∨ x.lease < 0 ∨ x.create < 1 ∨ x.mod < x.create ∨ rev < x.mod then false
 else if x.mod = x.create then x.version == 1 else decide (2 ≤ x.version) && decide (x.version ≤ x.mod - x.create + 1)
def madeB (x : Ev) (was : Kv) (rev : Int) : Bool :=
 if keyE x.kv.key ≠ 0 ∨ x.kv.mod ≠ rev ∨ sameB x.prev was = false then false
 else if x.kind = 2 then decide (0 < was.version) && sameB x.kv ⟨x.kv.key, ByteArray.empty, 0, rev, 0, 0⟩
 else (x.kind == 1) && ((x.kv.create == if was.version = 0 then rev else was.create) && ((x.kv.version == wrap64 (was.version + 1)) && (decide (x.kv.value.size ≤ 1024) && decide (0 ≤ x.kv.lease))))
def zfq (x : Ev) (l : List Kv) (mark : Int) : Bool :=
 if (sameB x.prev kv0 = false ∧ (keq x.prev.key x.kv.key = false ∨ mayB x.prev (mark - 1) = false)) ∨ madeB x x.prev mark = false then false
 else if x.kind = 1 then sameB ((hasL l x.kv.key).getD kv0) x.kv else ((hasL l x.kv.key).getD kv0).version == 0
structure KvOk (D : Doc) (i : Nat) (k : Kv) : Prop where
 may : mayB k D.mark = true
 up : ∀ k', 0 < i → D.kvs[i - 1]? = some k' → klt k'.key k.key = true
structure EvOk (D : Doc) (i : Nat) (x : Ev) : Prop where
 lo : max D.mark 1 ≤ x.kv.mod
 ge : revAt D i ≤ x.kv.mod
 le : x.kv.mod ≤ revAt D i + 1
 one : ∀ j y, j < i → D.events[j]? = some y → y.kv.mod = x.kv.mod → keq y.kv.key x.kv.key = false
 mkd : x.kv.mod = D.mark → zfq x D.kvs D.mark = true
 md : x.kv.mod ≠ D.mark → madeB x ((hasL (foldTo D i) x.kv.key).getD kv0) x.kv.mod = true
def freshK (D : Doc) (i : Nat) : Nat := ((D.kvs.take i).filter fun k => k.mod == D.mark).length
def freshE (D : Doc) (i : Nat) : Nat := ((D.events.take i).filter fun x => x.kv.mod == D.mark && x.kind == 1).length
structure zbe (D : Doc) : Prop where
 m0 : 0 ≤ D.mark
 mr : D.mark ≤ D.rev
 top : D.rev ≤ 1099511627776
 kvs : ∀ i k, D.kvs[i]? = some k → KvOk D i k
 evs : ∀ i x, D.events[i]? = some x → EvOk D i x
 last : revAt D D.events.length = D.rev
 fresh : freshK D D.kvs.length = freshE D D.events.length
theorem zdz (D : Doc) {i : Nat} {k : Kv} (h : D.kvs[i]? = some k) : freshK D (i + 1) = freshK D i + (if k.mod == D.mark then 1 else 0) := by
 unfold freshK; rw [List.take_add_one, h, List.filter_append, List.length_append]; simp only [Option.toList_some, List.filter_cons, List.filter_nil]
 split <;> simp
theorem zny (D : Doc) {i : Nat} {x : Ev} (h : D.events[i]? = some x) : freshE D (i + 1) = freshE D i + (if x.kv.mod == D.mark && x.kind == 1 then 1 else 0) := by
 unfold freshE; rw [List.take_add_one, h, List.filter_append, List.length_append]; simp only [Option.toList_some, List.filter_cons, List.filter_nil]
 split <;> simp
theorem ztw (D : Doc) (i : Nat) : freshK D i ≤ i := Nat.le_trans (List.length_filter_le _ _) (List.length_take_le _ _)
theorem ztx (D : Doc) (i : Nat) : freshE D i ≤ i := Nat.le_trans (List.length_filter_le _ _) (List.length_take_le _ _)
structure DocSm (D : Doc) : Prop where
 kvs : ∀ k ∈ D.kvs, k.key.size ≤ 1099511627776
 evs : ∀ x ∈ D.events, x.kv.key.size ≤ 1099511627776 ∧ x.prev.key.size ≤ 1099511627776
 len : D.kvs.length + D.events.length ≤ 100000000
theorem zjq {l : List Kv} (h : ∀ i k k', 0 < i → l[i]? = some k → l[i - 1]? = some k' → klt k'.key k.key = true) : KSorted l := by
 induction l with
 | nil => exact List.Pairwise.nil
 | cons a l ih =>
   have ih' := ih fun i k k' hi hk hk' => by
    refine h (i + 1) k k' (by omega) (by simpa using hk) ?_; rw [show i + 1 - 1 = (i - 1) + 1 by omega]; simpa using hk'
   refine List.pairwise_cons.2 ⟨fun y hy => ?_, ih'⟩
   cases l with
   | nil => cases hy
   | cons b l =>
     have hab : klt a.key b.key = true := h 1 b a (by omega) rfl rfl; rcases List.mem_cons.1 hy with rfl | hy
     · exact hab
     exact zbu hab ((List.pairwise_cons.1 ih').1 y hy)
theorem zic : ∀ (l : List Ev) (k : List Kv), (l.foldl doneL k).length ≤ k.length + l.length := by
 intro l
 induction l with
 | nil => intro k; exact Nat.le_refl _
 | cons e l ih => intro k; rw [List.foldl_cons]; have := ih (doneL k e); have := zmo k e; simp only [List.length_cons]; omega
theorem zrb (D : Doc) (i : Nat) : (foldTo D i).length ≤ D.kvs.length + i := by
 unfold foldTo; have := zic ((D.events.take i).filter fun y => decide (D.mark < y.kv.mod)) D.kvs; have h2 := List.length_filter_le (fun y : Ev => decide (D.mark < y.kv.mod)) (D.events.take i); have h3 : (D.events.take i).length ≤ i := List.length_take_le _ _; omega
def MayP (x : Kv) (rev : Int) : Prop := keyE x.key = 0 ∧ x.value.size ≤ 1024 ∧ 0 ≤ x.lease ∧ 1 ≤ x.create ∧ x.create ≤ x.mod ∧ x.mod ≤ rev ∧ (x.mod = x.create → x.version = 1) ∧ (x.mod ≠ x.create → 2 ≤ x.version ∧ x.version ≤ x.mod - x.create + 1)
theorem zpm {x : Kv} {rev : Int} : mayB x rev = true ↔ MayP x rev := by
 unfold mayB MayP; by_cases h : keyE x.key ≠ 0 ∨ 1024 < x.value.size ∨ x.lease < 0 ∨ x.create < 1 ∨ x.mod < x.create ∨ rev < x.mod
 · rw [if_pos h]
   constructor
   · intro e; cases e
   rintro ⟨a, b, c, d, e, f, _⟩
   rcases h with h | h | h | h | h | h
   · exact absurd a h
   all_goals omega
 rw [if_neg h]
 simp only [not_or, Int.not_lt, Nat.not_lt, Decidable.not_not] at h; obtain ⟨a, b, c, d, e, f⟩ := h; by_cases hm : x.mod = x.create
 · rw [if_pos hm, beq_iff_eq]
   exact ⟨fun h => ⟨a, b, c, d, e, f, fun _ => h, fun hn => absurd hm hn⟩, fun h => h.2.2.2.2.2.2.1 hm⟩
 rw [if_neg hm, Bool.and_eq_true, decide_eq_true_eq, decide_eq_true_eq]
 exact ⟨fun h => ⟨a, b, c, d, e, f, fun hn => absurd hn hm, fun _ => h⟩, fun h => h.2.2.2.2.2.2.2 hm⟩
theorem MayP.mono {x : Kv} {r r' : Int} (h : MayP x r) (hr : r ≤ r') : MayP x r' := by
 obtain ⟨a, b, c, d, e, f, g⟩ := h; exact ⟨a, b, c, d, e, by omega, g⟩
theorem MayP.ver {x : Kv} {r : Int} (h : MayP x r) : 1 ≤ x.version ∧ x.mod ≤ r ∧ 1 ≤ x.mod := by
 obtain ⟨a, b, c, d, e, f, g1, g2⟩ := h; by_cases hm : x.mod = x.create
 · have := g1 hm; omega
 have := g2 hm; omega
def EvW (e : Ev) : Prop :=
 (e.kind = 1 ∧ e.kv.value.size ≤ 1024 ∧ 0 ≤ e.kv.lease ∧ e.kv.create = (if e.prev.version = 0 then e.kv.mod else e.prev.create) ∧ e.kv.version = e.prev.version + 1) ∨
 (e.kind = 2 ∧ 0 < e.prev.version ∧ e.kv = ⟨e.kv.key, ByteArray.empty, 0, e.kv.mod, 0, 0⟩)
def PrevW (e : Ev) : Prop := e.prev = kv0 ∨ (e.prev.key = e.kv.key ∧ MayP e.prev (e.kv.mod - 1))
theorem zti {e : Ev} (h : EvW e) (h1 : e.kind = 1) (hk : keyE e.kv.key = 0) (hm : 1 ≤ e.kv.mod) (hp : PrevW e) : MayP e.kv e.kv.mod := by
 rcases h with ⟨_, a, b, c, d⟩ | ⟨h2, _⟩
 · rcases hp with hp | ⟨_, hp⟩
   · rw [hp] at c d
     have c' : e.kv.create = e.kv.mod := c; have d' : e.kv.version = 1 := d; exact ⟨hk, a, b, by omega, by omega, Int.le_refl _, fun _ => d', fun hn => absurd c'.symm hn⟩
   have hv := hp.ver
   obtain ⟨p1, p2, p3, p4, p5, p6, p7, p8⟩ := hp; rw [if_neg (by omega)] at c; refine ⟨hk, a, b, by omega, by omega, Int.le_refl _, fun hn => by omega, fun _ => ⟨by omega, ?_⟩⟩; by_cases hq : e.prev.mod = e.prev.create
   · have := p7 hq; omega
   have := p8 hq; omega
 rw [h1] at h2; cases h2
theorem ziw {l : List Kv} (hs : KSorted l) (A : List Ev) (e : Ev) (B : List Ev) (hB : ∀ y ∈ B, y.kv.key ≠ e.kv.key) : hasL ((A ++ e :: B).foldl doneL l) e.kv.key = if e.kind = 1 then some e.kv else none := by
 rw [List.foldl_append, List.foldl_cons]; have h1 : KSorted (doneL (A.foldl doneL l) e) := zco (zbd hs A) e
 have h2 : hasL (doneL (A.foldl doneL l) e) e.kv.key = if e.kind = 1 then some e.kv else none := by
  rw [zcr (zbd hs A), if_pos (zar.2 rfl)]
 generalize doneL (A.foldl doneL l) e = m at *; rw [← h2]; clear h2
 induction B generalizing m with
 | nil => rfl
 | cons y B ih =>
   rw [List.foldl_cons, ih (fun z hz => hB z (List.mem_cons_of_mem _ hz)) _ (zco h1 y), zcr h1, if_neg]; intro hk; exact hB y List.mem_cons_self (zar.1 hk).symm
set_option maxRecDepth 100000
set_option maxHeartbeats 4000000 in
theorem zcb (w : World) (x y : Kv) : Calls Tryz.prog 82 #[kvV x, kvV y] w fun e w' => e = .returned (.bool (sameB x y)) ∧ Fr No w w' := by
 obtain ⟨x1, x2, x3, x4, x5, x6⟩ := x; obtain ⟨y1, y2, y3, y4, y5, y6⟩ := y; have HR : ∀ b, b = sameB ⟨x1, x2, x3, x4, x5, x6⟩ ⟨y1, y2, y3, y4, y5, y6⟩ → Ending.returned (.bool b) = .returned (.bool (sameB ⟨x1, x2, x3, x4, x5, x6⟩ ⟨y1, y2, y3, y4, y5, y6⟩)) := fun b h => by rw [h]
 have HR2 := H_ HR; clear HR; unfold kvV; dsimp only; generalize hs : sameB ⟨x1, x2, x3, x4, x5, x6⟩ ⟨y1, y2, y3, y4, y5, y6⟩ = sb at *; unfold sameB keq at hs; dsimp only at hs; by_cases h1 : (x1.toList == y1.toList) = true
 · by_cases h2 : (x2.toList == y2.toList) = true
   · by_cases h3 : (x3 == y3) = true
     · by_cases h4 : (x4 == y4) = true
       · by_cases h5 : (x5 == y5) = true
         · by_cases h6 : (x6 == y6) = true
           · rw [h1, h2, h3, h4, h5, h6] at hs
             have HS := H_ hs; clear hs; go_enter Tryz.func82, Tryz.ntmps82; go_wp2; go_ret; exact ⟨HR2.out _ (by rw [← HS.out]; rfl), ((Fr.refl No w).alloc _).alloc _⟩
           have h6' : (x6 == y6) = false := by simpa using h6
           clear h6; rw [h1, h2, h3, h4, h5, h6'] at hs; have HS := H_ hs; clear hs; go_enter Tryz.func82, Tryz.ntmps82; go_wp2; go_ret; exact ⟨HR2.out _ (by rw [← HS.out]; rfl), ((Fr.refl No w).alloc _).alloc _⟩
         have h5' : (x5 == y5) = false := by simpa using h5
         clear h5; rw [h1, h2, h3, h4, h5'] at hs; have HS := H_ hs; clear hs; go_enter Tryz.func82, Tryz.ntmps82; go_wp2; go_ret; exact ⟨HR2.out _ (by rw [← HS.out]; rfl), ((Fr.refl No w).alloc _).alloc _⟩
       have h4' : (x4 == y4) = false := by simpa using h4
       clear h4; rw [h1, h2, h3, h4'] at hs; have HS := H_ hs; clear hs; go_enter Tryz.func82, Tryz.ntmps82; go_wp2; go_ret; exact ⟨HR2.out _ (by rw [← HS.out]; rfl), ((Fr.refl No w).alloc _).alloc _⟩
     have h3' : (x3 == y3) = false := by simpa using h3
     clear h3; rw [h1, h2, h3'] at hs; have HS := H_ hs; clear hs; go_enter Tryz.func82, Tryz.ntmps82; go_wp2; go_ret; exact ⟨HR2.out _ (by rw [← HS.out]; rfl), ((Fr.refl No w).alloc _).alloc _⟩
   have h2' : (x2.toList == y2.toList) = false := by simpa using h2
   clear h2; rw [h1, h2'] at hs; have HS := H_ hs; clear hs; go_enter Tryz.func82, Tryz.ntmps82; go_wp2; go_ret; exact ⟨HR2.out _ (by rw [← HS.out]; rfl), ((Fr.refl No w).alloc _).alloc _⟩
 have h1' : (x1.toList == y1.toList) = false := by simpa using h1
 clear h1; rw [h1'] at hs; have HS := H_ hs; clear hs; go_enter Tryz.func82, Tryz.ntmps82; go_wp2; go_ret; exact ⟨HR2.out _ (by rw [← HS.out]; rfl), ((Fr.refl No w).alloc _).alloc _⟩
set_option maxHeartbeats 4000000 in
theorem zgs (w : World) (v : Value) (L : List Kv) (hv : SlR w 6 kvC v L) (hl : L.length ≤ 1099511627) (key : ByteArray) :
 Calls Tryz.prog 72 #[v, .string key] w fun e w' => e = .returned (kvV ((hasL L key).getD kv0)) ∧ Fr No w w' := by
 obtain ⟨va, vcap, rfl, h1, h2, h3⟩ := hv.shape; have HV := H_ hv; have HA := H_ h3; have hb1 := zad w (Obj.cells #[.string ByteArray.empty, .string ByteArray.empty, .int .i64 0, .int .i64 0, .int .i64 0, .int .i64 0] 99) _ rfl; have HB1 := H_ hb1; have HK0 : Hid (kvV kv0 = .agg #[.string ByteArray.empty, .string ByteArray.empty, .int .i64 0, .int .i64 0, .int .i64 0, .int .i64 0]) := H_ rfl; clear hv h3 hb1; go_enter Tryz.func72, Tryz.ntmps72; go_wp2
 go_loopg [5] L.length (fun g s5 wr => ∃ i : Nat, s5 = .int .i64 i ∧ i + g = L.length ∧ Hid (hasL L key = hasL (L.drop i) key) ∧ Hid (Fr No w wr) ∧ Hid (wr.heap[w.heap.size]? = some (.cells #[.string ByteArray.empty, .string ByteArray.empty, .int .i64 0, .int .i64 0, .int .i64 0, .int .i64 0] 99 (0, 0))))
 case atStart => exact ⟨0, rfl, by simp, H_ rfl, H_ ((Fr.refl No w).alloc _), HB1⟩
 case round =>
  obtain ⟨i, rfl, hi, HH, HF, HB⟩ := hrel; have lb := zaa HB.out; have bf : ∀ j, wr.frozen? ⟨w.heap.size, j, none⟩ = false := fun j => by simp [World.frozen?, HB.out]
  have b0 : wr.cell? ⟨w.heap.size, 0, none⟩ = some (.string ByteArray.empty) := (by simp [World.cell?, HB.out]); have b1 : wr.cell? ⟨w.heap.size, 1, none⟩ = some (.string ByteArray.empty) := (by simp [World.cell?, HB.out]); have b2 : wr.cell? ⟨w.heap.size, 2, none⟩ = some (.int .i64 0) := (by simp [World.cell?, HB.out]); have b3 : wr.cell? ⟨w.heap.size, 3, none⟩ = some (.int .i64 0) := (by simp [World.cell?, HB.out]); have b4 : wr.cell? ⟨w.heap.size, 4, none⟩ = some (.int .i64 0) := (by simp [World.cell?, HB.out]); have b5 : wr.cell? ⟨w.heap.size, 5, none⟩ = some (.int .i64 0) := (by simp [World.cell?, HB.out])
  have hst : ∀ (y : Kv), Fr No w ((((((wr.setCell ⟨w.heap.size, 0, none⟩ (.string y.key)).setCell ⟨w.heap.size, 1, none⟩ (.string y.value)).setCell ⟨w.heap.size, 2, none⟩ (.int .i64 y.create)).setCell ⟨w.heap.size, 3, none⟩ (.int .i64 y.mod)).setCell ⟨w.heap.size, 4, none⟩ (.int .i64 y.version)).setCell ⟨w.heap.size, 5, none⟩ (.int .i64 y.lease)) := fun y =>
   (((((HF.out.setCell (p := ⟨w.heap.size, 0, none⟩) (.inr (Nat.le_refl _)) _).setCell (p := ⟨w.heap.size, 1, none⟩) (.inr (Nat.le_refl _)) _).setCell (p := ⟨w.heap.size, 2, none⟩) (.inr (Nat.le_refl _)) _).setCell (p := ⟨w.heap.size, 3, none⟩) (.inr (Nat.le_refl _)) _).setCell (p := ⟨w.heap.size, 4, none⟩) (.inr (Nat.le_refl _)) _).setCell (p := ⟨w.heap.size, 5, none⟩) (.inr (Nat.le_refl _)) _
  have hbl : ∀ (y : Kv), ((((((wr.setCell ⟨w.heap.size, 0, none⟩ (.string y.key)).setCell ⟨w.heap.size, 1, none⟩ (.string y.value)).setCell ⟨w.heap.size, 2, none⟩ (.int .i64 y.create)).setCell ⟨w.heap.size, 3, none⟩ (.int .i64 y.mod)).setCell ⟨w.heap.size, 4, none⟩ (.int .i64 y.version)).setCell ⟨w.heap.size, 5, none⟩ (.int .i64 y.lease)).heap[w.heap.size]? = some (.cells #[.string y.key, .string y.value, .int .i64 y.create, .int .i64 y.mod, .int .i64 y.version, .int .i64 y.lease] 99 (0, 0)) := fun y => by
   have z1 := zac HB.out 0 (.string y.key); have z2 := zac z1 1 (.string y.value); have z3 := zac z2 2 (.int .i64 y.create); have z4 := zac z3 3 (.int .i64 y.mod); have z5 := zac z4 4 (.int .i64 y.version); have z6 := zac z5 5 (.int .i64 y.lease); simpa using z6
  have HST := H_ hst; have HBL := H_ hbl; clear hst hbl
  cases gk with
  | zero =>
    have hil : ¬ (i : Int) < (L.length : Int) := (by omega); have hn : (hasL L key).getD kv0 = kv0 := (by rw [HH.out, List.drop_of_length_le (by omega)]; rfl); have HN := H_ hn; clear hn; go_wp2; rw [HN.out]; exact bodyPost_ret (results_cell_row rfl _ _ w.heap.size 99 _ (0, 0) _ rfl (HBL.out kv0) Tryz.underlying99 rfl (by kernel_rfl)) rfl ⟨rfl, HST.out kv0⟩
  | succ g =>
    have hil : (i : Int) < (L.length : Int) := (by omega); obtain ⟨x, hx⟩ : ∃ x, L[i]? = some x := ⟨_, List.getElem?_eq_getElem (by omega)⟩; obtain ⟨ga, oa, rfl⟩ := HA.out (by omega)
    have hd : L.drop i = x :: L.drop (i + 1) := by
     obtain ⟨i1, i2⟩ := List.getElem?_eq_some_iff.1 hx; rw [← i2]; exact List.drop_eq_getElem_cons i1
    have hh := HH.out; rw [hd] at hh; unfold hasL at hh; rw [List.find?_cons] at hh; have hua := HV.out.fr0 HF.out; have f0 := hua.cell0 zaf i hx rfl; have f1 := hua.cell zaf i 1 hx rfl; have f2 := hua.cell zaf i 2 hx rfl; have f3 := hua.cell zaf i 3 hx rfl; have f4 := hua.cell zaf i 4 hx rfl; have f5 := hua.cell zaf i 5 hx rfl; have lf := World.block_lt_of_cell? _ _ f0
    cases hk : keq x.key key with
    | true =>
      rw [hk] at hh; dsimp only at hh; have hn : (hasL L key).getD kv0 = x := (by unfold hasL; rw [hh]; rfl); have HN := H_ hn; have hk' : (x.key.toList == key.toList) = true := hk; clear hn hh hx hua hd hk HH; obtain ⟨x1, x2, x3, x4, x5, x6⟩ := x; dsimp only at f0 f1 f2 f3 f4 f5 hk'; go_wp2; rw [HN.out]; exact bodyPost_ret (results_cell_row rfl _ _ w.heap.size 99 _ (0, 0) _ rfl (HBL.out ⟨x1, x2, x3, x4, x5, x6⟩) Tryz.underlying99 rfl (by kernel_rfl)) rfl ⟨rfl, HST.out ⟨x1, x2, x3, x4, x5, x6⟩⟩
    | false =>
      rw [hk] at hh; dsimp only at hh; have HN : Hid (hasL L key = hasL (L.drop (i + 1)) key) := H_ (by unfold hasL; exact hh); have hk' : (x.key.toList == key.toList) = false := hk; clear hh hx hua hd hk HH b0 b1 b2 b3 b4 b5 bf f1 f2 f3 f4 f5; generalize x.key = xk at *; go_wp2; go_roundg g
      case rel => exact ⟨i + 1, by go_num, by omega, HN, HF, HB⟩
      case measure => omega
theorem zcf {α : Type} {f : α → List Value} {P : Program} {w : World} {ops : Array Oper} {rest : List Oper} {o : Oper} {a : Act} {Q : Exit → Act → World → Prop} (hgd : o.guard = none) (s x : Operand) (t : TypeId)
 (ho : o.op = .call { callee := .builtin .append, args := #[s, x], argTypes := #[t, t] })
 (e : TypeId) (i : TypeInfo) (z : Value) (sz bytes : Nat) (ht : P.underlying t = some (.slice e)) (hi : P.info? e = some i) (hz : i.zero = some z) (hsize : i.size = sz) (hby : i.bytes = bytes) (hzs : z.cells.size = sz) (hsz : 0 < sz)
 (v : Value) (L : List α) (hs : a.eval s = v) (hown : SlF w e sz f v L) (w0 : World) (hnb : ∀ k, v.ownBlock = some k → w0.heap.size ≤ k) (hfr : Fr No w0 w)
 (b c : Nat) (y : α) (hx : a.eval x = .slice (some ⟨b, 0, none⟩) 1 c) (hnews : ∀ j u, (f y)[j]? = some u → w.cell? ((⟨b, 0, none⟩ : Addr).add j) = some u) (hl : (f y).length = sz) (h1 : ∀ u ∈ f y, u.oneCell' = true)
 (h63 : L.length + 1 ≤ maxLen) (hbytes : (L.length + 1) * bytes ≤ 140737488355328)
 (h : ∀ g o' cap w', SlF w' e sz f (.slice (some ⟨g, o', none⟩) (L.length + 1) cap) (L ++ [y]) → w0.heap.size ≤ g → Fr No w0 w' → g < w'.heap.size →
   wpList P ops Q rest (a.put o.dst (.slice (some ⟨g, o', none⟩) (L.length + 1) cap)) w') : wpList P ops Q (o :: rest) a w := by
 refine zap hgd s x t ho e i z sz bytes ht hi hz hsize hby hzs hsz v L hs hown b c y hx hnews hl h1 h63 hbytes ?_; intro g o' cap w' h2 h3 h4 h5; refine h g o' cap w' h2 ?_ (hfr.grown h3 fun k hk => .inr (hnb k hk)) h5; rcases h4 with e | e
 · exact hnb _ e
 rw [e]; exact hfr.size
theorem zfr (y : Kv) : ∀ u ∈ kvC y, u.oneCell' = true := by intro u hu; simp [kvC] at hu; rcases hu with rfl | rfl | rfl | rfl | rfl | rfl <;> rfl
theorem zcu {g o n c : Nat} {B : Nat} (h : B ≤ g) : ∀ k, (Value.slice (some ⟨g, o, none⟩) n c).ownBlock = some k → B ≤ k := fun k hk => by simp [Value.ownBlock] at hk; omega
def doneSt (x : Ev) (s : List Kv × Bool) (k : Kv) : List Kv × Bool :=
 (s.1 ++ (if s.2 = false ∧ klt k.key x.kv.key = false then [x.kv] else []) ++ (if keq k.key x.kv.key = true then [] else [k]), s.2 || !klt k.key x.kv.key)
def doneX (L : List Kv) (x : Ev) : List Kv := (L.foldl (doneSt x) ([], x.kind != 1)).1 ++ if (L.foldl (doneSt x) ([], x.kind != 1)).2 then [] else [x.kv]
theorem zua (x : Ev) (O : List Kv) (p : Bool) (k : Kv) : doneSt x (O, p) k = (O ++ (if p = false ∧ klt k.key x.kv.key = false then [x.kv] else []) ++ (if keq k.key x.kv.key = true then [] else [k]), p || !klt k.key x.kv.key) := rfl
theorem zrh (x : Ev) (L : List Kv) : ∀ s : List Kv × Bool, (L.foldl (doneSt x) s).1.length ≤ s.1.length + 2 * L.length := by
 induction L with
 | nil => intro s; exact Nat.le_refl _
 | cons k l ih =>
   intro s; rw [List.foldl_cons]; have h1 := ih (doneSt x s k)
   have h2 : (doneSt x s k).1.length ≤ s.1.length + 2 := by
    unfold doneSt; simp only [List.length_append]
    split <;> split <;> simp <;> omega
   simp only [List.length_cons]; omega
theorem zih (x : Ev) (L : List Kv) : ∀ acc, L.foldl (doneSt x) (acc, true) = (acc ++ L.filter fun k => !keq k.key x.kv.key, true) := by
 induction L with
 | nil => intro acc; simp
 | cons k l ih =>
   intro acc; rw [List.foldl_cons]; have : doneSt x (acc, true) k = (acc ++ (if keq k.key x.kv.key = true then [] else [k]), true) := (by unfold doneSt; simp); rw [this, ih, List.filter_cons]; cases keq k.key x.kv.key <;> simp
theorem zmg {x : Ev} {k : Kv} {l : List Kv} (h : KSorted (k :: l)) (hk : klt k.key x.kv.key = false) : (l.filter fun k => !keq k.key x.kv.key) = l := by
 rw [List.filter_eq_self]; intro y hy; obtain ⟨h1, _⟩ := List.pairwise_cons.1 h; have := zet hk (h1 y hy); rw [zbv, klt_ne this]
 rfl
theorem zpx {L : List Kv} (h : KSorted L) (x : Ev) : doneX L x = doneL L x := by
 by_cases hk : x.kind = 1
 · have key : ∀ (l : List Kv), KSorted l → ∀ acc, (l.foldl (doneSt x) (acc, false)).1 ++ (if (l.foldl (doneSt x) (acc, false)).2 then [] else [x.kv]) = acc ++ doneL l x := by
    intro l
    induction l with
    | nil => intro _ acc; simp [doneL, hk]
    | cons k l ih =>
      intro hs acc; obtain ⟨h1, h2⟩ := List.pairwise_cons.1 hs; rw [List.foldl_cons]; unfold doneL
      cases hlt : klt k.key x.kv.key with
      | true =>
        have hne := klt_ne hlt; have : doneSt x (acc, false) k = (acc ++ [k], false) := (by unfold doneSt; simp [hlt, hne]); rw [this, ih h2, if_pos rfl]; simp
      | false =>
        have : doneSt x (acc, false) k = (acc ++ [x.kv] ++ (if keq k.key x.kv.key = true then [] else [k]), true) := (by unfold doneSt; simp [hlt]); rw [this, zih, zmg hs hlt]; simp only [hk, if_true, Bool.false_eq_true, if_false]; cases keq k.key x.kv.key <;> simp
   unfold doneX; have e : (x.kind != 1) = false := (by rw [hk]; rfl); rw [e, key L h []]
   rfl
 unfold doneX
 have e : (x.kind != 1) = true := (by rw [bne_iff_ne]; exact hk); rw [e, zih]; simp only [List.nil_append, if_true, List.append_nil]; clear e
 induction L with
 | nil => simp [doneL, hk]
 | cons k l ih =>
   obtain ⟨h1, h2⟩ := List.pairwise_cons.1 h; unfold doneL
   cases hlt : klt k.key x.kv.key with
   | true =>
     rw [List.filter_cons, if_pos (by rw [klt_ne hlt]; rfl), ih h2, if_pos rfl]
   | false =>
     rw [List.filter_cons, zmg h hlt]; simp only [hk, if_false, Bool.false_eq_true]; cases keq k.key x.kv.key <;> simp
theorem zfg {a b : ByteArray} (h : klt a b = true) : Op.bytesLess a.toList b.toList = true ∧ Op.bytesLess b.toList a.toList = false ∧ (a.toList == b.toList) = false ∧ (b.toList == a.toList) = false ∧ (a.toList != b.toList) = true := by
 have h1 := zcd h; have h2 : keq a b = false := klt_ne h; have h3 : keq b a = false := by rw [zbv]; exact h2
 exact ⟨h, h1, h2, h3, by unfold bne; rw [show (a.toList == b.toList) = false from h2]; rfl⟩
set_option maxHeartbeats 8000000 in
theorem zfx (w : World) (v : Value) (L : List Kv) (hv : SlR w 6 kvC v L) (hl : L.length ≤ 100000000) (x : Ev) :
 Calls Tryz.prog 73 #[v, evV x] w fun e w' => ∃ v', e = .returned v' ∧ SlF w' 99 6 kvC v' (doneX L x) ∧ (∀ b, v'.ownBlock = some b → w.heap.size ≤ b) ∧ Fr No w w' := by
 obtain ⟨va, vcap, rfl, h1, h2, h3⟩ := hv.shape; have HX : Hid (doneX L x = (L.foldl (doneSt x) ([], x.kind != 1)).1 ++ if (L.foldl (doneSt x) ([], x.kind != 1)).2 then [] else [x.kv]) := H_ rfl; have hb1 := zad w (Obj.cells #[.int .i64 x.kind, .string x.kv.key, .string x.kv.value, .int .i64 x.kv.create, .int .i64 x.kv.mod, .int .i64 x.kv.version, .int .i64 x.kv.lease, .string x.prev.key, .string x.prev.value, .int .i64 x.prev.create, .int .i64 x.prev.mod, .int .i64 x.prev.version, .int .i64 x.prev.lease] 101) _ rfl; have hf1 : Fr No w (w.alloc (Obj.cells #[.int .i64 x.kind, .string x.kv.key, .string x.kv.value, .int .i64 x.kv.create, .int .i64 x.kv.mod, .int .i64 x.kv.version, .int .i64 x.kv.lease, .string x.prev.key, .string x.prev.value, .int .i64 x.prev.create, .int .i64 x.prev.mod, .int .i64 x.prev.version, .int .i64 x.prev.lease] 101)) := (Fr.refl No w).alloc _
 have hv1 := hv.fr0 hf1; obtain ⟨i0, hi0, hz0, hz1, hz2⟩ := info_parts info57; obtain ⟨p0, hp0⟩ : ∃ p0, (x.kind != 1) = p0 := ⟨_, rfl⟩; have HP0 := H_ hp0; have hinv := fun i => zrh x (L.take i) ([], p0); rw [hp0] at HX; have HV := H_ hv1; have HA := H_ h3; have HB1 := H_ hb1; have HF1 := H_ hf1; have HINV := H_ hinv; clear hv hv1 h3 hb1 hf1 hinv hp0; unfold evV; obtain ⟨kd, ⟨p1, p2, p3, p4, p5, p6⟩, ⟨q1, q2, q3, q4, q5, q6⟩⟩ := x; dsimp only at HB1 HF1 HV HP0 ⊢
 have hp0 : (kd != 1) = p0 := HP0.out; go_enter Tryz.func73, Tryz.ntmps73; go_wp2; generalize w.alloc (Obj.cells #[.int .i64 kd, .string p1, .string p2, .int .i64 p3, .int .i64 p4, .int .i64 p5, .int .i64 p6, .string q1, .string q2, .int .i64 q3, .int .i64 q4, .int .i64 q5, .int .i64 q6] 101) = W1 at *; clear hp0; have hws : w.heap.size < W1.heap.size := zaa HB1.out
 go_loopg [5, 6, 7] L.length (fun g s5 s6 s7 wr => ∃ (i : Nat) (o : Value) (O : List Kv) (p : Bool), s5 = o ∧ s6 = .bool p ∧ s7 = .int .i64 i ∧ i + g = L.length ∧ Hid ((L.take i).foldl (doneSt ⟨kd, ⟨p1, p2, p3, p4, p5, p6⟩, ⟨q1, q2, q3, q4, q5, q6⟩⟩) ([], p0) = (O, p)) ∧ Hid (SlF wr 99 6 kvC o O) ∧ Hid (∀ b, o.ownBlock = some b → W1.heap.size ≤ b) ∧ Hid (Fr No W1 wr))
 case atStart => exact ⟨0, _, [], p0, rfl, rfl, rfl, by simp, H_ rfl, H_ (SlF.nil _ _ _ _), H_ (by simp [Value.ownBlock]), H_ (Fr.refl No W1)⟩
 case round =>
  obtain ⟨i, o, O, p, rfl, rfl, rfl, hi, HFD, HO, HON, HF⟩ := hrel; obtain ⟨oa, ocap, rfl, ho1, ho2, ho3⟩ := HO.out.shape; clear ho3
  have hOl : O.length ≤ 2 * i := by
   have := HINV.out i; rw [HFD.out] at this; simp only [List.length_nil, List.length_take] at this; omega
  have hb := HF.out.heap HB1.out id; have lb := zaa hb; have b0 := cellAt hb 0 rfl; have b1 := cellAt hb 1 rfl; have b2 := cellAt hb 2 rfl; have b3 := cellAt hb 3 rfl; have b4 := cellAt hb 4 rfl; have b5 := cellAt hb 5 rfl; have b6 := cellAt hb 6 rfl; have hnx := zax wr (kvC ⟨p1, p2, p3, p4, p5, p6⟩) 99 (0, 0); have HNX := H_ hnx; clear hnx hb
  cases gk with
  | zero =>
    have hil : ¬ (i : Int) < (L.length : Int) := (by omega); have hie : i = L.length := (by omega); subst hie; have hfd := HFD.out; rw [List.take_length] at hfd; have hx := HX.out; rw [hfd] at hx; dsimp only at hx
    cases p with
    | true =>
      rw [if_pos rfl, List.append_nil] at hx; have HX2 := H_ hx; clear hx hfd; go_wp2; go_ret; exact ⟨_, rfl, by rw [HX2.out]; exact HO.out, fun b hb => by have := HON.out b hb; omega, HF1.out.trans0 HF.out⟩
    | false =>
      rw [if_neg (by simp)] at hx; have HX2 := H_ hx; clear hx hfd; go_wp2_with (at_builtin; refine zcf rfl _ _ 27 rfl 99 i0 _ 6 64 Tryz.underlying27 hi0 hz0 hz1 hz2 rfl (by decide) _ O rfl (HO.out.alloc _) W1 HON.out (HF.out.alloc _) wr.heap.size 1 ⟨p1, p2, p3, p4, p5, p6⟩ rfl HNX.out rfl (zfr _) (by unfold maxLen; omega) (by omega) ?_); intro g1 o1 cap1 w5 hs5 hg5 hf5 hlt5; have HS5 := H_ hs5; have HF5 := H_ hf5; clear hs5 hf5; go_wp2; go_ret; exact ⟨_, rfl, by rw [HX2.out]; simpa using HS5.out, fun b hb => by have := zcu hg5 b hb; omega, HF1.out.trans0 HF5.out⟩
  | succ g =>
    have hil : (i : Int) < (L.length : Int) := (by omega); obtain ⟨x, hx⟩ : ∃ x, L[i]? = some x := ⟨_, List.getElem?_eq_getElem (by omega)⟩; obtain ⟨ga, go, rfl⟩ := HA.out (by omega)
    have hstep : (L.take (i + 1)).foldl (doneSt ⟨kd, ⟨p1, p2, p3, p4, p5, p6⟩, ⟨q1, q2, q3, q4, q5, q6⟩⟩) ([], p0) = doneSt ⟨kd, ⟨p1, p2, p3, p4, p5, p6⟩, ⟨q1, q2, q3, q4, q5, q6⟩⟩ (O, p) x := by
     rw [List.take_add_one, hx, List.foldl_append, HFD.out]; rfl
    rw [zua] at hstep; dsimp only at hstep; have hcl := fun (W : World) (hW : Fr No W1 W) => (HV.out.fr0 hW); have hua := HV.out.fr0 HF.out; have f0 := hua.cell0 zaf i hx rfl; have f1 := hua.cell zaf i 1 hx rfl; have f2 := hua.cell zaf i 2 hx rfl; have f3 := hua.cell zaf i 3 hx rfl; have f4 := hua.cell zaf i 4 hx rfl; have f5 := hua.cell zaf i 5 hx rfl; have lf := World.block_lt_of_cell? _ _ f0; obtain ⟨x1, x2, x3, x4, x5, x6⟩ := x; dsimp only at f0 f1 f2 f3 f4 f5 hstep; have hnk := fun (W : World) => zax W (kvC ⟨x1, x2, x3, x4, x5, x6⟩) 99 (0, 0); have HNK := H_ hnk; have HXI := H_ hx; clear hnk hua hx hcl
    cases p with
    | true =>
      rcases zdx x1 p1 with hc | rfl | hc
      · obtain ⟨e1, e2, e3, e4, e5⟩ := zfg hc
        rw [show klt x1 p1 = true from hc, show keq x1 p1 = false from e3] at hstep; have HSTP : Hid ((L.take (i + 1)).foldl (doneSt ⟨kd, ⟨p1, p2, p3, p4, p5, p6⟩, ⟨q1, q2, q3, q4, q5, q6⟩⟩) ([], p0) = (O ++ [⟨x1, x2, x3, x4, x5, x6⟩], true)) := H_ (by rw [hstep]; simp); clear hstep hc; go_upto_region 6 with fail; refine wp_region_still_lit (by kernel_rfl) (by kernel_rfl) ?_; change wpStill _ _ wr.drew _ _ _
        repeat (refine (wpStill_step (fun K hK => ?_) : _); go_simp; refine hK _ ?_; clear hK K)
        refine (wpStill_nil ?_ : _); change Exit.then _ _ _ _ wr.drew; go_upto_region 9 with fail; refine wp_region_still_lit (by kernel_rfl) (by kernel_rfl) ?_; change wpStill _ _ wr.drew.drew _ _ _
        repeat (refine (wpStill_step (fun K hK => ?_) : _); go_simp; refine hK _ ?_; clear hK K)
        refine (wpStill_nil ?_ : _); change Exit.then _ _ _ _ wr.drew.drew; go_wp2_with (at_builtin; refine zcf rfl _ _ 27 rfl 99 i0 _ 6 64 Tryz.underlying27 hi0 hz0 hz1 hz2 rfl (by decide) _ O rfl (HO.out.alloc _).drew.drew W1 HON.out (HF.out.alloc _).drew.drew wr.heap.size 1 ⟨x1, x2, x3, x4, x5, x6⟩ rfl (HNK.out _) rfl (zfr _) (by unfold maxLen; omega) (by omega) ?_); intro g6 o6 cap6 w6 hs6 hg6 hf6 hlt6; have HS6 := H_ hs6; have HF6 := H_ hf6; clear hs6 hf6; go_wp2; go_roundg g
        case rel => exact ⟨i + 1, _, _, _, rfl, rfl, by go_num, by omega, HSTP, H_ (by simpa using HS6.out), H_ (zcu hg6), HF6⟩
        case measure => omega
      · have e1 : Op.bytesLess x1.toList x1.toList = false := zaz x1
        rw [show klt x1 x1 = false from e1, show keq x1 x1 = true from zkc x1] at hstep; have HSTP : Hid ((L.take (i + 1)).foldl (doneSt ⟨kd, ⟨x1, p2, p3, p4, p5, p6⟩, ⟨q1, q2, q3, q4, q5, q6⟩⟩) ([], p0) = (O, true)) := H_ (by rw [hstep]; simp); clear hstep; go_upto_region 6 with fail; refine wp_region_still_lit (by kernel_rfl) (by kernel_rfl) ?_; change wpStill _ _ wr.drew _ _ _
        repeat (refine (wpStill_step (fun K hK => ?_) : _); go_simp; refine hK _ ?_; clear hK K)
        refine (wpStill_nil ?_ : _); change Exit.then _ _ _ _ wr.drew; go_upto_region 9 with fail; refine wp_region_still_lit (by kernel_rfl) (by kernel_rfl) ?_; change wpStill _ _ wr.drew.drew _ _ _
        repeat (refine (wpStill_step (fun K hK => ?_) : _); go_simp; refine hK _ ?_; clear hK K)
        refine (wpStill_nil ?_ : _); change Exit.then _ _ _ _ wr.drew.drew; go_wp2; go_roundg g
        case rel => exact ⟨i + 1, _, _, _, rfl, rfl, by go_num, by omega, HSTP, H_ HO.out.drew.drew, HON, H_ HF.out.drew.drew⟩
        case measure => omega
      obtain ⟨e1, e2, e3, e4, _⟩ := zfg hc
      have e6 : (x1.toList != p1.toList) = true := (by unfold bne; rw [e4]; rfl); rw [show klt x1 p1 = false from e2, show keq x1 p1 = false from e4] at hstep; have HSTP : Hid ((L.take (i + 1)).foldl (doneSt ⟨kd, ⟨p1, p2, p3, p4, p5, p6⟩, ⟨q1, q2, q3, q4, q5, q6⟩⟩) ([], p0) = (O ++ [⟨x1, x2, x3, x4, x5, x6⟩], true)) := H_ (by rw [hstep]; simp); clear hstep hc; go_upto_region 6 with fail; refine wp_region_still_lit (by kernel_rfl) (by kernel_rfl) ?_; change wpStill _ _ wr.drew _ _ _
      repeat (refine (wpStill_step (fun K hK => ?_) : _); go_simp; refine hK _ ?_; clear hK K)
      refine (wpStill_nil ?_ : _); change Exit.then _ _ _ _ wr.drew; go_upto_region 9 with fail; refine wp_region_still_lit (by kernel_rfl) (by kernel_rfl) ?_; change wpStill _ _ wr.drew.drew _ _ _
      repeat (refine (wpStill_step (fun K hK => ?_) : _); go_simp; refine hK _ ?_; clear hK K)
      refine (wpStill_nil ?_ : _); change Exit.then _ _ _ _ wr.drew.drew; go_wp2_with (at_builtin; refine zcf rfl _ _ 27 rfl 99 i0 _ 6 64 Tryz.underlying27 hi0 hz0 hz1 hz2 rfl (by decide) _ O rfl (HO.out.alloc _).drew.drew W1 HON.out (HF.out.alloc _).drew.drew wr.heap.size 1 ⟨x1, x2, x3, x4, x5, x6⟩ rfl (HNK.out _) rfl (zfr _) (by unfold maxLen; omega) (by omega) ?_); intro g6 o6 cap6 w6 hs6 hg6 hf6 hlt6; have HS6 := H_ hs6; have HF6 := H_ hf6; clear hs6 hf6; go_wp2; go_roundg g
      case rel => exact ⟨i + 1, _, _, _, rfl, rfl, by go_num, by omega, HSTP, H_ (by simpa using HS6.out), H_ (zcu hg6), HF6⟩
      case measure => omega
    | false =>
      rcases zdx x1 p1 with hc | rfl | hc
      · obtain ⟨e1, e2, e3, e4, e5⟩ := zfg hc
        rw [show klt x1 p1 = true from hc, show keq x1 p1 = false from e3] at hstep; have HSTP : Hid ((L.take (i + 1)).foldl (doneSt ⟨kd, ⟨p1, p2, p3, p4, p5, p6⟩, ⟨q1, q2, q3, q4, q5, q6⟩⟩) ([], p0) = (O ++ [⟨x1, x2, x3, x4, x5, x6⟩], false)) := H_ (by rw [hstep]; simp); clear hstep hc; go_upto_region 6 with fail; refine wp_region_still_lit (by kernel_rfl) (by kernel_rfl) ?_; change wpStill _ _ wr.drew _ _ _
        repeat (refine (wpStill_step (fun K hK => ?_) : _); go_simp; refine hK _ ?_; clear hK K)
        refine (wpStill_nil ?_ : _); change Exit.then _ _ _ _ wr.drew; go_upto_region 9 with fail; refine wp_region_still_lit (by kernel_rfl) (by kernel_rfl) ?_; change wpStill _ _ wr.drew.drew _ _ _
        repeat (refine (wpStill_step (fun K hK => ?_) : _); go_simp; refine hK _ ?_; clear hK K)
        refine (wpStill_nil ?_ : _); change Exit.then _ _ _ _ wr.drew.drew; go_wp2_with (at_builtin; refine zcf rfl _ _ 27 rfl 99 i0 _ 6 64 Tryz.underlying27 hi0 hz0 hz1 hz2 rfl (by decide) _ O rfl (HO.out.alloc _).drew.drew W1 HON.out (HF.out.alloc _).drew.drew wr.heap.size 1 ⟨x1, x2, x3, x4, x5, x6⟩ rfl (HNK.out _) rfl (zfr _) (by unfold maxLen; omega) (by omega) ?_); intro g6 o6 cap6 w6 hs6 hg6 hf6 hlt6; have HS6 := H_ hs6; have HF6 := H_ hf6; clear hs6 hf6; go_wp2; go_roundg g
        case rel => exact ⟨i + 1, _, _, _, rfl, rfl, by go_num, by omega, HSTP, H_ (by simpa using HS6.out), H_ (zcu hg6), HF6⟩
        case measure => omega
      · have e1 : Op.bytesLess x1.toList x1.toList = false := zaz x1
        rw [show klt x1 x1 = false from e1, show keq x1 x1 = true from zkc x1] at hstep; have HSTP : Hid ((L.take (i + 1)).foldl (doneSt ⟨kd, ⟨x1, p2, p3, p4, p5, p6⟩, ⟨q1, q2, q3, q4, q5, q6⟩⟩) ([], p0) = (O ++ [⟨x1, p2, p3, p4, p5, p6⟩], true)) := H_ (by rw [hstep]; simp); clear hstep; go_upto_region 6 with fail; refine wp_region_still_lit (by kernel_rfl) (by kernel_rfl) ?_; change wpStill _ _ wr.drew _ _ _
        repeat (refine (wpStill_step (fun K hK => ?_) : _); go_simp; refine hK _ ?_; clear hK K)
        refine (wpStill_nil ?_ : _); change Exit.then _ _ _ _ wr.drew; go_upto_region 9 with (at_builtin; refine zcf rfl _ _ 27 rfl 99 i0 _ 6 64 Tryz.underlying27 hi0 hz0 hz1 hz2 rfl (by decide) _ O rfl (HO.out.alloc _).drew W1 HON.out (HF.out.alloc _).drew wr.heap.size 1 ⟨x1, p2, p3, p4, p5, p6⟩ rfl HNX.out rfl (zfr _) (by unfold maxLen; omega) (by omega) ?_); intro g5 o5 cap5 w5 hs5 hg5 hf5 hlt5; have HS5 := H_ hs5; have HF5 := H_ hf5; have hlen5 : O.length + 1 = (O ++ [(⟨x1, p2, p3, p4, p5, p6⟩ : Kv)]).length := (by simp); have HL5 := H_ hlen5; clear hs5 hf5 hlen5 f0 f1 f2 f3 f4 f5 b0 b1 b2 b3 b4 b5 b6 lf lb; have hua5 := HV.out.fr0 HF5.out; have f05 := hua5.cell0 zaf i HXI.out rfl; have f15 := hua5.cell zaf i 1 HXI.out rfl; have f25 := hua5.cell zaf i 2 HXI.out rfl; have f35 := hua5.cell zaf i 3 HXI.out rfl; have f45 := hua5.cell zaf i 4 HXI.out rfl
        have f55 := hua5.cell zaf i 5 HXI.out rfl; have lf5 := World.block_lt_of_cell? _ _ f05; have hb5 := HF5.out.heap HB1.out id; have lb5 := zaa hb5; have b05 := cellAt hb5 0 rfl; have b15 := cellAt hb5 1 rfl; have b25 := cellAt hb5 2 rfl; have b35 := cellAt hb5 3 rfl; have b45 := cellAt hb5 4 rfl; have b55 := cellAt hb5 5 rfl; have b65 := cellAt hb5 6 rfl; clear hua5 hb5; go_upto_region 9 with fail; refine wp_region_still_lit (by kernel_rfl) (by kernel_rfl) ?_; change wpStill _ _ w5.drew _ _ _
        repeat (refine (wpStill_step (fun K hK => ?_) : _); go_simp; refine hK _ ?_; clear hK K)
        refine (wpStill_nil ?_ : _); change Exit.then _ _ _ _ w5.drew; go_wp2; go_roundg g
        case rel => exact ⟨i + 1, _, _, _, rfl, rfl, by go_num, by omega, HSTP, H_ (by simpa using HS5.out.drew), H_ (zcu hg5), H_ HF5.out.drew⟩
        case measure => omega
      obtain ⟨e1, e2, e3, e4, _⟩ := zfg hc
      have e6 : (x1.toList != p1.toList) = true := (by unfold bne; rw [e4]; rfl); rw [show klt x1 p1 = false from e2, show keq x1 p1 = false from e4] at hstep; have HSTP : Hid ((L.take (i + 1)).foldl (doneSt ⟨kd, ⟨p1, p2, p3, p4, p5, p6⟩, ⟨q1, q2, q3, q4, q5, q6⟩⟩) ([], p0) = (O ++ [⟨p1, p2, p3, p4, p5, p6⟩] ++ [⟨x1, x2, x3, x4, x5, x6⟩], true)) := H_ (by rw [hstep]; simp); clear hstep hc; go_upto_region 6 with fail; refine wp_region_still_lit (by kernel_rfl) (by kernel_rfl) ?_; change wpStill _ _ wr.drew _ _ _
      repeat (refine (wpStill_step (fun K hK => ?_) : _); go_simp; refine hK _ ?_; clear hK K)
      refine (wpStill_nil ?_ : _); change Exit.then _ _ _ _ wr.drew; go_upto_region 9 with (at_builtin; refine zcf rfl _ _ 27 rfl 99 i0 _ 6 64 Tryz.underlying27 hi0 hz0 hz1 hz2 rfl (by decide) _ O rfl (HO.out.alloc _).drew W1 HON.out (HF.out.alloc _).drew wr.heap.size 1 ⟨p1, p2, p3, p4, p5, p6⟩ rfl HNX.out rfl (zfr _) (by unfold maxLen; omega) (by omega) ?_); intro g5 o5 cap5 w5 hs5 hg5 hf5 hlt5; have HS5 := H_ hs5; have HF5 := H_ hf5; have hlen5 : O.length + 1 = (O ++ [(⟨p1, p2, p3, p4, p5, p6⟩ : Kv)]).length := (by simp); have HL5 := H_ hlen5; clear hs5 hf5 hlen5 f0 f1 f2 f3 f4 f5 b0 b1 b2 b3 b4 b5 b6 lf lb; have hua5 := HV.out.fr0 HF5.out; have f05 := hua5.cell0 zaf i HXI.out rfl; have f15 := hua5.cell zaf i 1 HXI.out rfl; have f25 := hua5.cell zaf i 2 HXI.out rfl; have f35 := hua5.cell zaf i 3 HXI.out rfl; have f45 := hua5.cell zaf i 4 HXI.out rfl
      have f55 := hua5.cell zaf i 5 HXI.out rfl; have lf5 := World.block_lt_of_cell? _ _ f05; have hb5 := HF5.out.heap HB1.out id; have lb5 := zaa hb5; have b05 := cellAt hb5 0 rfl; have b15 := cellAt hb5 1 rfl; have b25 := cellAt hb5 2 rfl; have b35 := cellAt hb5 3 rfl; have b45 := cellAt hb5 4 rfl; have b55 := cellAt hb5 5 rfl; have b65 := cellAt hb5 6 rfl; clear hua5 hb5; go_upto_region 9 with fail; refine wp_region_still_lit (by kernel_rfl) (by kernel_rfl) ?_; change wpStill _ _ w5.drew _ _ _
      repeat (refine (wpStill_step (fun K hK => ?_) : _); go_simp; refine hK _ ?_; clear hK K)
      refine (wpStill_nil ?_ : _); change Exit.then _ _ _ _ w5.drew; go_wp2_with (at_builtin; refine zcf rfl _ _ 27 rfl 99 i0 _ 6 64 Tryz.underlying27 hi0 hz0 hz1 hz2 rfl (by decide) _ (O ++ [⟨p1, p2, p3, p4, p5, p6⟩]) rfl (HS5.out.alloc _).drew W1 (zcu hg5) (HF5.out.alloc _).drew w5.heap.size 1 ⟨x1, x2, x3, x4, x5, x6⟩ rfl (HNK.out _) rfl (zfr _) (by simp only [List.length_append, List.length_singleton]; unfold maxLen; omega) (by simp only [List.length_append, List.length_singleton]; omega) ?_); intro g6 o6 cap6 w6 hs6 hg6 hf6 hlt6; have HS6 := H_ hs6; have HF6 := H_ hf6; clear hs6 hf6; go_wp2; go_roundg g
      case rel => exact ⟨i + 1, _, _, _, rfl, rfl, by go_num, by omega, HSTP, H_ (by simpa using HS6.out), H_ (zcu hg6), HF6⟩
      case measure => omega
end Go.Proofs.YthljnnjpmdgkoaaGreat