/- The law's Do: a call of a store, and what it leaves; done: calls one behind the other. The condition: calls are not too much (fewCals), few calls were made before. The laws' done: a store behind calls. The condition: calls are not too much (fewCals). What lived at revisions, kept in a list of lists (PastR); what a range of all keys answers of it. The condition: calls are not too much. -/
import Derived.Test.YthljnnjpmdgkoaaG17
import Derived.Test.YthljnnjpmdgkoaaG19
import Derived.Test.YthljnnjpmdgkoaaG20
import Derived.Test.YthljnnjpmdgkoaaG21
namespace Go.Proofs.Ythljnnjpmdgkoaa
open Go Go.Proofs Go.RowKit
set_option maxRecDepth 100000

abbrev CalQ := Cal × List Opr × List ByteArray
/-- What a call answers as its error. -/
def doE (S : St) (q : CalQ) : Int :=
  if kindN q.1.kind = 4 then rangeE S q.1.rg else if kindN q.1.kind = 5 then compactE S q.1.rev else if kindN q.1.kind = 6 then eventsE S q.1.rev q.1.upto else if kindN q.1.kind = 7 then 0 else applyE S q.2.1
/-- The store behind a call. -/
def doT (S : St) (q : CalQ) : St :=
  if kindN q.1.kind = 4 then S else if kindN q.1.kind = 5 then (if compactE S q.1.rev = 0 then compS q.1.rev S else S) else if kindN q.1.kind = 6 then S else if kindN q.1.kind = 7 then dropS S q.2.2
  else if applyE S q.2.1 = 0 then applyS S q.2.1 else S
/-- The document's store behind a call. -/
def doD (S : St) (D : Doc) (q : CalQ) : Doc :=
  if kindN q.1.kind = 4 then D else if kindN q.1.kind = 5 then (if compactE S q.1.rev = 0 then D.cut q.1.rev else D) else if kindN q.1.kind = 6 then D else if kindN q.1.kind = 7 then dropD S D q.2.2
  else if applyE S q.2.1 = 0 then applyD S D q.2.1 else D

theorem applyE_zero {S : St} {ops : List Opr} (h : applyE S ops = 0) : checkE ops = 0 ∧ whenAll S ops = 0 := by
  unfold applyE at h
  split at h
  · rename_i hc; exact absurd h hc
  · rename_i hc; exact ⟨by simpa using hc, h⟩
theorem compactE_zero {S : St} {rev : Int} (h : compactE S rev = 0) : rev ≤ S.rev ∧ S.mark < rev := by
  unfold compactE at h
  split at h
  · cases h
  · split at h
    · cases h
    · omega

/-- A call that is not too much. -/
theorem few_parts {q : CalQ} (h : fewCal q = true) : (∀ o ∈ q.2.1, o.rg.key.size ≤ 3000 ∧ o.rg.end_.size ≤ 3000 ∧ o.value.size ≤ 3000) ∧ q.2.1.length ≤ 30 ∧ q.2.2.length ≤ 30 ∧ q.1.rg.key.size ≤ 3000 ∧ q.1.rg.end_.size ≤ 3000 := by
  unfold fewCal fewKey at h
  simp only [Bool.and_eq_true, decide_eq_true_eq] at h
  obtain ⟨⟨⟨⟨h1, h2⟩, h3⟩, h4⟩, h5⟩ := h
  unfold fewOps at h1
  simp only [Bool.and_eq_true, decide_eq_true_eq, List.all_eq_true] at h1
  refine ⟨fun o ho => ?_, h1.1, h2, h3, h4⟩
  have := h1.2 o ho
  unfold fewOp at this
  simp only [Bool.and_eq_true, decide_eq_true_eq] at this
  omega

theorem Good.does {k : Nat} {S : St} {D : Doc} (h : Good k S D) (hk : k ≤ 70) {q : CalQ} (hq : fewCal q = true) : Good (k + 1) (doT S q) (doD S D q) := by
  obtain ⟨f1, f2, f3, f4, f5⟩ := few_parts hq
  unfold doT doD
  by_cases h4 : kindN q.1.kind = 4
  · rw [if_pos h4, if_pos h4]; exact h.mono (by omega)
  · rw [if_neg h4, if_neg h4]
    by_cases h5 : kindN q.1.kind = 5
    · rw [if_pos h5, if_pos h5]
      by_cases hc : compactE S q.1.rev = 0
      · rw [if_pos hc, if_pos hc]
        obtain ⟨c1, c2⟩ := compactE_zero hc
        rw [h.rev] at c1
        rw [h.cpl.mark] at c2
        exact (h.cut (by omega) c2 c1).mono (by omega)
      · rw [if_neg hc, if_neg hc]; exact h.mono (by omega)
    · rw [if_neg h5, if_neg h5]
      by_cases h6 : kindN q.1.kind = 6
      · rw [if_pos h6, if_pos h6]; exact h.mono (by omega)
      · rw [if_neg h6, if_neg h6]
        by_cases h7 : kindN q.1.kind = 7
        · rw [if_pos h7, if_pos h7]
          exact h.drop hk q.2.2 f3
        · rw [if_neg h7, if_neg h7]
          by_cases ha : applyE S q.2.1 = 0
          · rw [if_pos ha, if_pos ha]
            exact h.apply hk (applyE_zero ha).1 fun o ho => by have := (f1 o ho).1; omega
          · rw [if_neg ha, if_neg ha]; exact h.mono (by omega)

theorem Good.compG {k : Nat} {S : St} {D : Doc} (h : Good k S D) (hk : k ≤ 50000) {R : Int} (h1 : S.mark < R) (h2 : R ≤ S.rev) : CompGk S R := by
  have hm0 := h.cpl.m0
  have hr := h.rev
  rw [h.cpl.mark] at h1
  rw [hr] at h2
  refine ⟨by omega, by rw [h.cpl.mark]; exact h1, h.events_pos (by omega), ids_nodup h.cpl.inv h.srt, h.srt, fun p hp H hH => ?_⟩
  have ho := (h.ok.hist _ _ hH).1
  have hm := h.more _ _ hH
  refine ⟨(ho.comp hm (by omega) R).fits (by omega), ?_⟩
  obtain ⟨l, a, b⟩ := hm.fin
  exact ⟨l, by omega, b⟩

theorem Drop_calls2 {TA : TreeRel} (hT : TreeOk TA 1000000) {k : Nat} {S : St} {D : Doc} (h : Good k S D) (hk : k ≤ 70) (w : World) (s : Nat) (F : Nat → Prop) (hS : StoreAt TA w s S F) (v : Value) (keys : List ByteArray) (hv : SlR w 1 strC v keys)
    (hvF : 0 < keys.length → ∀ b, v.ownBlock = some b → ¬ F b) (hl : keys.length ≤ 30) :
    Calls Try.prog 42 #[.pointer (some ⟨s, 0, none⟩), v] w fun e w' => ∃ ev, e = .returned (.tuple #[ev, .int .i64 0]) ∧ ∃ F', StoreAt TA w' s (dropS S keys) F' ∧
      SlF w' 73 13 evC ev (keys.foldl (dropR (S.rev + 1)) (S, [])).2 ∧ Fr F w w' ∧ (∀ b, F' b → F b ∨ w.heap.size ≤ b) ∧ (∀ b, ev.ownBlock = some b → w.heap.size ≤ b ∧ ¬ F' b) := by
  have hr := h.rev
  have hr1 := h.rev1
  have hm0 := h.cpl.m0
  refine Drop_calls hT (n := 20000 * k + 30) (by omega) w s S F hS v keys hv hvF (by omega) (by unfold top; omega) (by unfold top; omega) fun i x hx => ?_
  have hil := (List.getElem?_eq_some_iff.1 hx).1
  obtain ⟨a, b⟩ := h.drops hk keys hl i (by omega)
  rw [hr]
  refine ⟨a.ok.mono (by omega), ?_, b x hx⟩
  have h1 := a.ok.ev
  rw [a.cpl.events, (Doc.adds_parts D _).2.2, List.length_append] at h1
  omega

theorem Apply_calls2 {TA : TreeRel} (hT : TreeOk TA 1000000) {k : Nat} {S : St} {D : Doc} (h : Good k S D) (hk : k ≤ 70) (w : World) (s : Nat) (F : Nat → Prop) (hS : StoreAt TA w s S F) (v : Value) (ops : List Opr) (hv : SlR w 10 opC v ops)
    (hvF : 0 < ops.length → ∀ b, v.ownBlock = some b → ¬ F b) (hl : ops.length ≤ 30) (hks : ∀ o ∈ ops, o.rg.key.size ≤ 3000) :
    Calls Try.prog 41 #[.pointer (some ⟨s, 0, none⟩), v] w fun e w' => ∃ av ev, e = .returned (.tuple #[av, ev, .int .i64 (applyE S ops)]) ∧ ∃ F' Z, StoreAt TA w' s (if applyE S ops = 0 then applyS S ops else S) F' ∧ AnsR w' av Z ∧
      Z.map (·.1) = (if applyE S ops = 0 then (runR (S.rev + 1) ⟨S, [], []⟩ ops).A else []) ∧ SlF w' 73 13 evC ev (if applyE S ops = 0 then (runR (S.rev + 1) ⟨S, [], []⟩ ops).E else []) ∧ Fr F w w' ∧ (∀ b, F' b → F b ∨ w.heap.size ≤ b) := by
  have hr := h.rev
  have hr1 := h.rev1
  have hm0 := h.cpl.m0
  by_cases he : applyE S ops = 0
  · obtain ⟨e1, e2⟩ := applyE_zero he
    simp only [if_pos he]
    rw [he]
    refine (apply_all hT (n := 20000 * k + 20000) (by omega) w s S F hS v ops hv hvF (by omega) (fun o ho => by have := hks o ho; omega) (by unfold top; omega) (by unfold top; omega) e1 e2 fun i o ho => ?_).mono ?_
    · have hil := (List.getElem?_eq_some_iff.1 ho).1
      rw [hr]
      exact (h.runs hk e1 (fun o ho => by have := hks o ho; omega) i (by omega)).2 o ho
    · rintro e w' ⟨av, ev, rfl, F', Z, a, b, c, d, f, g, _⟩
      exact ⟨av, ev, rfl, F', Z, a, b, c, d, f, g⟩
  · simp only [if_neg he]
    refine (apply_bad hT w s S F hS v ops hv (by omega) (fun o ho => by have := hks o ho; omega) he).mono ?_
    rintro e w' ⟨rfl, hf⟩
    exact ⟨_, _, rfl, F, [], hS.fr0 hT hf, AnsR.nil _, rfl, SlF.nil _ _ _ _, hf.mono fun _ _ h => h.elim, fun b h => .inl h⟩

theorem Compact_calls2 {TA : TreeRel} (hT : TreeOk TA 1000000) (hTD : TreeDl TA) {k : Nat} {S : St} {D : Doc} (h : Good k S D) (hk : k ≤ 70) (w : World) (s : Nat) (F : Nat → Prop) (hS : StoreAt TA w s S F) (rev : Int) :
    Calls Try.prog 44 #[.pointer (some ⟨s, 0, none⟩), .int .i64 rev] w fun e w' => e = .returned (.int .i64 (compactE S rev)) ∧ ∃ F', StoreAt TA w' s (if compactE S rev = 0 then compS rev S else S) F' ∧ Fr F w w' ∧ (∀ b, F' b → F b ∨ w.heap.size ≤ b) := by
  by_cases he : compactE S rev = 0
  · obtain ⟨c1, c2⟩ := compactE_zero he
    rw [if_pos he, he]
    exact CompactG_calls hT hTD (n := 20000 * k) (by omega) w s S F hS h.ok (by have := h.size; omega) rev (h.compG (by omega) c2 c1)
  · rw [if_neg he]
    refine (Compact_bad w s S F hS rev he).mono ?_
    rintro e w' ⟨rfl, hf⟩
    exact ⟨rfl, F, hS.fr0 hT hf, hf.mono fun _ _ h => h.elim, fun b h => .inl h⟩

theorem Range_calls2 {TA : TreeRel} (hT : TreeOk TA 1000000) {k : Nat} {S : St} {D : Doc} (h : Good k S D) (hk : k ≤ 70) (w : World) (s : Nat) (F : Nat → Prop) (hS : StoreAt TA w s S F) (g : Rg) (hks : g.key.size ≤ 3000) :
    Calls Try.prog 30 #[.pointer (some ⟨s, 0, none⟩), rgV g] w fun e w' => ∃ v, e = .returned (.tuple #[v, .int .i64 (if rangeE S g = 0 then ((allL S g S.rev).length : Int) else 0), .bool (decide (rangeE S g = 0) && moreB S g S.rev), .int .i64 (rangeE S g)]) ∧
      SlF w' 57 6 kvC v (if rangeE S g = 0 then getL S g S.rev else []) ∧ Fr No w w' ∧ (∀ b, v.ownBlock = some b → w.heap.size ≤ b) := by
  by_cases he : rangeE S g = 0
  · simp only [he, decide_true, Bool.true_and]
    exact RangeAll_calls hT (n := 20000 * k) (by omega) w s S F hS h.ok (by have := h.size; omega) g (by omega) he
  · simp only [he, decide_false, Bool.false_and]
    refine (Range_bad hT w s S F hS g (by omega) he).mono ?_
    rintro e w' ⟨rfl, hf⟩
    exact ⟨_, rfl, SlF.nil _ _ _ _, hf, fun b hb => by simp [Value.ownBlock] at hb⟩

set_option maxHeartbeats 8000000 in
theorem Do_calls {TA : TreeRel} (hT : TreeOk TA 1000000) (hTD : TreeDl TA) {k : Nat} {S : St} {D : Doc} (h : Good k S D) (hk : k ≤ 70) (w : World) (s : Nat) (F : Nat → Prop) (hS : StoreAt TA w s S F) (q : CalQ) (hq : fewCal q = true)
    (ha : SlR w 10 opC q.1.ops q.2.1) (hb : SlR w 1 strC q.1.keys q.2.2) (haF : 0 < q.2.1.length → ∀ b, q.1.ops.ownBlock = some b → ¬ F b) (hbF : 0 < q.2.2.length → ∀ b, q.1.keys.ownBlock = some b → ¬ F b) :
    Calls Try.prog 32 #[.pointer (some ⟨s, 0, none⟩), .agg (calC q).toArray] w fun e w' => e = .returned (.int .i64 (doE S q)) ∧ ∃ F', StoreAt TA w' s (doT S q) F' ∧ Fr F w w' ∧ (∀ b, F' b → F b ∨ w.heap.size ≤ b) := by
  obtain ⟨f1, f2, f3, f4, f5⟩ := few_parts hq
  have hkd := fun W => Kind_calls W q
  have hkr := kindN_range q.1.kind
  have C30 := fun W (h1 : Fr No w W) => Range_calls2 hT h hk W s F (hS.fr0 hT h1) q.1.rg f4
  have C44 := fun W (h1 : Fr No w W) => Compact_calls2 hT hTD h hk W s F (hS.fr0 hT h1) q.1.rev
  have C43 := fun W (h1 : Fr No w W) => Events_calls hT W s S F (hS.fr0 hT h1) (by have := h.ok.ev; omega) (fun h1 => h.events_pos (by rw [← h.rev]; exact h1)) q.1.rev q.1.upto
  have C42 := fun W (h1 : Fr No w W) => Drop_calls2 hT h hk W s F (hS.fr0 hT h1) q.1.keys q.2.2 (hb.fr0 h1) hbF f3
  have C41 := fun W (h1 : Fr No w W) => Apply_calls2 hT h hk W s F (hS.fr0 hT h1) q.1.ops q.2.1 (ha.fr0 h1) haF f2 fun o ho => (f1 o ho).1
  obtain ⟨oa, ocap, hos, _, _, _⟩ := ha.shape
  obtain ⟨ka, kcap, hks, _, _, _⟩ := hb.shape
  have hS0 := fun W (h1 : Fr No w W) => hS.fr0 hT h1
  unfold doE doT
  clear ha hb haF hbF hq f1 f2 f3 f4 f5 h hk hS hTD
  obtain ⟨⟨p1, p2, ⟨g1, g2, g3, g4, g5, g6, g7⟩, p3, p4, p5⟩, ops, keys⟩ := q
  dsimp only at *
  subst hos hks
  unfold calC rgC rgV at *
  dsimp only at *
  generalize kindN p1 = kd at *
  generalize rangeE S _ = e30 at *
  generalize compactE S _ = e44 at *
  generalize eventsE S _ _ = e43 at *
  generalize applyE S _ = e41 at *
  generalize (if e30 = 0 then ((allL S ⟨g1, g2, g3, g4, g5, g6, g7⟩ S.rev).length : Int) else 0) = n30 at *
  generalize (decide (e30 = 0) && moreB S ⟨g1, g2, g3, g4, g5, g6, g7⟩ S.rev) = b30 at *
  generalize (if e30 = 0 then getL S ⟨g1, g2, g3, g4, g5, g6, g7⟩ S.rev else []) = l30 at *
  generalize (if e44 = 0 then compS p3 S else S) = s44 at *
  generalize (if e43 = 0 then S.events.filter (insB p3 p4) else []) = l43 at *
  generalize (if e41 = 0 then applyS S ops else S) = s41 at *
  generalize (if e41 = 0 then (runR (S.rev + 1) ⟨S, [], []⟩ ops).A else []) = a41 at *
  generalize (if e41 = 0 then (runR (S.rev + 1) ⟨S, [], []⟩ ops).E else []) = ev41 at *
  have HKD := Lib.hid hkd
  have H30 := Lib.hid C30
  have H44 := Lib.hid C44
  have H43 := Lib.hid C43
  have H42 := Lib.hid C42
  have H41 := Lib.hid C41
  have HS0 := Lib.hid hS0
  clear hkd C30 C44 C43 C42 C41 hS0
  have hf0 : Fr No w (w.alloc (Obj.cells #[.int .i64 p1, .slice oa ops.length ocap, .string g1, .string g2, .int .i64 g3, .int .i64 g4, .bool g5, .bool g6, .bool g7, .int .i64 p3, .int .i64 p4, .slice ka keys.length kcap] 64)) := (Fr.refl No w).alloc _
  have hbx := alloc_at w (Obj.cells #[.int .i64 p1, .slice oa ops.length ocap, .string g1, .string g2, .int .i64 g3, .int .i64 g4, .bool g5, .bool g6, .bool g7, .int .i64 p3, .int .i64 p4, .slice ka keys.length kcap] 64) _ rfl
  by_cases h4 : kd = 4
  · subst h4
    rw [if_pos rfl, if_pos rfl]
    go_enter Try.func32, Try.ntmps32
    go_wp2_with (first
    | (go_at_call 39; refine (HKD.out _).mono ?_; rintro e w1 ⟨rfl, hf⟩
       have hf1 := hf0.trans0 hf
       have hb1 := hf.heap hbx (fun h => h)
       have x1 : w1.cell? ⟨w.heap.size, 1, none⟩ = some (.slice oa ops.length ocap) := by simp [World.cell?, hb1]
       have x2 : w1.cell? ⟨w.heap.size, 2, none⟩ = some (.string g1) := by simp [World.cell?, hb1]
       have x3 : w1.cell? ⟨w.heap.size, 3, none⟩ = some (.string g2) := by simp [World.cell?, hb1]
       have x4 : w1.cell? ⟨w.heap.size, 4, none⟩ = some (.int .i64 g3) := by simp [World.cell?, hb1]
       have x5 : w1.cell? ⟨w.heap.size, 5, none⟩ = some (.int .i64 g4) := by simp [World.cell?, hb1]
       have x6 : w1.cell? ⟨w.heap.size, 6, none⟩ = some (.bool g5) := by simp [World.cell?, hb1]
       have x7 : w1.cell? ⟨w.heap.size, 7, none⟩ = some (.bool g6) := by simp [World.cell?, hb1]
       have x8 : w1.cell? ⟨w.heap.size, 8, none⟩ = some (.bool g7) := by simp [World.cell?, hb1]
       have x9 : w1.cell? ⟨w.heap.size, 9, none⟩ = some (.int .i64 p3) := by simp [World.cell?, hb1]
       have x10 : w1.cell? ⟨w.heap.size, 10, none⟩ = some (.int .i64 p4) := by simp [World.cell?, hb1]
       have x11 : w1.cell? ⟨w.heap.size, 11, none⟩ = some (.slice ka keys.length kcap) := by simp [World.cell?, hb1]
       have lx := heap_lt hb1)
    | (go_at_call 30; refine (H30.out _ hf1).mono ?_; rintro e w2 ⟨v, rfl, _, hf2, _⟩))
    go_ret
    have hfw := hf1.trans0 hf2
    exact ⟨rfl, F, HS0.out _ hfw, hfw.mono fun _ _ h => h.elim, fun b h => .inl h⟩
  · have h4' : (kd == 4) = false := by simpa using h4
    rw [if_neg h4, if_neg h4]
    by_cases h5 : kd = 5
    · subst h5
      rw [if_pos rfl, if_pos rfl]
      go_enter Try.func32, Try.ntmps32
      go_wp2_with (first
      | (go_at_call 39; refine (HKD.out _).mono ?_; rintro e w1 ⟨rfl, hf⟩
         have hf1 := hf0.trans0 hf
         have hb1 := hf.heap hbx (fun h => h)
         have x1 : w1.cell? ⟨w.heap.size, 1, none⟩ = some (.slice oa ops.length ocap) := by simp [World.cell?, hb1]
         have x2 : w1.cell? ⟨w.heap.size, 2, none⟩ = some (.string g1) := by simp [World.cell?, hb1]
         have x3 : w1.cell? ⟨w.heap.size, 3, none⟩ = some (.string g2) := by simp [World.cell?, hb1]
         have x4 : w1.cell? ⟨w.heap.size, 4, none⟩ = some (.int .i64 g3) := by simp [World.cell?, hb1]
         have x5 : w1.cell? ⟨w.heap.size, 5, none⟩ = some (.int .i64 g4) := by simp [World.cell?, hb1]
         have x6 : w1.cell? ⟨w.heap.size, 6, none⟩ = some (.bool g5) := by simp [World.cell?, hb1]
         have x7 : w1.cell? ⟨w.heap.size, 7, none⟩ = some (.bool g6) := by simp [World.cell?, hb1]
         have x8 : w1.cell? ⟨w.heap.size, 8, none⟩ = some (.bool g7) := by simp [World.cell?, hb1]
         have x9 : w1.cell? ⟨w.heap.size, 9, none⟩ = some (.int .i64 p3) := by simp [World.cell?, hb1]
         have x10 : w1.cell? ⟨w.heap.size, 10, none⟩ = some (.int .i64 p4) := by simp [World.cell?, hb1]
         have x11 : w1.cell? ⟨w.heap.size, 11, none⟩ = some (.slice ka keys.length kcap) := by simp [World.cell?, hb1]
         have lx := heap_lt hb1)
      | (go_at_call 44; refine (H44.out _ hf1).mono ?_; rintro e w2 ⟨rfl, F2, hs2, hf2, hn2⟩))
      go_ret
      refine ⟨rfl, F2, hs2, (hf1.mono fun _ _ h => h.elim).trans hf2 fun _ _ h => h, fun b hb => ?_⟩
      have := hf1.size
      rcases hn2 b hb with h | h
      · exact .inl h
      · exact .inr (by omega)
    · have h5' : (kd == 5) = false := by simpa using h5
      rw [if_neg h5, if_neg h5]
      by_cases h6 : kd = 6
      · subst h6
        rw [if_pos rfl, if_pos rfl]
        go_enter Try.func32, Try.ntmps32
        go_wp2_with (first
        | (go_at_call 39; refine (HKD.out _).mono ?_; rintro e w1 ⟨rfl, hf⟩
           have hf1 := hf0.trans0 hf
           have hb1 := hf.heap hbx (fun h => h)
           have x1 : w1.cell? ⟨w.heap.size, 1, none⟩ = some (.slice oa ops.length ocap) := by simp [World.cell?, hb1]
           have x2 : w1.cell? ⟨w.heap.size, 2, none⟩ = some (.string g1) := by simp [World.cell?, hb1]
           have x3 : w1.cell? ⟨w.heap.size, 3, none⟩ = some (.string g2) := by simp [World.cell?, hb1]
           have x4 : w1.cell? ⟨w.heap.size, 4, none⟩ = some (.int .i64 g3) := by simp [World.cell?, hb1]
           have x5 : w1.cell? ⟨w.heap.size, 5, none⟩ = some (.int .i64 g4) := by simp [World.cell?, hb1]
           have x6 : w1.cell? ⟨w.heap.size, 6, none⟩ = some (.bool g5) := by simp [World.cell?, hb1]
           have x7 : w1.cell? ⟨w.heap.size, 7, none⟩ = some (.bool g6) := by simp [World.cell?, hb1]
           have x8 : w1.cell? ⟨w.heap.size, 8, none⟩ = some (.bool g7) := by simp [World.cell?, hb1]
           have x9 : w1.cell? ⟨w.heap.size, 9, none⟩ = some (.int .i64 p3) := by simp [World.cell?, hb1]
           have x10 : w1.cell? ⟨w.heap.size, 10, none⟩ = some (.int .i64 p4) := by simp [World.cell?, hb1]
           have x11 : w1.cell? ⟨w.heap.size, 11, none⟩ = some (.slice ka keys.length kcap) := by simp [World.cell?, hb1]
           have lx := heap_lt hb1)
        | (go_at_call 43; refine (H43.out _ hf1).mono ?_; rintro e w2 ⟨v, rfl, _, hf2, _⟩))
        go_ret
        have hfw := hf1.trans0 hf2
        exact ⟨rfl, F, HS0.out _ hfw, hfw.mono fun _ _ h => h.elim, fun b h => .inl h⟩
      · have h6' : (kd == 6) = false := by simpa using h6
        rw [if_neg h6, if_neg h6]
        by_cases h7 : kd = 7
        · subst h7
          rw [if_pos rfl, if_pos rfl]
          go_enter Try.func32, Try.ntmps32
          go_wp2_with (first
          | (go_at_call 39; refine (HKD.out _).mono ?_; rintro e w1 ⟨rfl, hf⟩
             have hf1 := hf0.trans0 hf
             have hb1 := hf.heap hbx (fun h => h)
             have x1 : w1.cell? ⟨w.heap.size, 1, none⟩ = some (.slice oa ops.length ocap) := by simp [World.cell?, hb1]
             have x2 : w1.cell? ⟨w.heap.size, 2, none⟩ = some (.string g1) := by simp [World.cell?, hb1]
             have x3 : w1.cell? ⟨w.heap.size, 3, none⟩ = some (.string g2) := by simp [World.cell?, hb1]
             have x4 : w1.cell? ⟨w.heap.size, 4, none⟩ = some (.int .i64 g3) := by simp [World.cell?, hb1]
             have x5 : w1.cell? ⟨w.heap.size, 5, none⟩ = some (.int .i64 g4) := by simp [World.cell?, hb1]
             have x6 : w1.cell? ⟨w.heap.size, 6, none⟩ = some (.bool g5) := by simp [World.cell?, hb1]
             have x7 : w1.cell? ⟨w.heap.size, 7, none⟩ = some (.bool g6) := by simp [World.cell?, hb1]
             have x8 : w1.cell? ⟨w.heap.size, 8, none⟩ = some (.bool g7) := by simp [World.cell?, hb1]
             have x9 : w1.cell? ⟨w.heap.size, 9, none⟩ = some (.int .i64 p3) := by simp [World.cell?, hb1]
             have x10 : w1.cell? ⟨w.heap.size, 10, none⟩ = some (.int .i64 p4) := by simp [World.cell?, hb1]
             have x11 : w1.cell? ⟨w.heap.size, 11, none⟩ = some (.slice ka keys.length kcap) := by simp [World.cell?, hb1]
             have lx := heap_lt hb1)
          | (go_at_call 42; refine (H42.out _ hf1).mono ?_; rintro e w2 ⟨v, rfl, F2, hs2, _, hf2, hn2, _⟩))
          go_ret
          refine ⟨rfl, F2, hs2, (hf1.mono fun _ _ h => h.elim).trans hf2 fun _ _ h => h, fun b hb => ?_⟩
          have := hf1.size
          rcases hn2 b hb with h | h
          · exact .inl h
          · exact .inr (by omega)
        · have h7' : (kd == 7) = false := by simpa using h7
          rw [if_neg h7, if_neg h7]
          go_enter Try.func32, Try.ntmps32
          go_wp2_with (first
          | (go_at_call 39; refine (HKD.out _).mono ?_; rintro e w1 ⟨rfl, hf⟩
             have hf1 := hf0.trans0 hf
             have hb1 := hf.heap hbx (fun h => h)
             have x1 : w1.cell? ⟨w.heap.size, 1, none⟩ = some (.slice oa ops.length ocap) := by simp [World.cell?, hb1]
             have x2 : w1.cell? ⟨w.heap.size, 2, none⟩ = some (.string g1) := by simp [World.cell?, hb1]
             have x3 : w1.cell? ⟨w.heap.size, 3, none⟩ = some (.string g2) := by simp [World.cell?, hb1]
             have x4 : w1.cell? ⟨w.heap.size, 4, none⟩ = some (.int .i64 g3) := by simp [World.cell?, hb1]
             have x5 : w1.cell? ⟨w.heap.size, 5, none⟩ = some (.int .i64 g4) := by simp [World.cell?, hb1]
             have x6 : w1.cell? ⟨w.heap.size, 6, none⟩ = some (.bool g5) := by simp [World.cell?, hb1]
             have x7 : w1.cell? ⟨w.heap.size, 7, none⟩ = some (.bool g6) := by simp [World.cell?, hb1]
             have x8 : w1.cell? ⟨w.heap.size, 8, none⟩ = some (.bool g7) := by simp [World.cell?, hb1]
             have x9 : w1.cell? ⟨w.heap.size, 9, none⟩ = some (.int .i64 p3) := by simp [World.cell?, hb1]
             have x10 : w1.cell? ⟨w.heap.size, 10, none⟩ = some (.int .i64 p4) := by simp [World.cell?, hb1]
             have x11 : w1.cell? ⟨w.heap.size, 11, none⟩ = some (.slice ka keys.length kcap) := by simp [World.cell?, hb1]
             have lx := heap_lt hb1)
          | (go_at_call 41; refine (H41.out _ hf1).mono ?_; rintro e w2 ⟨av, ev, rfl, F2, Z, hs2, _, _, _, hf2, hn2⟩))
          go_ret
          refine ⟨rfl, F2, hs2, (hf1.mono fun _ _ h => h.elim).trans hf2 fun _ _ h => h, fun b hb => ?_⟩
          have := hf1.size
          rcases hn2 b hb with h | h
          · exact .inl h
          · exact .inr (by omega)
end Go.Proofs.Ythljnnjpmdgkoaa

namespace Go.Proofs.Ythljnnjpmdgkoaa
open Go Go.Proofs Go.RowKit
set_option maxRecDepth 100000

/-- The store and the document's behind the first i calls. -/
def donesT (l : List CalQ) (i : Nat) : St × Doc := (l.take i).foldl (fun p q => (doT p.1 q, doD p.1 p.2 q)) (newS, newD)
theorem donesT_succ (l : List CalQ) {i : Nat} {q : CalQ} (h : l[i]? = some q) : donesT l (i + 1) = (doT (donesT l i).1 q, doD (donesT l i).1 (donesT l i).2 q) := by
  unfold donesT
  rw [List.take_add_one, h, List.foldl_append]
  rfl
theorem fewCals_parts {l : List CalQ} (h : fewCals l = true) : l.length ≤ 30 ∧ ∀ q ∈ l, fewCal q = true := by
  unfold fewCals at h
  simpa [Bool.and_eq_true] using h
theorem dones_good {l : List CalQ} (h : fewCals l = true) : ∀ i ≤ l.length, Good i (donesT l i).1 (donesT l i).2 := by
  obtain ⟨h1, h2⟩ := fewCals_parts h
  intro i
  induction i with
  | zero => intro _; exact Good.new
  | succ i ih =>
    intro hi
    obtain ⟨q, hq⟩ : ∃ q, l[i]? = some q := ⟨_, List.getElem?_eq_getElem (by omega)⟩
    rw [donesT_succ l hq]
    exact (ih (by omega)).does (by omega) (h2 q (List.mem_of_getElem? hq))

/-- What is in a slice that is read lies in memory. -/
theorem SlR.lt {α : Type} {f : α → List Value} {w : World} {sz : Nat} {v : Value} {L : List α} (h : SlR w sz f v L) (hf : ∀ x, (f x).length = sz) (hsz : 0 < sz) (hp : 0 < L.length) : ∀ b, v.ownBlock = some b → b < w.heap.size := by
  intro b hb
  obtain ⟨a, cap, rfl, h1, h2, h3⟩ := h
  obtain ⟨g, o, rfl, h4⟩ := h3 hp
  obtain rfl : g = b := by simpa [Value.ownBlock] using hb
  have hx : L[0]? = some L[0] := List.getElem?_eq_getElem hp
  have hl : 0 < (f L[0]).length := by rw [hf]; exact hsz
  exact World.block_lt_of_cell? _ _ (h4 0 _ hx 0 _ (List.getElem?_eq_getElem hl))

set_option maxHeartbeats 4000000 in
theorem done_calls {TA : TreeRel} (hT : TreeOk TA 1000000) (hTD : TreeDl TA) (w : World) (v : Value) (l : List CalQ) (hv : CalR w v l) (hf : fewCals l = true) :
    Calls Try.prog 29 #[v] w fun e w' => ∃ s, e = .returned (.pointer (some ⟨s, 0, none⟩)) ∧ ∃ F, StoreAt TA w' s (donesT l l.length).1 F ∧ Fr No w w' ∧ ∀ b, F b → w.heap.size ≤ b := by
  obtain ⟨h1, h2⟩ := fewCals_parts hf
  have hgd := dones_good hf
  obtain ⟨hv, hops, hkeys⟩ := hv
  obtain ⟨a, cap, rfl, hc1, hc2, ha⟩ := hv.shape
  have HV := Lib.hid hv
  have HA := Lib.hid ha
  have HO := Lib.hid hops
  have HK := Lib.hid hkeys
  have HG := Lib.hid hgd
  have H2 := Lib.hid h2
  clear hv ha hops hkeys hgd hf h2
  go_enter Try.func29, Try.ntmps29
  go_wp2_with (go_at_call 31; refine (StoreNew_calls hT _).mono ?_; rintro e w1 ⟨s, rfl, F0, hs0, hf1, hn0⟩)
  have HS0 : Hid (StoreAt TA w1 s (donesT l 0).1 F0) := Lib.hid hs0
  have HN0 := Lib.hid hn0
  clear hs0 hn0
  go_loopg [4] l.length (fun g s4 wr => ∃ (i : Nat) (F : Nat → Prop), s4 = .int .i64 i ∧ i + g = l.length ∧ Hid (StoreAt TA wr s (donesT l i).1 F) ∧ Hid (Fr No w wr) ∧ Hid (∀ b, F b → w.heap.size ≤ b))
  case atStart => exact ⟨0, F0, rfl, by simp, HS0, Lib.hid hf1, HN0⟩
  case round =>
    obtain ⟨i, F, rfl, hi, HS, HF, HN⟩ := hrel
    cases gk with
    | zero =>
      have hil : ¬ (i : Int) < (l.length : Int) := by omega
      have hie : i = l.length := by omega
      subst hie
      go_wp2
      go_ret
      exact ⟨s, rfl, F, HS.out, HF.out, HN.out⟩
    | succ g =>
      obtain ⟨gb, go, rfl⟩ := HA.out (by omega)
      obtain ⟨q, hx⟩ : ∃ q, l[i]? = some q := ⟨_, List.getElem?_eq_getElem (by omega)⟩
      have hvr := HV.out.fr0 HF.out
      have x0 := hvr.cell0 calC_length i hx rfl
      have x1 := hvr.cell calC_length i 1 hx rfl
      have x2 := hvr.cell calC_length i 2 hx rfl
      have x3 := hvr.cell calC_length i 3 hx rfl
      have x4 := hvr.cell calC_length i 4 hx rfl
      have x5 := hvr.cell calC_length i 5 hx rfl
      have x6 := hvr.cell calC_length i 6 hx rfl
      have x7 := hvr.cell calC_length i 7 hx rfl
      have x8 := hvr.cell calC_length i 8 hx rfl
      have x9 := hvr.cell calC_length i 9 hx rfl
      have x10 := hvr.cell calC_length i 10 hx rfl
      have x11 := hvr.cell calC_length i 11 hx rfl
      have hil : (i : Int) < (l.length : Int) := by omega
      have hops := HO.out i q hx
      have hkeys := HK.out i q hx
      have hdo := Do_calls hT hTD (HG.out i (by omega)) (by omega) wr s F HS.out q (H2.out q (List.mem_of_getElem? hx)) (hops.fr0 HF.out) (hkeys.fr0 HF.out)
        (fun hp b hb hF => by have := hops.lt opC_length (by decide) hp b hb; have := HN.out b hF; omega) (fun hp b hb hF => by have := hkeys.lt strC_length (by decide) hp b hb; have := HN.out b hF; omega)
      have hsu := donesT_succ l hx
      obtain ⟨oa, ocap, hos, _, _, _⟩ := hops.shape
      obtain ⟨ka, kcap, hks, _, _, _⟩ := hkeys.shape
      have HDO := Lib.hid hdo
      have HSU := Lib.hid hsu
      clear hdo hsu hx hvr hops hkeys
      obtain ⟨⟨p1, p2, ⟨g1, g2, g3, g4, g5, g6, g7⟩, p3, p4, p5⟩, ops, keys⟩ := q
      dsimp only at hos hks
      subst hos hks
      unfold calC rgC at *
      dsimp only at *
      go_wp2_with (go_at_call 32; refine HDO.out.mono ?_; rintro e w2 ⟨rfl, F2, hs2, hf2, hn2⟩)
      go_roundg g
      case rel =>
        have hsz := HF.out.size
        exact ⟨i + 1, F2, by go_num, by omega, Lib.hid (by rw [HSU.out]; exact hs2), Lib.hid (HF.out.trans hf2 fun b hb h => by have := HN.out b h; omega), Lib.hid fun b hb => by
          rcases hn2 b hb with h | h
          · exact HN.out b h
          · omega⟩
      case measure => omega
end Go.Proofs.Ythljnnjpmdgkoaa

namespace Go.Proofs.Ythljnnjpmdgkoaa
open Go Go.Proofs Go.RowKit
set_option maxRecDepth 100000

/-- The range of all keys. -/
def allG (rev : Int) : Rg := ⟨⟨#[1]⟩, ⟨#[0]⟩, rev, 0, false, false, false⟩
/-- What a document's store has of all keys. -/
def allD (D : Doc) (r : Int) : List Kv := (D.at r).filter fun y => inB y.key ⟨#[1]⟩ ⟨#[0]⟩
theorem keyE_one : keyE ⟨#[1]⟩ = 0 := by kernel_rfl
theorem rangeE_all (S : St) {rev : Int} (h : 0 ≤ rev) : rangeE S (allG rev) = whenE S rev := by
  have ha : askE (allG rev) = 0 := by
    unfold askE allG
    dsimp only
    rw [keyE_one, if_neg (by simp), if_neg (by decide), if_neg (by omega)]
  unfold rangeE
  rw [ha]
  rfl
theorem getL_all {k : Nat} {S : St} {D : Doc} (h : Good k S D) {rev : Int} (hr : D.mark ≤ (if rev ≠ 0 then rev else S.rev)) :
    getL S (allG rev) S.rev = allD D (if rev ≠ 0 then rev else S.rev) ∧ allL S (allG rev) S.rev = allD D (if rev ≠ 0 then rev else S.rev) ∧ moreB S (allG rev) S.rev = false := by
  have hm : moreB S (allG rev) S.rev = false := by
    unfold moreB allG
    simp
  have ha : allL S (allG rev) S.rev = allD D (if rev ≠ 0 then rev else S.rev) := by
    unfold allL revOf allG
    dsimp only
    unfold betweenS allD
    rw [h.cpl.between h.srt _ _ hr]
    congr 1
    funext y
    exact rgB_inB _ _ _
  refine ⟨?_, ha, hm⟩
  rw [← ha]
  unfold getL cutL
  rw [hm]
  rfl

/-- What a call leaves of what was told. -/
theorem Good.does_at {k : Nat} {S : St} {D : Doc} (h : Good k S D) (hk : k ≤ 70) {q : CalQ} (hq : fewCal q = true) :
    D.rev ≤ (doD S D q).rev ∧ (doD S D q).rev ≤ D.rev + 1 ∧ D.mark ≤ (doD S D q).mark ∧ ∀ r, (doD S D q).mark ≤ r → r ≤ D.rev → (doD S D q).at r = D.at r := by
  obtain ⟨f1, f2, f3, f4, f5⟩ := few_parts hq
  have hm0 := h.cpl.m0
  have key : ∀ E : List Ev, (∀ e ∈ E, e.kv.mod = D.rev + 1) → D.rev ≤ (D.adds E).rev ∧ (D.adds E).rev ≤ D.rev + 1 ∧ D.mark ≤ (D.adds E).mark ∧ ∀ r, (D.adds E).mark ≤ r → r ≤ D.rev → (D.adds E).at r = D.at r := fun E hE => by
    have h1 := Doc.adds_rev D E _ hE
    have h2 := (Doc.adds_parts D E).1
    refine ⟨by rw [h1]; split <;> omega, by rw [h1]; split <;> omega, by omega, fun r _ hr => Doc.adds_at_old D E fun e he => by have := hE e he; omega⟩
  have same : D.rev ≤ D.rev ∧ D.rev ≤ D.rev + 1 ∧ D.mark ≤ D.mark ∧ ∀ r, D.mark ≤ r → r ≤ D.rev → D.at r = D.at r := ⟨by omega, by omega, by omega, fun _ _ _ => rfl⟩
  unfold doD
  by_cases h4 : kindN q.1.kind = 4
  · rw [if_pos h4]; exact same
  · rw [if_neg h4]
    by_cases h5 : kindN q.1.kind = 5
    · rw [if_pos h5]
      by_cases hc : compactE S q.1.rev = 0
      · rw [if_pos hc]
        obtain ⟨c1, c2⟩ := compactE_zero hc
        rw [h.cpl.mark] at c2
        exact ⟨Int.le_refl _, by show D.rev ≤ D.rev + 1; omega, by show D.mark ≤ q.1.rev; omega, fun r hr _ => Doc.cut_at h.doc.es (by omega) hr fun e he => (h.doc.lo e he).2.2⟩
      · rw [if_neg hc]; exact same
    · rw [if_neg h5]
      by_cases h6 : kindN q.1.kind = 6
      · rw [if_pos h6]; exact same
      · rw [if_neg h6]
        by_cases h7 : kindN q.1.kind = 7
        · rw [if_pos h7]
          refine key _ ?_
          obtain ⟨a, _⟩ := h.drops hk q.2.2 f3 q.2.2.length (Nat.le_refl _)
          have he : dropTo (D.rev + 1) S q.2.2 q.2.2.length = q.2.2.foldl (dropR (D.rev + 1)) (S, []) := by unfold dropTo; rw [List.take_length]
          rw [he] at a
          exact a.mods
        · rw [if_neg h7]
          by_cases ha : applyE S q.2.1 = 0
          · rw [if_pos ha]
            refine key _ ?_
            obtain ⟨⟨a, _⟩, _⟩ := h.runs hk (applyE_zero ha).1 (fun o ho => by have := (f1 o ho).1; omega) q.2.1.length (Nat.le_refl _)
            rw [List.take_length] at a
            exact a.mods
          · rw [if_neg ha]; exact same

def pasC (q : Value × List Kv) : List Value := [q.1]
theorem pasC_length (q : Value × List Kv) : (pasC q).length = 1 := rfl
theorem info53 : (Try.prog.info? 53).map (fun i => (i.zero, i.size, i.bytes)) = some (some (.slice none 0 0), 1, 24) := by kernel_rfl
/-- Lists of Kvs in memory. -/
structure PastR (w : World) (v : Value) (Z : List (Value × List Kv)) : Prop where
  sl : SlF w 53 1 pasC v Z
  kvs : ∀ (i : Nat) (q : Value × List Kv), Z[i]? = some q → SlF w 57 6 kvC q.1 q.2
  apart : ∀ (i : Nat) (q : Value × List Kv), Z[i]? = some q → ∀ b, q.1.ownBlock = some b → v.ownBlock ≠ some b
def pasF (v : Value) (Z : List (Value × List Kv)) (b : Nat) : Prop := v.ownBlock = some b ∨ ∃ (i : Nat) (q : Value × List Kv), Z[i]? = some q ∧ q.1.ownBlock = some b
theorem PastR.lt {w : World} {v : Value} {Z : List (Value × List Kv)} (h : PastR w v Z) : ∀ b, pasF v Z b → b < w.heap.size := by
  rintro b (e | ⟨i, q, hq, e⟩)
  · exact h.sl.lt b e
  · exact (h.kvs i q hq).lt b e
theorem PastR.fr {w w' : World} {v : Value} {Z : List (Value × List Kv)} {S : Nat → Prop} (h : PastR w v Z) (hf : Fr S w w') (hn : ∀ b, pasF v Z b → ¬ S b) : PastR w' v Z :=
  ⟨h.sl.fr hf fun b e => hn b (.inl e), fun i q hq => (h.kvs i q hq).fr hf fun b e => hn b (.inr ⟨i, q, hq, e⟩), h.apart⟩
theorem PastR.snoc {w w' : World} {v v' : Value} {Z : List (Value × List Kv)} {L : List Kv} {kv : Value} (h : PastR w v Z) (hf : Fr (fun b => v.ownBlock = some b) w w') (hs : SlF w' 53 1 pasC v' (Z ++ [(kv, L)]))
    (hk : SlF w 57 6 kvC kv L) (hd : ∀ b, kv.ownBlock = some b → v.ownBlock ≠ some b) (hn : ∀ b, v'.ownBlock = some b → v.ownBlock = some b ∨ w.heap.size ≤ b) : PastR w' v' (Z ++ [(kv, L)]) := by
  have key : ∀ (i : Nat) (q : Value × List Kv), (Z ++ [(kv, L)])[i]? = some q → (Z[i]? = some q) ∨ q = (kv, L) := by
    intro i q hq
    by_cases hi : i < Z.length
    · rw [List.getElem?_append_left hi] at hq; exact .inl hq
    · rw [List.getElem?_append_right (by omega)] at hq
      right
      have : i - Z.length = 0 := by
        have := (List.getElem?_eq_some_iff.1 hq).1
        simp at this; omega
      rw [this] at hq
      simpa using hq.symm
  refine ⟨hs, fun i q hq => ?_, fun i q hq b hb e => ?_⟩
  · rcases key i q hq with h1 | rfl
    · exact (h.kvs i q h1).fr hf fun b e => h.apart i q h1 b e
    · exact hk.fr hf hd
  · rcases key i q hq with h1 | rfl
    · rcases hn b e with h2 | h2
      · exact h.apart i q h1 b hb h2
      · have := (h.kvs i q h1).lt b hb; omega
    · rcases hn b e with h2 | h2
      · exact hd b hb h2
      · have := hk.lt b hb; omega
theorem pasF_snoc {v v' : Value} {Z : List (Value × List Kv)} {kv : Value} {L : List Kv} {b : Nat} (h : pasF v' (Z ++ [(kv, L)]) b) : v'.ownBlock = some b ∨ pasF v Z b ∨ kv.ownBlock = some b := by
  rcases h with h | ⟨i, q, hq, h⟩
  · exact .inl h
  · by_cases hi : i < Z.length
    · rw [List.getElem?_append_left hi] at hq
      exact .inr (.inl (.inr ⟨i, q, hq, h⟩))
    · rw [List.getElem?_append_right (by omega)] at hq
      have h0 : i - Z.length = 0 := by
        have := (List.getElem?_eq_some_iff.1 hq).1
        simp at this; omega
      rw [h0] at hq
      simp at hq
      subst hq
      exact .inr (.inr h)

/-- What is known of the lists: one for each revision, what lived then. -/
structure PastOk (Z : List (Value × List Kv)) (D : Doc) : Prop where
  len : (Z.length : Int) = D.rev + 1
  has : ∀ (r : Nat) (q : Value × List Kv), Z[r]? = some q → 1 ≤ r → D.mark ≤ r → q.2 = allD D r
theorem PastOk.new (v : Value) : PastOk [(v, [])] newD := ⟨rfl, fun r q hq h1 _ => by
  have := (List.getElem?_eq_some_iff.1 hq).1
  simp at this; omega⟩
theorem PastOk.does {k : Nat} {S : St} {D : Doc} (h : Good k S D) (hk : k ≤ 70) {q : CalQ} (hq : fewCal q = true) {Z : List (Value × List Kv)} (hZ : PastOk Z D) :
    ((doD S D q).rev = D.rev → PastOk Z (doD S D q)) ∧ ((doD S D q).rev = D.rev + 1 → ∀ kv, PastOk (Z ++ [(kv, allD (doD S D q) (doD S D q).rev)]) (doD S D q)) := by
  obtain ⟨a, b, c, d⟩ := h.does_at hk hq
  have old : ∀ (r : Nat) (p : Value × List Kv), Z[r]? = some p → 1 ≤ r → (doD S D q).mark ≤ r → p.2 = allD (doD S D q) r := fun r p hp h1 h2 => by
    have hr := (List.getElem?_eq_some_iff.1 hp).1
    have hl := hZ.len
    unfold allD
    rw [d r h2 (by omega)]
    exact hZ.has r p hp h1 (by omega)
  refine ⟨fun hr => ⟨by rw [hr]; exact hZ.len, old⟩, fun hr kv => ⟨?_, fun r p hp h1 h2 => ?_⟩⟩
  · rw [hr, List.length_append]
    have := hZ.len
    simp
    omega
  · have hl := hZ.len
    by_cases hi : r < Z.length
    · rw [List.getElem?_append_left hi] at hp
      exact old r p hp h1 h2
    · have h3 := (List.getElem?_eq_some_iff.1 hp).1
      simp at h3
      have h4 : r = Z.length := by omega
      rw [List.getElem?_append_right (by omega), h4, Nat.sub_self] at hp
      simp at hp
      rw [← hp]
      have h5 : (r : Int) = (doD S D q).rev := by rw [hr]; omega
      rw [h5]
end Go.Proofs.Ythljnnjpmdgkoaa
