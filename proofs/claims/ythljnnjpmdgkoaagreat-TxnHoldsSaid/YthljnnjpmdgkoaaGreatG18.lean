/- Lemmas for the claim. Conditions stand in each. -/
import Derived.Test.YthljnnjpmdgkoaaGreatG14
import Derived.Test.YthljnnjpmdgkoaaGreatG15
import Derived.Test.YthljnnjpmdgkoaaGreatG16
import Derived.Test.YthljnnjpmdgkoaaGreatG09
import Derived.Test.YthljnnjpmdgkoaaGreatG17
import Derived.Test.YthljnnjpmdgkoaaGreatG00
import Derived.StringKeys
import Derived.Maps.Keyed
namespace Go.Proofs.YthljnnjpmdgkoaaGreat
open Go Go.Proofs Go.RowKit
set_option maxRecDepth 100000
abbrev CalQ := Cal × List Opr × List ByteArray
def doE (S : St) (q : CalQ) : Int :=
 if kindN q.1.kind = 4 then rangeE S q.1.rg else if kindN q.1.kind = 5 then zbw S q.1.rev else if kindN q.1.kind = 6 then zie S q.1.rev q.1.upto else if kindN q.1.kind = 7 then 0 else applyE S q.2.1
def doT (S : St) (q : CalQ) : St :=
 if kindN q.1.kind = 4 then S else if kindN q.1.kind = 5 then (if zbw S q.1.rev = 0 then compS q.1.rev S else S) else if kindN q.1.kind = 6 then S else if kindN q.1.kind = 7 then dropS S q.2.2
 else if applyE S q.2.1 = 0 then applyS S q.2.1 else S
def doD (S : St) (D : Doc) (q : CalQ) : Doc :=
 if kindN q.1.kind = 4 then D else if kindN q.1.kind = 5 then (if zbw S q.1.rev = 0 then D.cut q.1.rev else D) else if kindN q.1.kind = 6 then D else if kindN q.1.kind = 7 then dropD S D q.2.2
 else if applyE S q.2.1 = 0 then applyD S D q.2.1 else D
theorem zbk {S : St} {ops : List Opr} (h : applyE S ops = 0) : checkE ops = 0 ∧ whenAll S ops = 0 := by
 unfold applyE at h
 split at h
 · rename_i hc; exact absurd h hc
 rename_i hc; exact ⟨by simpa using hc, h⟩
theorem zee {S : St} {rev : Int} (h : zbw S rev = 0) : rev ≤ S.rev ∧ S.mark < rev := by
 unfold zbw at h
 split at h
 · cases h
 split at h
 · cases h
 omega
theorem zew {q : CalQ} (h : fewCal q = true) : (∀ o ∈ q.2.1, o.rg.key.size ≤ 3000 ∧ o.rg.end_.size ≤ 3000 ∧ o.value.size ≤ 3000) ∧ q.2.1.length ≤ 30 ∧ q.2.2.length ≤ 30 ∧ q.1.rg.key.size ≤ 3000 ∧ q.1.rg.end_.size ≤ 3000 := by
 unfold fewCal fewKey at h; simp only [Bool.and_eq_true, decide_eq_true_eq] at h; obtain ⟨⟨⟨⟨h1, h2⟩, h3⟩, h4⟩, h5⟩ := h; unfold fewOps at h1; simp only [Bool.and_eq_true, decide_eq_true_eq, List.all_eq_true] at h1; refine ⟨fun o ho => ?_, h1.1, h2, h3, h4⟩; have := h1.2 o ho; unfold fewOp at this; simp only [Bool.and_eq_true, decide_eq_true_eq] at this; omega
theorem Good.does {k : Nat} {S : St} {D : Doc} (h : Good k S D) (hk : k ≤ 70) {q : CalQ} (hq : fewCal q = true) : Good (k + 1) (doT S q) (doD S D q) := by
 obtain ⟨f1, f2, f3, f4, f5⟩ := zew hq; unfold doT doD; by_cases h4 : kindN q.1.kind = 4
 · rw [if_pos h4, if_pos h4]; exact h.mono (by omega)
 rw [if_neg h4, if_neg h4]
 by_cases h5 : kindN q.1.kind = 5
 · rw [if_pos h5, if_pos h5]
   by_cases hc : zbw S q.1.rev = 0
   · rw [if_pos hc, if_pos hc]
     obtain ⟨c1, c2⟩ := zee hc; rw [h.rev] at c1; rw [h.cpl.mark] at c2; exact (h.cut (by omega) c2 c1).mono (by omega)
   rw [if_neg hc, if_neg hc]; exact h.mono (by omega)
 rw [if_neg h5, if_neg h5]
 by_cases h6 : kindN q.1.kind = 6
 · rw [if_pos h6, if_pos h6]; exact h.mono (by omega)
 rw [if_neg h6, if_neg h6]
 by_cases h7 : kindN q.1.kind = 7
 · rw [if_pos h7, if_pos h7]
   exact h.drop hk q.2.2 f3
 rw [if_neg h7, if_neg h7]
 by_cases ha : applyE S q.2.1 = 0
 · rw [if_pos ha, if_pos ha]
   exact h.apply hk (zbk ha).1 fun o ho => by have := (f1 o ho).1; omega
 rw [if_neg ha, if_neg ha]; exact h.mono (by omega)
theorem Good.compG {k : Nat} {S : St} {D : Doc} (h : Good k S D) (hk : k ≤ 50000) {R : Int} (h1 : S.mark < R) (h2 : R ≤ S.rev) : CompGk S R := by
 have hm0 := h.cpl.m0; have hr := h.rev; rw [h.cpl.mark] at h1; rw [hr] at h2; refine ⟨by omega, by rw [h.cpl.mark]; exact h1, h.events_pos (by omega), ztq h.cpl.inv h.srt, h.srt, fun p hp H hH => ?_⟩; have ho := (h.ok.hist _ _ hH).1; have hm := h.more _ _ hH; refine ⟨(ho.comp hm (by omega) R).fits (by omega), ?_⟩; obtain ⟨l, a, b⟩ := hm.fin; exact ⟨l, by omega, b⟩
theorem zoz {TA : zao} (hT : TreeOk TA 1000000) {k : Nat} {S : St} {D : Doc} (h : Good k S D) (hk : k ≤ 70) (w : World) (s : Nat) (F : Nat → Prop) (hS : zaj TA w s S F) (v : Value) (keys : List ByteArray) (hv : SlR w 1 strC v keys)
 (hvF : 0 < keys.length → ∀ b, v.ownBlock = some b → ¬ F b) (hl : keys.length ≤ 30) :
 Calls Tryz.prog 57 #[.pointer (some ⟨s, 0, none⟩), v] w fun e w' => ∃ ev, e = .returned (.tuple #[ev, .int .i64 0]) ∧ ∃ F', zaj TA w' s (dropS S keys) F' ∧
  SlF w' 101 13 evC ev (keys.foldl (dropR (S.rev + 1)) (S, [])).2 ∧ Fr F w w' ∧ (∀ b, F' b → F b ∨ w.heap.size ≤ b) ∧ (∀ b, ev.ownBlock = some b → w.heap.size ≤ b ∧ ¬ F' b) := by
 have hr := h.rev; have hr1 := h.rev1; have hm0 := h.cpl.m0; refine zry hT (n := 20000 * k + 30) (by omega) w s S F hS v keys hv hvF (by omega) (by unfold top; omega) (by unfold top; omega) fun i x hx => ?_; have hil := (List.getElem?_eq_some_iff.1 hx).1; obtain ⟨a, b⟩ := h.drops hk keys hl i (by omega); rw [hr]; refine ⟨a.ok.mono (by omega), ?_, b x hx⟩; have h1 := a.ok.ev; rw [a.cpl.events, (Doc.adds_parts D _).2.2, List.length_append] at h1; omega
theorem zmx {TA : zao} (hT : TreeOk TA 1000000) {k : Nat} {S : St} {D : Doc} (h : Good k S D) (hk : k ≤ 70) (w : World) (s : Nat) (F : Nat → Prop) (hS : zaj TA w s S F) (v : Value) (ops : List Opr) (hv : SlR w 10 opC v ops)
 (hvF : 0 < ops.length → ∀ b, v.ownBlock = some b → ¬ F b) (hl : ops.length ≤ 30) (hks : ∀ o ∈ ops, o.rg.key.size ≤ 3000) :
 Calls Tryz.prog 37 #[.pointer (some ⟨s, 0, none⟩), v] w fun e w' => ∃ av ev, e = .returned (.tuple #[av, ev, .int .i64 (applyE S ops)]) ∧ ∃ F' Z, zaj TA w' s (if applyE S ops = 0 then applyS S ops else S) F' ∧ AnsR w' av Z ∧
  Z.map (·.1) = (if applyE S ops = 0 then (runR (S.rev + 1) ⟨S, [], []⟩ ops).A else []) ∧ SlF w' 101 13 evC ev (if applyE S ops = 0 then (runR (S.rev + 1) ⟨S, [], []⟩ ops).E else []) ∧ Fr F w w' ∧ (∀ b, F' b → F b ∨ w.heap.size ≤ b) := by
 have hr := h.rev; have hr1 := h.rev1; have hm0 := h.cpl.m0; by_cases he : applyE S ops = 0
 · obtain ⟨e1, e2⟩ := zbk he
   simp only [if_pos he]; rw [he]; refine (zij hT (n := 20000 * k + 20000) (by omega) w s S F hS v ops hv hvF (by omega) (fun o ho => by have := hks o ho; omega) (by unfold top; omega) (by unfold top; omega) e1 e2 fun i o ho => ?_).mono ?_
   · have hil := (List.getElem?_eq_some_iff.1 ho).1
     rw [hr]; exact (h.runs hk e1 (fun o ho => by have := hks o ho; omega) i (by omega)).2 o ho
   rintro e w' ⟨av, ev, rfl, F', Z, a, b, c, d, f, g, _⟩
   exact ⟨av, ev, rfl, F', Z, a, b, c, d, f, g⟩
 simp only [if_neg he]
 refine (zmr hT w s S F hS v ops hv (by omega) (fun o ho => by have := hks o ho; omega) he).mono ?_; rintro e w' ⟨rfl, hf⟩; exact ⟨_, _, rfl, F, [], hS.fr0 hT hf, AnsR.nil _, rfl, SlF.nil _ _ _ _, hf.mono fun _ _ h => h.elim, fun b h => .inl h⟩
theorem zja {TA : zao} (hT : TreeOk TA 1000000) (hTD : TreeDl TA) {k : Nat} {S : St} {D : Doc} (h : Good k S D) (hk : k ≤ 70) (w : World) (s : Nat) (F : Nat → Prop) (hS : zaj TA w s S F) (rev : Int) :
 Calls Tryz.prog 50 #[.pointer (some ⟨s, 0, none⟩), .int .i64 rev] w fun e w' => e = .returned (.int .i64 (zbw S rev)) ∧ ∃ F', zaj TA w' s (if zbw S rev = 0 then compS rev S else S) F' ∧ Fr F w w' ∧ (∀ b, F' b → F b ∨ w.heap.size ≤ b) := by
 by_cases he : zbw S rev = 0
 · obtain ⟨c1, c2⟩ := zee he
   rw [if_pos he, he]; exact zjb hT hTD (n := 20000 * k) (by omega) w s S F hS h.ok (by have := h.size; omega) rev (h.compG (by omega) c2 c1)
 rw [if_neg he]
 refine (zpa w s S F hS rev he).mono ?_; rintro e w' ⟨rfl, hf⟩; exact ⟨rfl, F, hS.fr0 hT hf, hf.mono fun _ _ h => h.elim, fun b h => .inl h⟩
theorem zmt {TA : zao} (hT : TreeOk TA 1000000) {k : Nat} {S : St} {D : Doc} (h : Good k S D) (hk : k ≤ 70) (w : World) (s : Nat) (F : Nat → Prop) (hS : zaj TA w s S F) (g : Rg) (hks : g.key.size ≤ 3000) :
 Calls Tryz.prog 46 #[.pointer (some ⟨s, 0, none⟩), rgV g] w fun e w' => ∃ v, e = .returned (.tuple #[v, .int .i64 (if rangeE S g = 0 then ((allL S g S.rev).length : Int) else 0), .bool (decide (rangeE S g = 0) && moreB S g S.rev), .int .i64 (rangeE S g)]) ∧
  SlF w' 99 6 kvC v (if rangeE S g = 0 then getL S g S.rev else []) ∧ Fr No w w' ∧ (∀ b, v.ownBlock = some b → w.heap.size ≤ b) := by
 by_cases he : rangeE S g = 0
 · simp only [he, decide_true, Bool.true_and]
   exact zfl hT (n := 20000 * k) (by omega) w s S F hS h.ok (by have := h.size; omega) g (by omega) he
 simp only [he, decide_false, Bool.false_and]
 refine (zul hT w s S F hS g (by omega) he).mono ?_; rintro e w' ⟨rfl, hf⟩; exact ⟨_, rfl, SlF.nil _ _ _ _, hf, fun b hb => by simp [Value.ownBlock] at hb⟩
set_option maxHeartbeats 8000000 in
theorem zwn {TA : zao} (hT : TreeOk TA 1000000) (hTD : TreeDl TA) {k : Nat} {S : St} {D : Doc} (h : Good k S D) (hk : k ≤ 70) (w : World) (s : Nat) (F : Nat → Prop) (hS : zaj TA w s S F) (q : CalQ) (hq : fewCal q = true)
 (ha : SlR w 10 opC q.1.ops q.2.1) (hb : SlR w 1 strC q.1.keys q.2.2) (haF : 0 < q.2.1.length → ∀ b, q.1.ops.ownBlock = some b → ¬ F b) (hbF : 0 < q.2.2.length → ∀ b, q.1.keys.ownBlock = some b → ¬ F b) :
 Calls Tryz.prog 27 #[.pointer (some ⟨s, 0, none⟩), .agg (calC q).toArray] w fun e w' => e = .returned (.int .i64 (doE S q)) ∧ ∃ F', zaj TA w' s (doT S q) F' ∧ Fr F w w' ∧ (∀ b, F' b → F b ∨ w.heap.size ≤ b) := by
 obtain ⟨f1, f2, f3, f4, f5⟩ := zew hq; have hkd := fun W => zrx W q; have hkr := znq q.1.kind; have C30 := fun W (h1 : Fr No w W) => zmt hT h hk W s F (hS.fr0 hT h1) q.1.rg f4; have C44 := fun W (h1 : Fr No w W) => zja hT hTD h hk W s F (hS.fr0 hT h1) q.1.rev; have C43 := fun W (h1 : Fr No w W) => zmw hT W s S F (hS.fr0 hT h1) (by have := h.ok.ev; omega) (fun h1 => h.events_pos (by rw [← h.rev]; exact h1)) q.1.rev q.1.upto; have C42 := fun W (h1 : Fr No w W) => zoz hT h hk W s F (hS.fr0 hT h1) q.1.keys q.2.2 (hb.fr0 h1) hbF f3; have C41 := fun W (h1 : Fr No w W) => zmx hT h hk W s F (hS.fr0 hT h1) q.1.ops q.2.1 (ha.fr0 h1) haF f2 fun o ho => (f1 o ho).1; obtain ⟨oa, ocap, hos, _, _, _⟩ := ha.shape; obtain ⟨ka, kcap, hks, _, _, _⟩ := hb.shape; have hS0 := fun W (h1 : Fr No w W) => hS.fr0 hT h1; unfold doE doT; clear ha hb haF hbF hq f1 f2 f3 f4 f5 h hk hS hTD
 obtain ⟨⟨p1, p2, ⟨g1, g2, g3, g4, g5, g6, g7⟩, p3, p4, p5⟩, ops, keys⟩ := q; dsimp only at *; subst hos hks; unfold calC rgC rgV at *; dsimp only at *; generalize kindN p1 = kd at *; generalize rangeE S _ = e30 at *; generalize zbw S _ = e44 at *; generalize zie S _ _ = e43 at *; generalize applyE S _ = e41 at *; generalize (if e30 = 0 then ((allL S ⟨g1, g2, g3, g4, g5, g6, g7⟩ S.rev).length : Int) else 0) = n30 at *; generalize (decide (e30 = 0) && moreB S ⟨g1, g2, g3, g4, g5, g6, g7⟩ S.rev) = b30 at *; generalize (if e30 = 0 then getL S ⟨g1, g2, g3, g4, g5, g6, g7⟩ S.rev else []) = l30 at *; generalize (if e44 = 0 then compS p3 S else S) = s44 at *; generalize (if e43 = 0 then S.events.filter (insB p3 p4) else []) = l43 at *; generalize (if e41 = 0 then applyS S ops else S) = s41 at *; generalize (if e41 = 0 then (runR (S.rev + 1) ⟨S, [], []⟩ ops).A else []) = a41 at *
 generalize (if e41 = 0 then (runR (S.rev + 1) ⟨S, [], []⟩ ops).E else []) = ev41 at *; have HKD := H_ hkd; have H30 := H_ C30; have H44 := H_ C44; have H43 := H_ C43; have H42 := H_ C42; have H41 := H_ C41; have HS0 := H_ hS0; clear hkd C30 C44 C43 C42 C41 hS0; have hf0 : Fr No w (w.alloc (Obj.cells #[.int .i64 p1, .slice oa ops.length ocap, .string g1, .string g2, .int .i64 g3, .int .i64 g4, .bool g5, .bool g6, .bool g7, .int .i64 p3, .int .i64 p4, .slice ka keys.length kcap] 38)) := (Fr.refl No w).alloc _; have hbx := zad w (Obj.cells #[.int .i64 p1, .slice oa ops.length ocap, .string g1, .string g2, .int .i64 g3, .int .i64 g4, .bool g5, .bool g6, .bool g7, .int .i64 p3, .int .i64 p4, .slice ka keys.length kcap] 38) _ rfl; by_cases h4 : kd = 4
 · subst h4
   rw [if_pos rfl, if_pos rfl]; go_enter Tryz.func27, Tryz.ntmps27
   go_wp2_with (first
   | (go_at_call 52; refine (HKD.out _).mono ?_; rintro e w1 ⟨rfl, hf⟩
      have hf1 := hf0.trans0 hf; have hb1 := hf.heap hbx (fun h => h); have x1 : w1.cell? ⟨w.heap.size, 1, none⟩ = some (.slice oa ops.length ocap) := (by simp [World.cell?, hb1]); have x2 : w1.cell? ⟨w.heap.size, 2, none⟩ = some (.string g1) := (by simp [World.cell?, hb1]); have x3 : w1.cell? ⟨w.heap.size, 3, none⟩ = some (.string g2) := (by simp [World.cell?, hb1]); have x4 : w1.cell? ⟨w.heap.size, 4, none⟩ = some (.int .i64 g3) := (by simp [World.cell?, hb1]); have x5 : w1.cell? ⟨w.heap.size, 5, none⟩ = some (.int .i64 g4) := (by simp [World.cell?, hb1]); have x6 : w1.cell? ⟨w.heap.size, 6, none⟩ = some (.bool g5) := (by simp [World.cell?, hb1]); have x7 : w1.cell? ⟨w.heap.size, 7, none⟩ = some (.bool g6) := (by simp [World.cell?, hb1]); have x8 : w1.cell? ⟨w.heap.size, 8, none⟩ = some (.bool g7) := (by simp [World.cell?, hb1])
      have x9 : w1.cell? ⟨w.heap.size, 9, none⟩ = some (.int .i64 p3) := (by simp [World.cell?, hb1]); have x10 : w1.cell? ⟨w.heap.size, 10, none⟩ = some (.int .i64 p4) := (by simp [World.cell?, hb1]); have x11 : w1.cell? ⟨w.heap.size, 11, none⟩ = some (.slice ka keys.length kcap) := (by simp [World.cell?, hb1]); have lx := zaa hb1)
   | (go_at_call 46; refine (H30.out _ hf1).mono ?_; rintro e w2 ⟨v, rfl, _, hf2, _⟩))
   go_ret; have hfw := hf1.trans0 hf2; exact ⟨rfl, F, HS0.out _ hfw, hfw.mono fun _ _ h => h.elim, fun b h => .inl h⟩
 have h4' : (kd == 4) = false := by simpa using h4
 rw [if_neg h4, if_neg h4]; by_cases h5 : kd = 5
 · subst h5
   rw [if_pos rfl, if_pos rfl]; go_enter Tryz.func27, Tryz.ntmps27
   go_wp2_with (first
   | (go_at_call 52; refine (HKD.out _).mono ?_; rintro e w1 ⟨rfl, hf⟩
      have hf1 := hf0.trans0 hf; have hb1 := hf.heap hbx (fun h => h); have x1 : w1.cell? ⟨w.heap.size, 1, none⟩ = some (.slice oa ops.length ocap) := (by simp [World.cell?, hb1]); have x2 : w1.cell? ⟨w.heap.size, 2, none⟩ = some (.string g1) := (by simp [World.cell?, hb1]); have x3 : w1.cell? ⟨w.heap.size, 3, none⟩ = some (.string g2) := (by simp [World.cell?, hb1]); have x4 : w1.cell? ⟨w.heap.size, 4, none⟩ = some (.int .i64 g3) := (by simp [World.cell?, hb1]); have x5 : w1.cell? ⟨w.heap.size, 5, none⟩ = some (.int .i64 g4) := (by simp [World.cell?, hb1]); have x6 : w1.cell? ⟨w.heap.size, 6, none⟩ = some (.bool g5) := (by simp [World.cell?, hb1]); have x7 : w1.cell? ⟨w.heap.size, 7, none⟩ = some (.bool g6) := (by simp [World.cell?, hb1]); have x8 : w1.cell? ⟨w.heap.size, 8, none⟩ = some (.bool g7) := (by simp [World.cell?, hb1])
      have x9 : w1.cell? ⟨w.heap.size, 9, none⟩ = some (.int .i64 p3) := (by simp [World.cell?, hb1]); have x10 : w1.cell? ⟨w.heap.size, 10, none⟩ = some (.int .i64 p4) := (by simp [World.cell?, hb1]); have x11 : w1.cell? ⟨w.heap.size, 11, none⟩ = some (.slice ka keys.length kcap) := (by simp [World.cell?, hb1]); have lx := zaa hb1)
   | (go_at_call 50; refine (H44.out _ hf1).mono ?_; rintro e w2 ⟨rfl, F2, hs2, hf2, hn2⟩))
   go_ret; refine ⟨rfl, F2, hs2, (hf1.mono fun _ _ h => h.elim).trans hf2 fun _ _ h => h, fun b hb => ?_⟩; have := hf1.size; rcases hn2 b hb with h | h
   · exact .inl h
   exact .inr (by omega)
 have h5' : (kd == 5) = false := by simpa using h5
 rw [if_neg h5, if_neg h5]; by_cases h6 : kd = 6
 · subst h6
   rw [if_pos rfl, if_pos rfl]; go_enter Tryz.func27, Tryz.ntmps27
   go_wp2_with (first
   | (go_at_call 52; refine (HKD.out _).mono ?_; rintro e w1 ⟨rfl, hf⟩
      have hf1 := hf0.trans0 hf; have hb1 := hf.heap hbx (fun h => h); have x1 : w1.cell? ⟨w.heap.size, 1, none⟩ = some (.slice oa ops.length ocap) := (by simp [World.cell?, hb1]); have x2 : w1.cell? ⟨w.heap.size, 2, none⟩ = some (.string g1) := (by simp [World.cell?, hb1]); have x3 : w1.cell? ⟨w.heap.size, 3, none⟩ = some (.string g2) := (by simp [World.cell?, hb1]); have x4 : w1.cell? ⟨w.heap.size, 4, none⟩ = some (.int .i64 g3) := (by simp [World.cell?, hb1]); have x5 : w1.cell? ⟨w.heap.size, 5, none⟩ = some (.int .i64 g4) := (by simp [World.cell?, hb1]); have x6 : w1.cell? ⟨w.heap.size, 6, none⟩ = some (.bool g5) := (by simp [World.cell?, hb1]); have x7 : w1.cell? ⟨w.heap.size, 7, none⟩ = some (.bool g6) := (by simp [World.cell?, hb1]); have x8 : w1.cell? ⟨w.heap.size, 8, none⟩ = some (.bool g7) := (by simp [World.cell?, hb1])
      have x9 : w1.cell? ⟨w.heap.size, 9, none⟩ = some (.int .i64 p3) := (by simp [World.cell?, hb1]); have x10 : w1.cell? ⟨w.heap.size, 10, none⟩ = some (.int .i64 p4) := (by simp [World.cell?, hb1]); have x11 : w1.cell? ⟨w.heap.size, 11, none⟩ = some (.slice ka keys.length kcap) := (by simp [World.cell?, hb1]); have lx := zaa hb1)
   | (go_at_call 47; refine (H43.out _ hf1).mono ?_; rintro e w2 ⟨v, rfl, _, hf2, _⟩))
   go_ret; have hfw := hf1.trans0 hf2; exact ⟨rfl, F, HS0.out _ hfw, hfw.mono fun _ _ h => h.elim, fun b h => .inl h⟩
 have h6' : (kd == 6) = false := by simpa using h6
 rw [if_neg h6, if_neg h6]; by_cases h7 : kd = 7
 · subst h7
   rw [if_pos rfl, if_pos rfl]; go_enter Tryz.func27, Tryz.ntmps27
   go_wp2_with (first
   | (go_at_call 52; refine (HKD.out _).mono ?_; rintro e w1 ⟨rfl, hf⟩
      have hf1 := hf0.trans0 hf; have hb1 := hf.heap hbx (fun h => h); have x1 : w1.cell? ⟨w.heap.size, 1, none⟩ = some (.slice oa ops.length ocap) := (by simp [World.cell?, hb1]); have x2 : w1.cell? ⟨w.heap.size, 2, none⟩ = some (.string g1) := (by simp [World.cell?, hb1]); have x3 : w1.cell? ⟨w.heap.size, 3, none⟩ = some (.string g2) := (by simp [World.cell?, hb1]); have x4 : w1.cell? ⟨w.heap.size, 4, none⟩ = some (.int .i64 g3) := (by simp [World.cell?, hb1]); have x5 : w1.cell? ⟨w.heap.size, 5, none⟩ = some (.int .i64 g4) := (by simp [World.cell?, hb1]); have x6 : w1.cell? ⟨w.heap.size, 6, none⟩ = some (.bool g5) := (by simp [World.cell?, hb1]); have x7 : w1.cell? ⟨w.heap.size, 7, none⟩ = some (.bool g6) := (by simp [World.cell?, hb1]); have x8 : w1.cell? ⟨w.heap.size, 8, none⟩ = some (.bool g7) := (by simp [World.cell?, hb1])
      have x9 : w1.cell? ⟨w.heap.size, 9, none⟩ = some (.int .i64 p3) := (by simp [World.cell?, hb1]); have x10 : w1.cell? ⟨w.heap.size, 10, none⟩ = some (.int .i64 p4) := (by simp [World.cell?, hb1]); have x11 : w1.cell? ⟨w.heap.size, 11, none⟩ = some (.slice ka keys.length kcap) := (by simp [World.cell?, hb1]); have lx := zaa hb1)
   | (go_at_call 57; refine (H42.out _ hf1).mono ?_; rintro e w2 ⟨v, rfl, F2, hs2, _, hf2, hn2, _⟩))
   go_ret; refine ⟨rfl, F2, hs2, (hf1.mono fun _ _ h => h.elim).trans hf2 fun _ _ h => h, fun b hb => ?_⟩; have := hf1.size; rcases hn2 b hb with h | h
   · exact .inl h
   exact .inr (by omega)
 have h7' : (kd == 7) = false := by simpa using h7
 rw [if_neg h7, if_neg h7]; go_enter Tryz.func27, Tryz.ntmps27
 go_wp2_with (first
 | (go_at_call 52; refine (HKD.out _).mono ?_; rintro e w1 ⟨rfl, hf⟩
    have hf1 := hf0.trans0 hf; have hb1 := hf.heap hbx (fun h => h); have x1 : w1.cell? ⟨w.heap.size, 1, none⟩ = some (.slice oa ops.length ocap) := (by simp [World.cell?, hb1]); have x2 : w1.cell? ⟨w.heap.size, 2, none⟩ = some (.string g1) := (by simp [World.cell?, hb1]); have x3 : w1.cell? ⟨w.heap.size, 3, none⟩ = some (.string g2) := (by simp [World.cell?, hb1]); have x4 : w1.cell? ⟨w.heap.size, 4, none⟩ = some (.int .i64 g3) := (by simp [World.cell?, hb1]); have x5 : w1.cell? ⟨w.heap.size, 5, none⟩ = some (.int .i64 g4) := (by simp [World.cell?, hb1]); have x6 : w1.cell? ⟨w.heap.size, 6, none⟩ = some (.bool g5) := (by simp [World.cell?, hb1]); have x7 : w1.cell? ⟨w.heap.size, 7, none⟩ = some (.bool g6) := (by simp [World.cell?, hb1]); have x8 : w1.cell? ⟨w.heap.size, 8, none⟩ = some (.bool g7) := (by simp [World.cell?, hb1])
    have x9 : w1.cell? ⟨w.heap.size, 9, none⟩ = some (.int .i64 p3) := (by simp [World.cell?, hb1]); have x10 : w1.cell? ⟨w.heap.size, 10, none⟩ = some (.int .i64 p4) := (by simp [World.cell?, hb1]); have x11 : w1.cell? ⟨w.heap.size, 11, none⟩ = some (.slice ka keys.length kcap) := (by simp [World.cell?, hb1]); have lx := zaa hb1)
 | (go_at_call 37; refine (H41.out _ hf1).mono ?_; rintro e w2 ⟨av, ev, rfl, F2, Z, hs2, _, _, _, hf2, hn2⟩))
 go_ret; refine ⟨rfl, F2, hs2, (hf1.mono fun _ _ h => h.elim).trans hf2 fun _ _ h => h, fun b hb => ?_⟩; have := hf1.size; rcases hn2 b hb with h | h
 · exact .inl h
 exact .inr (by omega)
def donesT (l : List CalQ) (i : Nat) : St × Doc := (l.take i).foldl (fun p q => (doT p.1 q, doD p.1 p.2 q)) (newS, newD)
theorem zcx (l : List CalQ) {i : Nat} {q : CalQ} (h : l[i]? = some q) : donesT l (i + 1) = (doT (donesT l i).1 q, doD (donesT l i).1 (donesT l i).2 q) := by
 unfold donesT; rw [List.take_add_one, h, List.foldl_append]
 rfl
theorem zbj {l : List CalQ} (h : zbg l = true) : l.length ≤ 30 ∧ ∀ q ∈ l, fewCal q = true := by
 unfold zbg at h; simpa [Bool.and_eq_true] using h
theorem zcs {l : List CalQ} (h : zbg l = true) : ∀ i ≤ l.length, Good i (donesT l i).1 (donesT l i).2 := by
 obtain ⟨h1, h2⟩ := zbj h; intro i
 induction i with
 | zero => intro _; exact Good.new
 | succ i ih =>
   intro hi; obtain ⟨q, hq⟩ : ∃ q, l[i]? = some q := ⟨_, List.getElem?_eq_getElem (by omega)⟩; rw [zcx l hq]; exact (ih (by omega)).does (by omega) (h2 q (List.mem_of_getElem? hq))
theorem SlR.lt {α : Type} {f : α → List Value} {w : World} {sz : Nat} {v : Value} {L : List α} (h : SlR w sz f v L) (hf : ∀ x, (f x).length = sz) (hsz : 0 < sz) (hp : 0 < L.length) : ∀ b, v.ownBlock = some b → b < w.heap.size := by
 intro b hb; obtain ⟨a, cap, rfl, h1, h2, h3⟩ := h; obtain ⟨g, o, rfl, h4⟩ := h3 hp; obtain rfl : g = b := by simpa [Value.ownBlock] using hb
 have hx : L[0]? = some L[0] := List.getElem?_eq_getElem hp; have hl : 0 < (f L[0]).length := by rw [hf]; exact hsz
 exact World.block_lt_of_cell? _ _ (h4 0 _ hx 0 _ (List.getElem?_eq_getElem hl))
structure KeysOk (D : Doc) : Prop where
 kvs : ∀ k ∈ D.kvs, keyE k.key = 0
 evs : ∀ e ∈ D.events, keyE e.kv.key = 0
theorem KeysOk.at {D : Doc} (h : KeysOk D) (hs : KSorted D.kvs) {r : Int} {y : Kv} (hy : y ∈ D.at r) : keyE y.key = 0 := by
 rcases Doc.mem_at hs hy with h1 | ⟨e, h1, _, rfl⟩
 · exact h.kvs y h1
 exact h.evs e h1
theorem KeysOk.cut {D : Doc} (h : KeysOk D) (hs : KSorted D.kvs) (R : Int) : KeysOk (D.cut R) :=
 ⟨fun _k hk => h.at hs hk, fun e he => h.evs e (List.mem_filter.1 he).1⟩
theorem KeysOk.adds {D : Doc} (h : KeysOk D) {E : List Ev} (hE : ∀ e ∈ E, keyE e.kv.key = 0) : KeysOk (D.adds E) := by
 obtain ⟨a, b, c⟩ := Doc.adds_parts D E; refine ⟨by rw [b]; exact h.kvs, fun e he => ?_⟩; rw [c] at he; rcases List.mem_append.1 he with he | he
 · exact h.evs e he
 exact hE e he
theorem zvf {o : Opr} (h : oneE o = 0) (hk : o.kind = 1) : keyE o.rg.key = 0 := by
 unfold oneE at h; rw [if_neg (by rw [hk]; decide), if_neg (by rw [hk]; decide), if_pos hk] at h
 split at h
 · rename_i hn; exact absurd h hn
 rename_i hn; exact Classical.not_not.1 hn
theorem RunOk.ks {c n : Nat} {D : Doc} {P : List Opr} {S : St} {E : List Ev} (h : RunOk c n D P S E) : KSorted D.kvs := by
 have := h.cpl.ks
 rwa [(Doc.adds_parts D E).2.1] at this
theorem ztn {c n : Nat} {D : Doc} {P : List Opr} {r : Run} (h : RunOk c n D P r.S r.E) (hD : KeysOk D) (hmk : D.mark ≤ D.rev) (o : Opr) (ho : oneE o = 0) (hE : ∀ e ∈ r.E, keyE e.kv.key = 0) :
 ∀ e ∈ (stepR (D.rev + 1) r o).E, keyE e.kv.key = 0 := by
 have hks := h.ks; unfold stepR; by_cases h1 : o.kind = 1
 · rw [if_pos h1]
   intro e he; rcases List.mem_append.1 he with he | he
   · exact hE e he
   rw [List.mem_singleton.1 he]
   exact zvf ho h1
 rw [if_neg h1]
 by_cases h2 : o.kind = 2
 · rw [if_pos h2]
   intro e he; dsimp only at he; rw [znx] at he; rcases List.mem_append.1 he with he | he
   · exact hE e he
   obtain ⟨x, hx, rfl⟩ := List.mem_map.1 he
   rw [h.between hmk] at hx; exact KeysOk.at (y := x) (hD.adds hE) (by rw [(Doc.adds_parts D r.E).2.1]; exact hks) (List.mem_filter.1 hx).1
 rw [if_neg h2]
 split <;> exact hE
theorem Good.keys_does {k : Nat} {S : St} {D : Doc} (h : Good k S D) (hk : k ≤ 70) {q : CalQ} (hq : fewCal q = true) (hD : KeysOk D) : KeysOk (doD S D q) := by
 obtain ⟨f1, f2, f3, f4, f5⟩ := zew hq; have hm0 := h.cpl.m0; unfold doD; by_cases h4 : kindN q.1.kind = 4
 · rw [if_pos h4]; exact hD
 rw [if_neg h4]
 by_cases h5 : kindN q.1.kind = 5
 · rw [if_pos h5]
   split
   · exact hD.cut h.cpl.ks _
   exact hD
 rw [if_neg h5]
 by_cases h6 : kindN q.1.kind = 6
 · rw [if_pos h6]; exact hD
 rw [if_neg h6]
 by_cases h7 : kindN q.1.kind = 7
 · rw [if_pos h7]
   refine hD.adds ?_
   have key : ∀ i ≤ q.2.2.length, ∀ e ∈ (dropTo (D.rev + 1) S q.2.2 i).2, keyE e.kv.key = 0 := by
    intro i
    induction i with
    | zero => intro _ e he; simp [dropTo] at he
    | succ i ih =>
      intro hi; obtain ⟨x, hx⟩ : ∃ x, q.2.2[i]? = some x := ⟨_, List.getElem?_eq_getElem (by omega)⟩; obtain ⟨a, _⟩ := h.drops hk q.2.2 f3 i (by omega); have ih' := ih (by omega); rw [zeb _ _ _ hx]; unfold dropR
      split
      · rename_i hlv
        intro e he; rcases List.mem_append.1 he with he | he
        · exact ih' e he
        rw [List.mem_singleton.1 he]
        show keyE x = 0
        have hl := a.cpl.lives x (D.rev + 1) (by rw [(Doc.adds_parts D _).1]; omega)
        cases hh : hasL ((D.adds (dropTo (D.rev + 1) S q.2.2 i).2).at (D.rev + 1)) x with
        | none => rw [hl, hh] at hlv; cases hlv
        | some y =>
          have hks : KSorted (D.adds (dropTo (D.rev + 1) S q.2.2 i).2).kvs := (by rw [(Doc.adds_parts D _).2.1]; exact h.cpl.ks); obtain ⟨y1, y2⟩ := (zbi (Doc.at_sorted hks _) x y).1 hh; rw [← y2]; exact (hD.adds ih').at hks y1
      exact ih'
   have := key q.2.2.length (Nat.le_refl _); have he : dropTo (D.rev + 1) S q.2.2 q.2.2.length = q.2.2.foldl (dropR (D.rev + 1)) (S, []) := (by unfold dropTo; rw [List.take_length]); rw [he] at this; exact this
 rw [if_neg h7]
 by_cases ha : applyE S q.2.1 = 0
 · rw [if_pos ha]
   refine hD.adds ?_; obtain ⟨_, hone, _⟩ := zcz (zbk ha).1
   have key : ∀ i ≤ q.2.1.length, ∀ e ∈ (runR (D.rev + 1) ⟨S, [], []⟩ (q.2.1.take i)).E, keyE e.kv.key = 0 := by
    intro i
    induction i with
    | zero => intro _ e he; simp [runR] at he
    | succ i ih =>
      intro hi; obtain ⟨o, ho⟩ : ∃ o, q.2.1[i]? = some o := ⟨_, List.getElem?_eq_getElem (by omega)⟩; obtain ⟨⟨a, _⟩, _⟩ := h.runs hk (zbk ha).1 (fun o ho => by have := (f1 o ho).1; omega) i (by omega); rw [zho _ _ _ ho]; exact ztn a hD hm0.2 o (hone o (List.mem_of_getElem? ho)) (ih (by omega))
   have := key q.2.1.length (Nat.le_refl _); rw [List.take_length] at this; exact this
 rw [if_neg ha]; exact hD
theorem zgq {l : List CalQ} (h : zbg l = true) : ∀ i ≤ l.length, KeysOk (donesT l i).2 := by
 obtain ⟨h1, h2⟩ := zbj h; have hg := zcs h; intro i
 induction i with
 | zero => intro _; exact ⟨fun k hk => by simp [donesT, newD] at hk, fun e he => by simp [donesT, newD] at he⟩
 | succ i ih =>
   intro hi; obtain ⟨q, hq⟩ : ∃ q, l[i]? = some q := ⟨_, List.getElem?_eq_getElem (by omega)⟩; rw [zcx l hq]; exact (hg i (by omega)).keys_does (by omega) (h2 q (List.mem_of_getElem? hq)) (ih (by omega))
theorem zhz {k : ByteArray} (h : keyE k = 0) : inB k ⟨#[1]⟩ ⟨#[0]⟩ = true ∧ k.size ≤ 64 := by
 have hk : ¬ (runes k < 1 ∨ 0 ≤ firstIdx k 0) ∧ ¬ 64 < k.size := by
  unfold keyE at h
  split at h
  · cases h
  rename_i h1
  split at h
  · cases h
  rename_i h2; exact ⟨h1, h2⟩
 refine ⟨?_, by omega⟩
 have hz : k.data.toList.any (· == 0) = false := by
  rw [← Go.firstIdx_nonneg]; simp only [decide_eq_false_iff_not]; exact fun h => hk.1 (.inr h)
 have hr : ¬ runes k < 1 := fun h => hk.1 (.inl h)
 have hlt : klt k ⟨#[1]⟩ = false := by
  rw [Bool.eq_false_iff]; intro hlt; have h1 := zdd.1 hlt
  cases hl : k.data.toList with
  | nil =>
    refine hr ?_
    have : k.size = 0 := by
     have := congrArg List.length hl; simpa using this
    unfold runes; rw [this]
    show (0 : Int) < 1
    decide
  | cons a t =>
    rw [hl] at h1 hz; simp only [List.any_cons, Bool.or_eq_false_iff, beq_eq_false_iff_ne] at hz; have h2 : a :: t < [1] := h1; rw [List.cons_lt_cons_iff] at h2; rcases h2 with h2 | ⟨_, h2⟩
    · refine hz.1 ?_
      rw [UInt8.lt_iff_toNat_lt] at h2
      have h3 : a.toNat = 0 := by
       have : (1 : UInt8).toNat = 1 := rfl; omega
      exact UInt8.toNat_inj.1 h3
    exact absurd h2 (List.not_lt_nil _)
 unfold inB; rw [if_neg (by rw [Lib.toList_data]; simp), if_pos (by rw [Lib.toList_data]; rfl)]; have : Op.bytesLess k.toList (⟨#[1]⟩ : ByteArray).toList = klt k ⟨#[1]⟩ := rfl; rw [this, hlt]
 rfl
theorem zlc {k : Nat} {S : St} {D : Doc} (h : Good k S D) : zan S S.T S.mark = D.kvs := by
 have hm := h.cpl.mark; have h1 := h.cpl.between h.srt ⟨#[]⟩ ⟨#[]⟩ (r := D.mark) (Int.le_refl _); rw [zgj] at h1; rw [hm, h1]
 have h2 : (D.at D.mark).filter (fun y => rgB ⟨#[]⟩ ⟨#[]⟩ y.key) = D.at D.mark := by
  rw [List.filter_eq_self]; intro y _; unfold rgB; rw [zdl]; simp [Lib.toList_data]
 rw [h2]
 unfold Doc.at; have : (D.events.filter fun e => decide (D.mark < e.kv.mod) && decide (e.kv.mod ≤ D.mark)) = [] := List.filter_eq_nil_iff.2 fun e _ => by simp <;> omega
 rw [this]
 rfl
def revAt (D : Doc) (i : Nat) : Int := if i = 0 then max D.mark 1 - 1 else match D.events[i - 1]? with
 | some p => p.kv.mod
 | none => 0
def foldTo (D : Doc) (i : Nat) : List Kv := ((D.events.take i).filter fun y => decide (D.mark < y.kv.mod)).foldl doneL D.kvs
theorem zcj {l : List Ev} (h : ESorted l) {i j : Nat} {a b : Ev} (hi : l[i]? = some a) (hj : l[j]? = some b) (hij : i ≤ j) : a.kv.mod ≤ b.kv.mod := by
 obtain ⟨i1, i2⟩ := List.getElem?_eq_some_iff.1 hi; obtain ⟨j1, j2⟩ := List.getElem?_eq_some_iff.1 hj; rcases Nat.lt_or_eq_of_le hij with e | e
 · have := List.pairwise_iff_getElem.1 h i j i1 j1 e
   rw [i2, j2] at this; exact this
 subst e
 rw [i2] at j2; rw [j2]; exact Int.le_refl _
theorem DocOk.chain {n : Nat} {D : Doc} (h : DocOk n D) (hm0 : 0 ≤ D.mark) {i : Nat} {e : Ev} (he : D.events[i]? = some e) : e.kv.mod = revAt D i ∨ e.kv.mod = revAt D i + 1 := by
 have hlo := h.lo e (List.mem_of_getElem? he); unfold revAt; by_cases hi : i = 0
 · rw [if_pos hi]
   subst hi
   right
   have hge : max D.mark 1 ≤ e.kv.mod := (by omega); rcases Int.lt_or_le (max D.mark 1) e.kv.mod with hlt | hle
   · exfalso
     obtain ⟨y, hy, hy2⟩ := h.full (max D.mark 1) (by omega) (by omega) (by omega); obtain ⟨j, hj⟩ := List.mem_iff_getElem?.1 hy; have := zcj h.es he hj (Nat.zero_le _); omega
   omega
 rw [if_neg hi]
 have hil := (List.getElem?_eq_some_iff.1 he).1; obtain ⟨p, hp⟩ : ∃ p, D.events[i - 1]? = some p := ⟨_, List.getElem?_eq_getElem (by omega)⟩; rw [hp]; dsimp only; have hplo := h.lo p (List.mem_of_getElem? hp); have hpe := zcj h.es hp he (by omega); rcases Int.lt_or_le (p.kv.mod + 1) e.kv.mod with hlt | hle
 · exfalso
   obtain ⟨y, hy, hy2⟩ := h.full (p.kv.mod + 1) (by omega) (by omega) (by omega); obtain ⟨j, hj⟩ := List.mem_iff_getElem?.1 hy; rcases Nat.lt_or_ge j i with e1 | e1
   · have := zcj h.es hj hp (by omega); omega
   have := zcj h.es he hj e1; omega
 omega
theorem zjf {D : Doc} {i : Nat} {e : Ev} (he : D.events[i]? = some e) : revAt D (i + 1) = e.kv.mod := by
 unfold revAt; rw [if_neg (by omega), Nat.add_sub_cancel, he]
theorem DocOk.revAt_last {n : Nat} {D : Doc} (h : DocOk n D) (hm0 : 0 ≤ D.mark) (hm1 : D.mark ≤ D.rev) : revAt D D.events.length = D.rev := by
 rcases Nat.eq_zero_or_pos D.events.length with h0 | h0
 · have hr : D.rev = 0 := by
    rcases Int.lt_or_le D.rev 1 with h1 | h1
    · omega
    obtain ⟨y, hy, _⟩ := h.full D.rev h1 hm1 (Int.le_refl _)
    rw [List.eq_nil_of_length_eq_zero h0] at hy; cases hy
   unfold revAt; rw [if_pos h0]; omega
 obtain ⟨e, he⟩ : ∃ e, D.events[D.events.length - 1]? = some e := ⟨_, List.getElem?_eq_getElem (by omega)⟩
 have h1 := zjf he; rw [Nat.sub_add_cancel (by omega)] at h1; rw [h1]; have hlo := h.lo e (List.mem_of_getElem? he); obtain ⟨y, hy, hy2⟩ := h.full D.rev (by omega) hm1 (Int.le_refl _); obtain ⟨j, hj⟩ := List.mem_iff_getElem?.1 hy; have hjl := (List.getElem?_eq_some_iff.1 hj).1; have := zcj h.es hj he (by omega); omega
theorem zki {D : Doc} (h : KSorted D.kvs) (i : Nat) : KSorted (foldTo D i) := zbd h _
theorem znz (D : Doc) : foldTo D 0 = D.kvs := by simp [foldTo]
theorem zoa {D : Doc} {i : Nat} {e : Ev} (he : D.events[i]? = some e) (hm : ¬ D.mark < e.kv.mod) : foldTo D (i + 1) = foldTo D i := by
 unfold foldTo; rw [List.take_add_one, he, List.filter_append]; simp [hm]
theorem zob {D : Doc} {i : Nat} {e : Ev} (he : D.events[i]? = some e) (hm : D.mark < e.kv.mod) : foldTo D (i + 1) = doneL (foldTo D i) e := by
 unfold foldTo; rw [List.take_add_one, he, List.filter_append, List.foldl_append]; simp [hm]
theorem DocOk.prev_at {n : Nat} {D : Doc} (h : DocOk n D) {i : Nat} {e : Ev} (he : D.events[i]? = some e) (hm : D.mark < e.kv.mod) : e.prev = (hasL (foldTo D i) e.kv.key).getD kv0 := by
 obtain ⟨hi, hv⟩ := List.getElem?_eq_some_iff.1 he; refine h.prev (D.events.take i) e (D.events.drop (i + 1)) ?_ hm; have := List.take_append_drop i D.events; rw [List.drop_eq_getElem_cons hi, hv] at this; exact this.symm
theorem DocOk.uniq_at {n : Nat} {D : Doc} (h : DocOk n D) {i j : Nat} {a b : Ev} (hi : D.events[i]? = some a) (hj : D.events[j]? = some b) (hij : i < j) (he : a.kv.mod = b.kv.mod) : a.kv.key ≠ b.kv.key := by
 obtain ⟨i1, i2⟩ := List.getElem?_eq_some_iff.1 hi; obtain ⟨j1, j2⟩ := List.getElem?_eq_some_iff.1 hj; have := List.pairwise_iff_getElem.1 h.uniq i j i1 j1 hij; rw [i2, j2] at this; exact this he
end Go.Proofs.YthljnnjpmdgkoaaGreat