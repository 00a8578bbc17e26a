/- The package index in plain terms: a kid is filled up, a key deleted below a node. No program is run. -/
import Derived.Test.YthljnnjpmdgkoaaGreatG25
namespace Go.Proofs.YthljnnjpmdgkoaaGreat
open Go Go.RowKit
def lendL (A : Arr) (at_ i : Nat) : Arr :=
 ((A.set (kidA A at_ i) ⟨(ndA A at_).pairs.getD (i - 1) default :: (ndA A (kidA A at_ i)).pairs, (ndA A (kidA A at_ (i - 1))).kids.drop (ndA A (kidA A at_ (i - 1))).pairs.length ++ (ndA A (kidA A at_ i)).kids⟩).set at_
   ⟨(ndA A at_).pairs.set (i - 1) ((ndA A (kidA A at_ (i - 1))).pairs.getD ((ndA A (kidA A at_ (i - 1))).pairs.length - 1) default), (ndA A at_).kids⟩).set (kidA A at_ (i - 1))
   ⟨(ndA A (kidA A at_ (i - 1))).pairs.take ((ndA A (kidA A at_ (i - 1))).pairs.length - 1), (ndA A (kidA A at_ (i - 1))).kids.take (ndA A (kidA A at_ (i - 1))).pairs.length⟩
def lendR (A : Arr) (at_ i : Nat) : Arr :=
 ((A.set (kidA A at_ i) ⟨(ndA A (kidA A at_ i)).pairs ++ [(ndA A at_).pairs.getD i default], (ndA A (kidA A at_ i)).kids ++ (ndA A (kidA A at_ (i + 1))).kids.take 1⟩).set at_
   ⟨(ndA A at_).pairs.set i ((ndA A (kidA A at_ (i + 1))).pairs.getD 0 default), (ndA A at_).kids⟩).set (kidA A at_ (i + 1))
   ⟨(ndA A (kidA A at_ (i + 1))).pairs.drop 1, (ndA A (kidA A at_ (i + 1))).kids.drop 1⟩
theorem zla {A : Arr} {fr : List Nat} {d at_ a b : Nat} {P : Pairs} {K1 K2 : List Nat} (h : Pt A fr (d + 1) at_) (hn : ndA A at_ = ⟨P, K1 ++ [a, b] ++ K2⟩) : a ≠ at_ ∧ b ≠ at_ ∧ a ≠ b := by
 have hone : ∀ j, (if at_ = j then 1 else 0) + (if a = j then 1 else 0) + (if b = j then 1 else 0) ≤ 1 := by
  intro j; have := h.one j; rw [zbr hn] at this; simp only [List.count_cons, List.count_append, List.flatMap_cons, List.flatMap_nil, List.append_nil, beq_iff_eq] at this; have e1 : (own A d a).count j = (if a = j then 1 else 0) + (nidx A d (ndA A a)).count j := (by unfold own; rw [List.count_cons]; simp only [beq_iff_eq]; omega); have e2 : (own A d b).count j = (if b = j then 1 else 0) + (nidx A d (ndA A b)).count j := (by unfold own; rw [List.count_cons]; simp only [beq_iff_eq]; omega); omega
 refine ⟨fun e => ?_, fun e => ?_, fun e => ?_⟩
 · have := hone a; rw [if_pos e.symm, if_pos rfl] at this; omega
 · have := hone b; rw [if_pos e.symm, if_pos rfl] at this; omega
 have := hone b; rw [if_pos e, if_pos rfl] at this; omega
theorem zvl {A : Arr} {fr : List Nat} {d at_ l k : Nat} {P1 P2 : Pairs} {K1 K2 : List Nat} {p : ByteArray × Int} (h : Pt A fr (d + 1) at_) (hn : ndA A at_ = ⟨P1 ++ [p] ++ P2, K1 ++ [l, k] ++ K2⟩) (h1 : K1.length = P1.length) (h2 : K2.length = P2.length)
 (h5 : 5 ≤ (ndA A l).pairs.length) (h8 : (ndA A k).pairs.length ≤ 8) : ∃ x, (ndA A l).pairs[(ndA A l).pairs.length - 1]? = some x ∧ Step A fr (lendL A at_ (P1.length + 1)) fr (d + 1) at_ ∧ trav (lendL A at_ (P1.length + 1)) (d + 1) at_ = trav A (d + 1) at_ ∧
   ndA (lendL A at_ (P1.length + 1)) at_ = ⟨P1 ++ [x] ++ P2, K1 ++ [l, k] ++ K2⟩ ∧ (ndA (lendL A at_ (P1.length + 1)) k).pairs.length = (ndA A k).pairs.length + 1 ∧ (lendL A at_ (P1.length + 1)).length = A.length ∧
   kidA A at_ P1.length = l ∧ kidA A at_ (P1.length + 1) = k := by
 obtain ⟨x, hx⟩ : ∃ x, (ndA A l).pairs[(ndA A l).pairs.length - 1]? = some x := ⟨_, List.getElem?_eq_getElem (by omega)⟩; have hn' : ndA A at_ = ⟨P1 ++ [p] ++ P2, K1 ++ l :: k :: K2⟩ := by rw [hn]; simp
 have k1 : kidA A at_ P1.length = l := by rw [← h1]; exact zeu hn'
 have k2 : kidA A at_ (P1.length + 1) = k := by rw [← h1]; exact zfz hn'
 obtain ⟨hla, hka, hlk⟩ := zla h hn
 have hkm : ∀ c, c = l ∨ c = k → c ∈ (ndA A at_).kids := by
  intro c hc; rw [hn]; rcases hc with rfl | rfl <;> simp
 obtain ⟨hl1, hl4, hl9, hlw⟩ := h.wf.2 l (hkm l (.inl rfl)); obtain ⟨hk1, hk4, hk9, hkw⟩ := h.wf.2 k (hkm k (.inr rfl)); have hal := h.lt
 have hj : lendL A at_ (P1.length + 1) = ((A.set k ⟨p :: (ndA A k).pairs, (ndA A l).kids.drop (ndA A l).pairs.length ++ (ndA A k).kids⟩).set at_ ⟨P1 ++ [x] ++ P2, K1 ++ [l, k] ++ K2⟩).set l ⟨(ndA A l).pairs.take ((ndA A l).pairs.length - 1), (ndA A l).kids.take (ndA A l).pairs.length⟩ := by
  unfold lendL; rw [Nat.add_sub_cancel, k1, k2, hn]
  congr 2
  · simp [List.getD]
  simp [List.getD, hx]
 have n1 : ndA (lendL A at_ (P1.length + 1)) at_ = ⟨P1 ++ [x] ++ P2, K1 ++ [l, k] ++ K2⟩ := by rw [hj, zai _ hla]; exact zaq _ (by simp; omega)
 have n2 : ndA (lendL A at_ (P1.length + 1)) k = ⟨p :: (ndA A k).pairs, (ndA A l).kids.drop (ndA A l).pairs.length ++ (ndA A k).kids⟩ := by
  rw [hj, zai _ hlk, zai _ hka.symm]; exact zaq _ hk1
 have n3 : ndA (lendL A at_ (P1.length + 1)) l = ⟨(ndA A l).pairs.take ((ndA A l).pairs.length - 1), (ndA A l).kids.take (ndA A l).pairs.length⟩ := by rw [hj]; exact zaq _ (by simp; omega)
 have n4 : ∀ j, j ≠ at_ → j ≠ l → j ≠ k → ndA (lendL A at_ (P1.length + 1)) j = ndA A j := by
  intro j a b c; rw [hj, zai _ (Ne.symm b), zai _ (Ne.symm a), zai _ (Ne.symm c)]
 have nl : (lendL A at_ (P1.length + 1)).length = A.length := by rw [hj]; simp
 generalize lendL A at_ (P1.length + 1) = A' at *; have hlw' : nWf A d ⟨(ndA A l).pairs, (ndA A l).kids⟩ := hlw; obtain ⟨w1, w2⟩ := zeq d _ _ ((ndA A l).pairs.length - 1) hlw' (by omega); have hpart := zdk d _ _ _ x hlw' hx; rw [show (ndA A l).pairs.length - 1 + 1 = (ndA A l).pairs.length by omega] at w1 w2 hpart; rw [List.drop_length] at w2 hpart; have htl : ntrav A d (ndA A l) = _ := hpart; have hS := Step.two (x := x) h hn h1 h2 nl n1 n3 n2 n4 w1 (znm d [] _ p _ _ w2 hkw) (by simp; omega) (by simp; omega) (by simp; omega) (by simp; omega) (fun j => ?c1) ?c2 ?c3
 case c1 =>
  have e1 : nidx A d ⟨p :: (ndA A k).pairs, (ndA A l).kids.drop (ndA A l).pairs.length ++ (ndA A k).kids⟩ = nidx A d ⟨[], (ndA A l).kids.drop (ndA A l).pairs.length⟩ ++ nidx A d (ndA A k) := zdb d _ _ _ _ _
  have e2 : nidx A d (ndA A l) = nidx A d ⟨(ndA A l).pairs.take ((ndA A l).pairs.length - 1), (ndA A l).kids.take (ndA A l).pairs.length⟩ ++ nidx A d ⟨[], (ndA A l).kids.drop (ndA A l).pairs.length⟩ := by
   rw [← zdb d _ _ (ndA A l).pairs, List.take_append_drop]
  rw [e1, e2, List.count_append, List.count_append]; omega
 case c2 =>
  have e1 : nidx A d ⟨p :: (ndA A k).pairs, (ndA A l).kids.drop (ndA A l).pairs.length ++ (ndA A k).kids⟩ = nidx A d ⟨[], (ndA A l).kids.drop (ndA A l).pairs.length⟩ ++ nidx A d (ndA A k) := zdb d _ _ _ _ _
  have e2 : nidx A d (ndA A l) = nidx A d ⟨(ndA A l).pairs.take ((ndA A l).pairs.length - 1), (ndA A l).kids.take (ndA A l).pairs.length⟩ ++ nidx A d ⟨[], (ndA A l).kids.drop (ndA A l).pairs.length⟩ := by
   rw [← zdb d _ _ (ndA A l).pairs, List.take_append_drop]
  rw [e1, e2, List.length_append, List.length_append]; omega
 case c3 =>
  have e1 : ntrav A d ⟨p :: (ndA A k).pairs, (ndA A l).kids.drop (ndA A l).pairs.length ++ (ndA A k).kids⟩ = ntrav A d ⟨[], (ndA A l).kids.drop (ndA A l).pairs.length⟩ ++ p :: ntrav A d (ndA A k) := zep d [] _ p _ _ w2; rw [e1, htl]; simp
 exact ⟨x, hx, hS.1, hS.2, n1, by rw [n2]; simp, nl, k1, k2⟩
theorem zvk {A : Arr} {fr : List Nat} {d at_ k r : Nat} {P1 P2 : Pairs} {K1 K2 : List Nat} {p : ByteArray × Int} (h : Pt A fr (d + 1) at_) (hn : ndA A at_ = ⟨P1 ++ [p] ++ P2, K1 ++ [k, r] ++ K2⟩) (h1 : K1.length = P1.length) (h2 : K2.length = P2.length)
 (h5 : 5 ≤ (ndA A r).pairs.length) (h8 : (ndA A k).pairs.length ≤ 8) : ∃ x, (ndA A r).pairs[0]? = some x ∧ Step A fr (lendR A at_ P1.length) fr (d + 1) at_ ∧ trav (lendR A at_ P1.length) (d + 1) at_ = trav A (d + 1) at_ ∧
   ndA (lendR A at_ P1.length) at_ = ⟨P1 ++ [x] ++ P2, K1 ++ [k, r] ++ K2⟩ ∧ (ndA (lendR A at_ P1.length) k).pairs.length = (ndA A k).pairs.length + 1 ∧ (lendR A at_ P1.length).length = A.length ∧
   kidA A at_ P1.length = k ∧ kidA A at_ (P1.length + 1) = r := by
 obtain ⟨x, hx⟩ : ∃ x, (ndA A r).pairs[0]? = some x := ⟨_, List.getElem?_eq_getElem (by omega)⟩; have hn' : ndA A at_ = ⟨P1 ++ [p] ++ P2, K1 ++ k :: r :: K2⟩ := by rw [hn]; simp
 have k1 : kidA A at_ P1.length = k := by rw [← h1]; exact zeu hn'
 have k2 : kidA A at_ (P1.length + 1) = r := by rw [← h1]; exact zfz hn'
 obtain ⟨hka, hra, hkr⟩ := zla h hn
 have hkm : ∀ c, c = k ∨ c = r → c ∈ (ndA A at_).kids := by
  intro c hc; rw [hn]; rcases hc with rfl | rfl <;> simp
 obtain ⟨hk1, hk4, hk9, hkw⟩ := h.wf.2 k (hkm k (.inl rfl)); obtain ⟨hr1, hr4, hr9, hrw⟩ := h.wf.2 r (hkm r (.inr rfl)); have hal := h.lt
 have hj : lendR A at_ P1.length = ((A.set k ⟨(ndA A k).pairs ++ [p], (ndA A k).kids ++ (ndA A r).kids.take 1⟩).set at_ ⟨P1 ++ [x] ++ P2, K1 ++ [k, r] ++ K2⟩).set r ⟨(ndA A r).pairs.drop 1, (ndA A r).kids.drop 1⟩ := by
  unfold lendR; rw [k1, k2, hn]
  congr 2
  · simp [List.getD]
  simp [List.getD, hx]
 have n1 : ndA (lendR A at_ P1.length) at_ = ⟨P1 ++ [x] ++ P2, K1 ++ [k, r] ++ K2⟩ := by rw [hj, zai _ hra]; exact zaq _ (by simp; omega)
 have n2 : ndA (lendR A at_ P1.length) k = ⟨(ndA A k).pairs ++ [p], (ndA A k).kids ++ (ndA A r).kids.take 1⟩ := by
  rw [hj, zai _ hkr.symm, zai _ hka.symm]; exact zaq _ hk1
 have n3 : ndA (lendR A at_ P1.length) r = ⟨(ndA A r).pairs.drop 1, (ndA A r).kids.drop 1⟩ := by rw [hj]; exact zaq _ (by simp; omega)
 have n4 : ∀ j, j ≠ at_ → j ≠ k → j ≠ r → ndA (lendR A at_ P1.length) j = ndA A j := by
  intro j a b c; rw [hj, zai _ (Ne.symm c), zai _ (Ne.symm a), zai _ (Ne.symm b)]
 have nl : (lendR A at_ P1.length).length = A.length := by rw [hj]; simp
 generalize lendR A at_ P1.length = A' at *; have hrw' : nWf A d ⟨(ndA A r).pairs, (ndA A r).kids⟩ := hrw; obtain ⟨w1, w2⟩ := zeq d _ _ 0 hrw' (by omega); have hpart := zdk d _ _ _ x hrw' hx; rw [Nat.zero_add] at w1 w2 hpart; rw [List.take_zero] at w1 hpart; have htr : ntrav A d (ndA A r) = _ := hpart; have e1 : nidx A d ⟨(ndA A k).pairs ++ [p], (ndA A k).kids ++ (ndA A r).kids.take 1⟩ = nidx A d (ndA A k) ++ nidx A d ⟨[], (ndA A r).kids.take 1⟩ := zdb d _ _ _ _ _
 have e2 : nidx A d (ndA A r) = nidx A d ⟨[], (ndA A r).kids.take 1⟩ ++ nidx A d ⟨(ndA A r).pairs.drop 1, (ndA A r).kids.drop 1⟩ := by
  rw [← zdb d _ _ (ndA A r).pairs, List.take_append_drop]
 have hS := Step.two (x := x) h hn h1 h2 nl n1 n2 n3 n4 (znm d _ _ p [] _ hkw w1) w2 (by simp; omega) (by simp; omega) (by simp; omega) (by simp; omega) (fun j => ?c1) ?c2 ?c3
 case c1 =>
  rw [e1, e2, List.count_append, List.count_append]; omega
 case c2 =>
  rw [e1, e2, List.length_append, List.length_append]; omega
 case c3 =>
  have e3 : ntrav A d ⟨(ndA A k).pairs ++ [p], (ndA A k).kids ++ (ndA A r).kids.take 1⟩ = ntrav A d (ndA A k) ++ p :: ntrav A d ⟨[], (ndA A r).kids.take 1⟩ := zep d _ _ p [] _ hkw; rw [e3, htr]; simp
 exact ⟨x, hx, hS.1, hS.2, n1, by rw [n2]; simp, nl, k1, k2⟩
def fillA (A : Arr) (fr : List Nat) (at_ i : Nat) : Arr × List Nat :=
 if 4 < (ndA A (kidA A at_ i)).pairs.length then (A, fr)
 else if 0 < i ∧ 4 < (ndA A (kidA A at_ (i - 1))).pairs.length then (lendL A at_ i, fr)
 else if i + 1 < (ndA A at_).kids.length then if 4 < (ndA A (kidA A at_ (i + 1))).pairs.length then (lendR A at_ i, fr) else (joinA A at_ i, fr ++ [kidA A at_ (i + 1)])
 else (joinA A at_ (i - 1), fr ++ [kidA A at_ i])
structure FillOk (A : Arr) (fr : List Nat) (d at_ : Nat) (key : ByteArray) (r : Arr × List Nat) : Prop where
 step : Step A fr r.1 r.2 (d + 1) at_
 trav : trav r.1 (d + 1) at_ = trav A (d + 1) at_
 lo : (ndA A at_).pairs.length ≤ (ndA r.1 at_).pairs.length + 1
 hi : (ndA r.1 at_).pairs.length ≤ (ndA A at_).pairs.length
 kid : ∃ k Q1 Q2 L1 L2, ndA r.1 at_ = ⟨Q1 ++ [] ++ Q2, L1 ++ [k] ++ L2⟩ ∧ L1.length = Q1.length ∧ L2.length = Q2.length ∧ (∀ p ∈ Q1, klt p.1 key = true) ∧ (∀ p ∈ Q2, klt key p.1 = true) ∧ 5 ≤ (ndA r.1 k).pairs.length
theorem zut {Q1 Q2 : Pairs} {key : ByteArray} (h1 : ∀ p ∈ Q1, klt p.1 key = true) (h2 : ∀ p ∈ Q2, klt key p.1 = true) : spotOf (Q1 ++ Q2) key = Q1.length ∧ hitOf (Q1 ++ Q2) key = false := by
 have hs : spotOf (Q1 ++ Q2) key = Q1.length := by
  unfold spotOf
  induction Q1 with
  | nil =>
    cases Q2 with
    | nil => rfl
    | cons q Q2 => simp [List.findIdx_cons, zcd (h2 q (by simp))]
  | cons q Q1 ih =>
    rw [List.cons_append, List.findIdx_cons, h1 q (by simp)]; simp [ih fun p hp => h1 p (by simp [hp])]
 refine ⟨hs, ?_⟩; unfold hitOf; rw [hs]; rw [List.getElem?_append_right (Nat.le_refl _), Nat.sub_self]
 cases Q2 with
 | nil => rfl
 | cons q Q2 =>
   have := klt_ne (h2 q (by simp)); rw [zbv] at this; exact this
theorem zcg {α : Type} {l : List α} (h : 0 < l.length) : ∃ (l' : List α) (x : α), l = l' ++ [x] := by
 have hne : l ≠ [] := by rintro rfl; simp at h
 exact ⟨l.dropLast, l.getLast hne, (List.dropLast_concat_getLast hne).symm⟩
theorem zxa {A : Arr} {fr : List Nat} {d at_ k : Nat} {P1 P2 : Pairs} {K1 K2 : List Nat} {key : ByteArray} (h : Pt A fr (d + 1) at_) (hs : Sorted (trav A (d + 1) at_)) (hn : ndA A at_ = ⟨P1 ++ [] ++ P2, K1 ++ [k] ++ K2⟩) (h1 : K1.length = P1.length) (h2 : K2.length = P2.length)
 (hb : ∀ p ∈ P1, klt p.1 key = true) (ha : ∀ p ∈ P2, klt key p.1 = true) (hpos : 1 ≤ (ndA A at_).pairs.length) : FillOk A fr d at_ key (fillA A fr at_ P1.length) := by
 have hn0 : ndA A at_ = ⟨P1 ++ P2, K1 ++ k :: K2⟩ := by rw [hn]; simp
 have hk0 : kidA A at_ P1.length = k := by rw [← h1]; exact zeu hn0
 have hkm : k ∈ (ndA A at_).kids := by rw [hn]; simp
 obtain ⟨hk1, hk4, hk9, hkw⟩ := h.wf.2 k hkm; by_cases c1 : 4 < (ndA A k).pairs.length
 · have e : fillA A fr at_ P1.length = (A, fr) := by unfold fillA; rw [hk0, if_pos c1]
   rw [e]; exact ⟨Step.refl h, rfl, by dsimp only; omega, Nat.le_refl _, k, P1, P2, K1, K2, hn, h1, h2, hb, ha, by dsimp only; omega⟩
 have hk4' : (ndA A k).pairs.length = 4 := by omega
 by_cases c2 : 0 < P1.length ∧ 4 < (ndA A (kidA A at_ (P1.length - 1))).pairs.length
 · obtain ⟨c2a, c2b⟩ := c2
   have e : fillA A fr at_ P1.length = (lendL A at_ P1.length, fr) := (by unfold fillA; rw [hk0, if_neg c1, if_pos ⟨c2a, c2b⟩]); obtain ⟨P1', p, rfl⟩ := zcg c2a; obtain ⟨K1', l, rfl⟩ := zcg (l := K1) (by simp at h1; omega); have hn2 : ndA A at_ = ⟨P1' ++ [p] ++ P2, K1' ++ [l, k] ++ K2⟩ := (by rw [hn]; simp); have h1' : K1'.length = P1'.length := (by simpa using h1); have hl0 : kidA A at_ P1'.length = l := (by rw [← h1']; exact zeu (P := P1' ++ [p] ++ P2) (K2 := k :: K2) (by rw [hn2]; simp)); have hlen : (P1' ++ [p]).length = P1'.length + 1 := (by simp); rw [hlen, Nat.add_sub_cancel, hl0] at c2b; obtain ⟨x, hx, q1, q2, q3, q4, _⟩ := zvl h hn2 h1' h2 (by omega) (by omega); rw [e, hlen]
   have hxp : klt x.1 p.1 = true := by
    have ht := zba (d := d) hn2 h1' h2 rfl; rw [ht] at hs; have hs2 := hs.left.right; simp only [weave] at hs2; have hlm : l ∈ (ndA A at_).kids := (by rw [hn2]; simp); have hxm : x ∈ trav A d l := (zfy d _ (h.wf.2 l hlm).2.2.2).subset (List.mem_of_getElem? hx); exact hs2.cross x hxm p (by simp)
   refine ⟨q1, q2, by rw [q3, hn2]; simp, by rw [q3, hn2]; simp, k, P1' ++ [x], P2, K1' ++ [l], K2, by rw [q3]; simp, by simpa using h1', h2, fun y hy => ?_, ha, by rw [q4]; omega⟩; rcases List.mem_append.1 hy with hy | hy
   · exact hb y (by simp [hy])
   obtain rfl : y = x := by simpa using hy
   exact zbu hxp (hb p (by simp))
 have hkl : (ndA A at_).kids.length = P1.length + 1 + P2.length := by rw [hn]; simp; omega
 by_cases c3 : P1.length + 1 < (ndA A at_).kids.length
 · obtain ⟨p, P2', rfl⟩ : ∃ p P2', P2 = p :: P2' := by
    cases P2 with
    | nil => simp at hkl; omega
    | cons p P2 => exact ⟨p, P2, rfl⟩
   obtain ⟨r, K2', rfl⟩ : ∃ r K2', K2 = r :: K2' := by
    cases K2 with
    | nil => simp at h2
    | cons r K2 => exact ⟨r, K2, rfl⟩
   have h2' : K2'.length = P2'.length := (by simpa using h2); have hn2 : ndA A at_ = ⟨P1 ++ [p] ++ P2', K1 ++ [k, r] ++ K2'⟩ := (by rw [hn]; simp); have hr0 : kidA A at_ (P1.length + 1) = r := (by rw [← h1]; exact zfz (P := P1 ++ [p] ++ P2') (K2 := K2') (k := k) (by rw [hn2]; simp)); have hrm : r ∈ (ndA A at_).kids := (by rw [hn2]; simp); obtain ⟨hr1, hr4, hr9, hrw⟩ := h.wf.2 r hrm; by_cases c4 : 4 < (ndA A r).pairs.length
   · have e : fillA A fr at_ P1.length = (lendR A at_ P1.length, fr) := by unfold fillA; rw [hk0, hr0, if_neg c1, if_neg c2, if_pos c3, if_pos c4]
     obtain ⟨x, hx, q1, q2, q3, q4, _⟩ := zvk h hn2 h1 h2' (by omega) (by omega); rw [e]
     have hpx : klt p.1 x.1 = true := by
      have ht := zba (d := d) hn2 h1 h2' rfl; rw [ht] at hs; have hs2 := hs.left.right; simp only [weave] at hs2; have hxm : x ∈ trav A d r := (zfy d _ hrw).subset (List.mem_of_getElem? hx); exact (List.pairwise_cons.1 hs2.right).1 x hxm
     refine ⟨q1, q2, by rw [q3, hn2]; simp, by rw [q3, hn2]; simp, k, P1, x :: P2', K1, r :: K2', by rw [q3]; simp, h1, by simpa using h2', hb, fun y hy => ?_, by rw [q4]; omega⟩; rcases List.mem_cons.1 hy with rfl | hy
     · exact zbu (ha p (by simp)) hpx
     exact ha y (by simp [hy])
   have e : fillA A fr at_ P1.length = (joinA A at_ P1.length, fr ++ [r]) := by unfold fillA; rw [hk0, hr0, if_neg c1, if_neg c2, if_pos c3, if_neg c4]
   obtain ⟨q1, q2, q3, q4, _⟩ := zns h hn2 h1 h2' (by omega); rw [e]; exact ⟨q1, q2, by rw [q3, hn2]; simp; omega, by rw [q3, hn2]; simp, k, P1, P2', K1, K2', q3, h1, h2', hb, fun y hy => ha y (by simp [hy]), by rw [q4]; simp; omega⟩
 obtain rfl : P2 = [] := List.eq_nil_of_length_eq_zero (by omega)
 obtain rfl : K2 = [] := List.eq_nil_of_length_eq_zero (by simpa using h2); have hP1 : 0 < P1.length := (by rw [hn] at hpos; simp at hpos; omega); have e : fillA A fr at_ P1.length = (joinA A at_ (P1.length - 1), fr ++ [k]) := (by unfold fillA; rw [hk0, if_neg c1, if_neg c2, if_neg c3]); obtain ⟨P1', p, rfl⟩ := zcg hP1; obtain ⟨K1', l, rfl⟩ := zcg (l := K1) (by simp at h1; omega); have hn2 : ndA A at_ = ⟨P1' ++ [p] ++ [], K1' ++ [l, k] ++ []⟩ := (by rw [hn]; simp); have h1' : K1'.length = P1'.length := (by simpa using h1); have hl0 : kidA A at_ P1'.length = l := (by rw [← h1']; exact zeu (P := P1' ++ [p] ++ []) (K2 := [k]) (by rw [hn2]; simp)); have hlen : (P1' ++ [p]).length = P1'.length + 1 := (by simp); rw [hlen, Nat.add_sub_cancel, hl0] at c2; have hlm : l ∈ (ndA A at_).kids := (by rw [hn2]; simp); obtain ⟨hl1, hl4, hl9, hlw⟩ := h.wf.2 l hlm
 obtain ⟨q1, q2, q3, q4, _⟩ := zns h hn2 h1' rfl (by omega); rw [e, hlen, Nat.add_sub_cancel]; exact ⟨q1, q2, by rw [q3, hn2]; simp, by rw [q3, hn2]; simp, l, P1', [], K1', [], q3, h1', rfl, fun y hy => hb y (by simp [hy]), by simp, by rw [q4]; simp; omega⟩
end Go.Proofs.YthljnnjpmdgkoaaGreat
