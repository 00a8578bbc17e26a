/- The package index in plain terms: the first and the last pair, Delete below a node. No program is run. -/
import Derived.Test.YthljnnjpmdgkoaaGreatG26
namespace Go.Proofs.YthljnnjpmdgkoaaGreat
open Go Go.RowKit
def lastOf {α : Type} (l : List α) (x : α) : α := l.getD (l.length - 1) x
def endA : Nat → Arr → Nat → Bool → ByteArray × Int
 | 0, _, _, _ => default
 | g + 1, A, at_, last =>
   if (ndA A at_).kids = [] then (if last then lastOf (ndA A at_).pairs default else (ndA A at_).pairs.getD 0 default)
   else endA g A (if last then lastOf (ndA A at_).kids 0 else (ndA A at_).kids.getD 0 0) last
def zea : Nat → Arr → Nat → Bool → Prop
 | 0, _, _, _ => False
 | g + 1, A, at_, last => at_ < A.length ∧ 1 ≤ (ndA A at_).pairs.length ∧ (ndA A at_).pairs.length ≤ 9 ∧ (ndA A at_).kids.length ≤ 10 ∧
   ((ndA A at_).kids ≠ [] → zea g A (if last then lastOf (ndA A at_).kids 0 else (ndA A at_).kids.getD 0 0) last)
theorem zhv {α : Type} (l : List α) (x y : α) : lastOf (l ++ [x]) y = x := by unfold lastOf; simp [List.getD]
theorem zpw {A : Arr} : ∀ (d g at_ : Nat), d + 1 ≤ g → at_ < A.length → nWf A d (ndA A at_) → 1 ≤ (ndA A at_).pairs.length → (ndA A at_).pairs.length ≤ 9 → (∃ I, trav A d at_ = I ++ [endA g A at_ true]) ∧ zea g A at_ true
 | d, 0, _, h, _, _, _, _ => by omega
 | 0, g + 1, at_, _, hl, hw, h1, h9 => by
   have hk : (ndA A at_).kids = [] := hw; refine ⟨?_, hl, h1, h9, by rw [hk]; simp, fun e => absurd hk e⟩; obtain ⟨I, x, hI⟩ := zcg h1; refine ⟨I, ?_⟩
   show (ndA A at_).pairs = _
   unfold endA; rw [if_pos hk, if_pos rfl, hI, zhv]
 | d + 1, g + 1, at_, hg, hl, hw, h1, h9 => by
   have hlen : (ndA A at_).kids.length = (ndA A at_).pairs.length + 1 := hw.1; have hne : (ndA A at_).kids ≠ [] := fun e => by rw [e] at hlen; simp at hlen
   obtain ⟨K, k, hK⟩ := zcg (l := (ndA A at_).kids) (by omega); have hkm : k ∈ (ndA A at_).kids := (by rw [hK]; simp); obtain ⟨a1, a2, a3, a4⟩ := hw.2 k hkm; have hlast : lastOf (ndA A at_).kids 0 = k := (by rw [hK, zhv]); obtain ⟨⟨I, hI⟩, hsafe⟩ := zpw d g k (by omega) a1 a4 (by omega) a3; refine ⟨?_, hl, h1, h9, by omega, fun _ => by rw [if_pos rfl, hlast]; exact hsafe⟩; have hn : ndA A at_ = ⟨(ndA A at_).pairs ++ [] ++ [], K ++ [k] ++ []⟩ := (by rw [List.append_nil, List.append_nil, List.append_nil, ← hK]); rw [hK] at hlen; have ht := zba (d := d) hn (by simpa using hlen) rfl rfl; refine ⟨lw (trav A d) K (ndA A at_).pairs ++ I, ?_⟩; rw [ht]; unfold endA; rw [if_neg hne, if_pos rfl, hlast]; simp [weave, rwv, hI]
theorem zmm {A : Arr} : ∀ (d g at_ : Nat), d + 1 ≤ g → at_ < A.length → nWf A d (ndA A at_) → 1 ≤ (ndA A at_).pairs.length → (ndA A at_).pairs.length ≤ 9 → (∃ I, trav A d at_ = endA g A at_ false :: I) ∧ zea g A at_ false
 | d, 0, _, h, _, _, _, _ => by omega
 | 0, g + 1, at_, _, hl, hw, h1, h9 => by
   have hk : (ndA A at_).kids = [] := hw; refine ⟨?_, hl, h1, h9, by rw [hk]; simp, fun e => absurd hk e⟩
   cases hp : (ndA A at_).pairs with
   | nil => rw [hp] at h1; simp at h1
   | cons x I =>
     refine ⟨I, ?_⟩
     show (ndA A at_).pairs = _
     unfold endA; rw [if_pos hk, if_neg (by decide), hp]
     rfl
 | d + 1, g + 1, at_, hg, hl, hw, h1, h9 => by
   have hlen : (ndA A at_).kids.length = (ndA A at_).pairs.length + 1 := hw.1; have hne : (ndA A at_).kids ≠ [] := fun e => by rw [e] at hlen; simp at hlen
   obtain ⟨k, K, hK⟩ : ∃ k K, (ndA A at_).kids = k :: K := by
    cases hk : (ndA A at_).kids with
    | nil => exact absurd hk hne
    | cons k K => exact ⟨k, K, rfl⟩
   have hkm : k ∈ (ndA A at_).kids := (by rw [hK]; simp); obtain ⟨a1, a2, a3, a4⟩ := hw.2 k hkm; have hfirst : (ndA A at_).kids.getD 0 0 = k := (by rw [hK]; rfl); obtain ⟨⟨I, hI⟩, hsafe⟩ := zmm d g k (by omega) a1 a4 (by omega) a3; refine ⟨?_, hl, h1, h9, by omega, fun _ => by rw [if_neg (by decide), hfirst]; exact hsafe⟩; have hn : ndA A at_ = ⟨[] ++ [] ++ (ndA A at_).pairs, [] ++ [k] ++ K⟩ := (by rw [List.append_nil, List.nil_append, List.nil_append, List.singleton_append, ← hK]); rw [hK] at hlen; have ht := zba (d := d) hn rfl (by simpa using hlen) rfl; refine ⟨I ++ rwv (trav A d) (ndA A at_).pairs K, ?_⟩; rw [ht]; unfold endA; rw [if_neg hne, if_neg (by decide), hfirst]; simp [weave, lw, hI]
def delA : Nat → Arr → List Nat → Nat → ByteArray → Arr × List Nat
 | 0, A, fr, _, _ => (A, fr)
 | g + 1, A, fr, at_, key =>
   if (ndA A at_).kids = [] then (A.set at_ ⟨(ndA A at_).pairs.take (spotOf (ndA A at_).pairs key) ++ (ndA A at_).pairs.drop (spotOf (ndA A at_).pairs key + 1), []⟩, fr)
   else if hitOf (ndA A at_).pairs key = false then
    delA g (fillA A fr at_ (spotOf (ndA A at_).pairs key)).1 (fillA A fr at_ (spotOf (ndA A at_).pairs key)).2
     (kidA (fillA A fr at_ (spotOf (ndA A at_).pairs key)).1 at_ (spotOf (ndA (fillA A fr at_ (spotOf (ndA A at_).pairs key)).1 at_).pairs key)) key
   else if 4 < (ndA A (kidA A at_ (spotOf (ndA A at_).pairs key))).pairs.length then
    delA g (A.set at_ ⟨(ndA A at_).pairs.set (spotOf (ndA A at_).pairs key) (endA g A (kidA A at_ (spotOf (ndA A at_).pairs key)) true), (ndA A at_).kids⟩) fr (kidA A at_ (spotOf (ndA A at_).pairs key)) (endA g A (kidA A at_ (spotOf (ndA A at_).pairs key)) true).1
   else if 4 < (ndA A (kidA A at_ (spotOf (ndA A at_).pairs key + 1))).pairs.length then
    delA g (A.set at_ ⟨(ndA A at_).pairs.set (spotOf (ndA A at_).pairs key) (endA g A (kidA A at_ (spotOf (ndA A at_).pairs key + 1)) false), (ndA A at_).kids⟩) fr (kidA A at_ (spotOf (ndA A at_).pairs key + 1)) (endA g A (kidA A at_ (spotOf (ndA A at_).pairs key + 1)) false).1
   else delA g (joinA A at_ (spotOf (ndA A at_).pairs key)) (fr ++ [kidA A at_ (spotOf (ndA A at_).pairs key + 1)]) (kidA A at_ (spotOf (ndA A at_).pairs key)) key
def zec : Nat → Arr → List Nat → Nat → ByteArray → Prop
 | 0, _, _, _, _ => False
 | g + 1, A, fr, at_, key =>
   at_ < A.length ∧ (ndA A at_).pairs.length ≤ 9 ∧
   ((ndA A at_).kids = [] → spotOf (ndA A at_).pairs key < (ndA A at_).pairs.length) ∧
   ((ndA A at_).kids ≠ [] → zbl A fr at_ ∧ 1 ≤ (ndA A at_).pairs.length ∧
     (hitOf (ndA A at_).pairs key = false →
       zbl (fillA A fr at_ (spotOf (ndA A at_).pairs key)).1 (fillA A fr at_ (spotOf (ndA A at_).pairs key)).2 at_ ∧
       hitOf (ndA (fillA A fr at_ (spotOf (ndA A at_).pairs key)).1 at_).pairs key = false ∧
       zec g (fillA A fr at_ (spotOf (ndA A at_).pairs key)).1 (fillA A fr at_ (spotOf (ndA A at_).pairs key)).2
        (kidA (fillA A fr at_ (spotOf (ndA A at_).pairs key)).1 at_ (spotOf (ndA (fillA A fr at_ (spotOf (ndA A at_).pairs key)).1 at_).pairs key)) key) ∧
     (hitOf (ndA A at_).pairs key = true → 4 < (ndA A (kidA A at_ (spotOf (ndA A at_).pairs key))).pairs.length →
       zea g A (kidA A at_ (spotOf (ndA A at_).pairs key)) true ∧
       zec g (A.set at_ ⟨(ndA A at_).pairs.set (spotOf (ndA A at_).pairs key) (endA g A (kidA A at_ (spotOf (ndA A at_).pairs key)) true), (ndA A at_).kids⟩) fr (kidA A at_ (spotOf (ndA A at_).pairs key)) (endA g A (kidA A at_ (spotOf (ndA A at_).pairs key)) true).1) ∧
     (hitOf (ndA A at_).pairs key = true → ¬ 4 < (ndA A (kidA A at_ (spotOf (ndA A at_).pairs key))).pairs.length → 4 < (ndA A (kidA A at_ (spotOf (ndA A at_).pairs key + 1))).pairs.length →
       zea g A (kidA A at_ (spotOf (ndA A at_).pairs key + 1)) false ∧
       zec g (A.set at_ ⟨(ndA A at_).pairs.set (spotOf (ndA A at_).pairs key) (endA g A (kidA A at_ (spotOf (ndA A at_).pairs key + 1)) false), (ndA A at_).kids⟩) fr (kidA A at_ (spotOf (ndA A at_).pairs key + 1)) (endA g A (kidA A at_ (spotOf (ndA A at_).pairs key + 1)) false).1) ∧
     (hitOf (ndA A at_).pairs key = true → ¬ 4 < (ndA A (kidA A at_ (spotOf (ndA A at_).pairs key))).pairs.length → ¬ 4 < (ndA A (kidA A at_ (spotOf (ndA A at_).pairs key + 1))).pairs.length →
       zec g (joinA A at_ (spotOf (ndA A at_).pairs key)) (fr ++ [kidA A at_ (spotOf (ndA A at_).pairs key + 1)]) (kidA A at_ (spotOf (ndA A at_).pairs key)) key))
structure DelOk (g : Nat) (A : Arr) (fr : List Nat) (d at_ : Nat) (key : ByteArray) : Prop where
 step : Step A fr (delA g A fr at_ key).1 (delA g A fr at_ key).2 d at_
 trav : trav (delA g A fr at_ key).1 d at_ = delT (trav A d at_) key
 lo : (ndA A at_).pairs.length ≤ (ndA (delA g A fr at_ key).1 at_).pairs.length + 1
 hi : (ndA (delA g A fr at_ key).1 at_).pairs.length ≤ 9
 safe : zec g A fr at_ key
theorem zpz (key : ByteArray) (L M R : Pairs) (hL : ∀ q ∈ L, klt q.1 key = true) (hR : ∀ q ∈ R, klt key q.1 = true) : delT (L ++ M ++ R) key = L ++ delT M key ++ R := by
 unfold delT; have h1 : L.filter (fun p => !keq p.1 key) = L := List.filter_eq_self.2 fun q hq => by rw [klt_ne (hL q hq)]; rfl
 have h2 : R.filter (fun p => !keq p.1 key) = R := List.filter_eq_self.2 fun q hq => by rw [zbv, klt_ne (hR q hq)]; rfl
 rw [List.filter_append, List.filter_append, h1, h2]
theorem zfd (key : ByteArray) (m : Int) (L R : Pairs) (hL : ∀ q ∈ L, klt q.1 key = true) (hR : ∀ q ∈ R, klt key q.1 = true) : delT (L ++ (key, m) :: R) key = L ++ R := by
 have := zpz key L [(key, m)] R hL hR; rw [List.append_assoc, List.singleton_append] at this; rw [this]; simp [delT, zar.2 rfl]
theorem zji {T : Pairs} (hT : Sorted T) {key : ByteArray} (h : (getT T key).2 = true) : hitOf T key = true := by
 rw [zkh T hT] at h
 cases hh : hitOf T key with
 | true => rfl
 | false => rw [hh] at h; simp at h
theorem zdv {A : Arr} {d at_ k : Nat} {P : Pairs} {K1 K2 : List Nat} (hn : ndA A at_ = ⟨P, K1 ++ [k] ++ K2⟩) : (own A d k).length < (own A (d + 1) at_).length := by
 rw [zbr hn]; simp; omega
theorem ztk (f : Nat → Pairs) : ∀ (K : List Nat) (P : Pairs) (l : Nat) (x : ByteArray × Int), K.length = P.length → lw f (K ++ [l]) (P ++ [x]) = lw f K P ++ f l ++ [x]
 | [], [], l, x, _ => by simp [lw]
 | [], _ :: _, _, _, h => by simp at h
 | _ :: _, [], _, _, h => by simp at h
 | k :: K, p :: P, l, x, h => by simp [lw, ztk f K P l x (by simpa using h)]
theorem zii : ∀ (d g : Nat) (A : Arr) (fr : List Nat) (at_ : Nat) (key : ByteArray), d + 1 ≤ g → Pt A fr d at_ → Sorted (trav A d at_) → (getT (trav A d at_) key).2 = true → (d = 0 ∨ 1 ≤ (ndA A at_).pairs.length) → (ndA A at_).pairs.length ≤ 9 →
 (own A d at_).length + fr.length ≤ A.length → DelOk g A fr d at_ key
 | d, 0, _, _, _, _, h, _, _, _, _, _, _ => by omega
 | 0, g + 1, A, fr, at_, key, _, h, hs, hget, _, h9, hc => by
   have hk : (ndA A at_).kids = [] := h.wf; have hs' : Sorted (ndA A at_).pairs := hs; have hhit : hitOf (ndA A at_).pairs key = true := zji hs' hget; obtain ⟨m, hm⟩ := hit_at hhit; have hil := (List.getElem?_eq_some_iff.1 hm).1; have hset : delA (g + 1) A fr at_ key = (A.set at_ ⟨(ndA A at_).pairs.take (spotOf (ndA A at_).pairs key) ++ (ndA A at_).pairs.drop (spotOf (ndA A at_).pairs key + 1), (ndA A at_).kids⟩, fr) := (by simp [delA, hk]); obtain ⟨hst, htr⟩ := zdh h ((ndA A at_).pairs.take (spotOf (ndA A at_).pairs key) ++ (ndA A at_).pairs.drop (spotOf (ndA A at_).pairs key + 1)) (.inl rfl); refine ⟨by rw [hset]; exact hst, ?_, ?_, ?_, h.lt, h9, fun _ => hil, fun e => absurd hk e⟩
   · rw [hset]
     dsimp only; rw [htr]
     show (ndA A at_).pairs.take _ ++ (ndA A at_).pairs.drop _ = delT (ndA A at_).pairs key
     have e : (ndA A at_).pairs = (ndA A at_).pairs.take (spotOf (ndA A at_).pairs key) ++ (key, m) :: (ndA A at_).pairs.drop (spotOf (ndA A at_).pairs key + 1) := by
      have := List.take_append_drop (spotOf (ndA A at_).pairs key) (ndA A at_).pairs; rw [List.drop_eq_getElem_cons hil, (List.getElem?_eq_some_iff.1 hm).2] at this; exact this.symm
     have hb := zds (T := (ndA A at_).pairs) (key := key); generalize spotOf (ndA A at_).pairs key = i at *; have hs2 : Sorted ((ndA A at_).pairs.take i ++ (key, m) :: (ndA A at_).pairs.drop (i + 1)) := (by rw [← e]; exact hs')
     conv => rhs; rw [e]
     rw [zfd key m _ _ hb fun q hq => (List.pairwise_cons.1 hs2.right).1 q hq]
   · rw [hset]; dsimp only; rw [zaq _ h.lt]; simp; omega
   rw [hset]; dsimp only; rw [zaq _ h.lt]; simp; omega
 | d + 1, g + 1, A, fr, at_, key, hg, h, hs, hget, h01, h9, hc => by
   have hpos : 1 ≤ (ndA A at_).pairs.length := (by rcases h01 with e | e <;> omega); have hl : (ndA A at_).kids.length = (ndA A at_).pairs.length + 1 := h.wf.1; have hne : (ndA A at_).kids ≠ [] := fun e => by rw [e] at hl; simp at hl
   have hsafe := h.safe h9 hc
   cases hh : hitOf (ndA A at_).pairs key with
   | false =>
     obtain ⟨k, K1, K2, P1, P2, hn, h1, h2, hsp, hkk, hki, hb, ha⟩ := down h.wf hs hh; have hF := zxa h hs hn h1 h2 hb ha hpos; rw [hsp] at hF
     have hset : delA (g + 1) A fr at_ key = delA g (fillA A fr at_ (spotOf (ndA A at_).pairs key)).1 (fillA A fr at_ (spotOf (ndA A at_).pairs key)).2
      (kidA (fillA A fr at_ (spotOf (ndA A at_).pairs key)).1 at_ (spotOf (ndA (fillA A fr at_ (spotOf (ndA A at_).pairs key)).1 at_).pairs key)) key := by
      show delA (g + 1) A fr at_ key = _
      rw [delA, if_neg hne, if_pos hh]
     have hcov := hF.step.cover; generalize hr : fillA A fr at_ (spotOf (ndA A at_).pairs key) = r at *; obtain ⟨A1, fr1⟩ := r; dsimp only at *; obtain ⟨k', Q1, Q2, L1, L2, hn', g1, g2, hb', ha', h5⟩ := hF.kid; dsimp only at hn' h5; have hS1 := hF.step; have hT1 := hF.trav; have hlo1 := hF.lo; have hhi1 := hF.hi; dsimp only at hS1 hT1 hlo1 hhi1; obtain ⟨e1, e2⟩ := zut hb' ha'; have hp' : (ndA A1 at_).pairs = Q1 ++ Q2 := (by rw [hn']; simp)
     have hkid' : kidA A1 at_ (spotOf (ndA A1 at_).pairs key) = k' := by
      rw [hp', e1, ← g1]; exact zeu (P := Q1 ++ [] ++ Q2) (K2 := L2) (by rw [hn']; simp)
     have hs1 : Sorted (trav A1 (d + 1) at_) := (by rw [hT1]; exact hs); obtain ⟨ht, hsk, hlb, hra⟩ := zfo hn' g1 g2 hs1 hb' ha'; have hkm : k' ∈ (ndA A1 at_).kids := (by rw [hn']; simp); obtain ⟨hk1, hk4, hk9, hkw⟩ := hS1.pt.wf.2 k' hkm; have hown : (own A1 d k').length < (own A1 (d + 1) at_).length := zdv hn'; have hD := zii d g A1 fr1 k' key (by omega) (hS1.pt.kid hkm) hsk (by rw [← hT1, ht, zkg key _ _ _ hlb hra] at hget; exact hget) (.inr (by omega)) hk9 (by omega); obtain ⟨s1, s2, s3⟩ := Step.kid hS1.pt hn' g1 g2 hD.step (by have := hD.lo; omega) hD.hi; refine ⟨by rw [hset, hkid']; exact hS1.trans s1, ?_, ?_, ?_, h.lt, h9, fun e => absurd e hne, fun _ => ⟨hsafe, hpos, fun _ => ?_, fun e => ?_, fun e => ?_, fun e => ?_⟩⟩
     · rw [hset, hkid', s3, hD.trav, ← hT1, ht, zpz key _ _ _ hlb hra]
     · rw [hset, hkid', s2]; exact hlo1
     · rw [hset, hkid', s2]; omega
     · rw [hr]
       dsimp only; refine ⟨hS1.pt.safe (by omega) (by omega), by rw [hp']; exact e2, by rw [hkid']; exact hD.safe⟩
     all_goals rw [hh] at e; cases e
   | true =>
     obtain ⟨m, hm⟩ := hit_at hh; have hil := (List.getElem?_eq_some_iff.1 hm).1
     -- the node parted at the key
     obtain ⟨P1, P2, K1, K2, l, r, hn, h1, h2, hi⟩ : ∃ P1 P2 K1 K2 l r, ndA A at_ = ⟨P1 ++ [(key, m)] ++ P2, K1 ++ [l, r] ++ K2⟩ ∧ K1.length = P1.length ∧ K2.length = P2.length ∧ spotOf (ndA A at_).pairs key = P1.length := by
      generalize hnd : ndA A at_ = nd at *; obtain ⟨P, K⟩ := nd; dsimp only at *; generalize spotOf P key = i at *; refine ⟨P.take i, P.drop (i + 1), K.take i, K.drop (i + 2), K[i], K[i + 1], ?_, by simp; omega, by simp; omega, by simp; omega⟩
      have e1 : P.take i ++ [(key, m)] ++ P.drop (i + 1) = P := by
       have := List.take_append_drop i P; rw [List.drop_eq_getElem_cons hil, (List.getElem?_eq_some_iff.1 hm).2] at this; simpa using this
      have e2 : K.take i ++ [K[i], K[i + 1]] ++ K.drop (i + 2) = K := by
       have := List.take_append_drop i K; rw [List.drop_eq_getElem_cons (by omega), List.drop_eq_getElem_cons (by omega)] at this; simp
      rw [e1, e2]
     have hl0 : kidA A at_ (spotOf (ndA A at_).pairs key) = l := (by rw [hi, ← h1]; exact zeu (P := P1 ++ [(key, m)] ++ P2) (K2 := r :: K2) (by rw [hn]; simp)); have hr0 : kidA A at_ (spotOf (ndA A at_).pairs key + 1) = r := (by rw [hi, ← h1]; exact zfz (P := P1 ++ [(key, m)] ++ P2) (K2 := K2) (k := l) (by rw [hn]; simp)); have hlm : l ∈ (ndA A at_).kids := (by rw [hn]; simp); have hrm : r ∈ (ndA A at_).kids := (by rw [hn]; simp); obtain ⟨hl1, hl4, hl9, hlw⟩ := h.wf.2 l hlm; obtain ⟨hr1, hr4, hr9, hrw⟩ := h.wf.2 r hrm; have ht := zba (d := d) hn h1 h2 rfl; have ht2 : trav A (d + 1) at_ = (lw (trav A d) K1 P1 ++ trav A d l) ++ (key, m) :: (trav A d r ++ rwv (trav A d) P2 K2) := (by rw [ht]; simp [weave]); have hs2 := hs; rw [ht2] at hs2; have hbef : ∀ q ∈ lw (trav A d) K1 P1 ++ trav A d l, klt q.1 key = true := fun q hq => hs2.cross q hq (key, m) (by simp)
     have hbeh : ∀ q ∈ trav A d r ++ rwv (trav A d) P2 K2, klt key q.1 = true := fun q hq => (List.pairwise_cons.1 hs2.right).1 q hq; have hdel : delT (trav A (d + 1) at_) key = (lw (trav A d) K1 P1 ++ trav A d l) ++ (trav A d r ++ rwv (trav A d) P2 K2) := (by rw [ht2, zfd key m _ _ hbef hbeh]); have hsl : Sorted (trav A d l) := hs2.left.right; have hsr : Sorted (trav A d r) := (hs2.right.sub (List.sublist_cons_self _ _)).left; have hnl : ndA A at_ = ⟨P1 ++ [] ++ ((key, m) :: P2), K1 ++ [l] ++ (r :: K2)⟩ := (by rw [hn]; simp); have hnr : ndA A at_ = ⟨(P1 ++ [(key, m)]) ++ [] ++ P2, (K1 ++ [l]) ++ [r] ++ K2⟩ := (by rw [hn]; simp); have hset0 : ∀ x, (ndA A at_).pairs.set (spotOf (ndA A at_).pairs key) x = P1 ++ [x] ++ P2 := (by intro x; rw [hi, hn]; simp); have hkset : (ndA A at_).kids = K1 ++ [l, r] ++ K2 := (by rw [hn]); by_cases c1 : 4 < (ndA A l).pairs.length
     · obtain ⟨⟨I, hI⟩, hes⟩ := zpw d g l (by omega) hl1 hlw (by omega) hl9
       have hset : delA (g + 1) A fr at_ key = delA g (A.set at_ ⟨P1 ++ [endA g A l true] ++ P2, (ndA A at_).kids⟩) fr l (endA g A l true).1 := by
        rw [delA, if_neg hne, if_neg (by rw [hh]; simp), hl0, if_pos c1, hset0]
       obtain ⟨hst, htr⟩ := zdh h (P1 ++ [endA g A l true] ++ P2) (.inr (by rw [hn]; simp)); have hn1 : ndA (A.set at_ ⟨P1 ++ [endA g A l true] ++ P2, (ndA A at_).kids⟩) at_ = ⟨P1 ++ [endA g A l true] ++ P2, (ndA A at_).kids⟩ := zaq _ h.lt; have hother : ∀ c, c ∈ (ndA A at_).kids → ndA (A.set at_ ⟨P1 ++ [endA g A l true] ++ P2, (ndA A at_).kids⟩) c = ndA A c := fun c hc => zai _ (hsafe.kid c hc).2.1.symm
       have hag : ∀ c, c ∈ (ndA A at_).kids → trav (A.set at_ ⟨P1 ++ [endA g A l true] ++ P2, (ndA A at_).kids⟩) d c = trav A d c := by
        intro c hc; refine (zdj (by simp) fun j hj => zai _ fun e => ?_).2.2.1; have h3 := h.one at_; have h4 : 0 < (nidx A (d + 1) (ndA A at_)).count at_ := List.count_pos_iff.2 (List.mem_flatMap.2 ⟨c, hc, by rw [e]; exact hj⟩); unfold own at h3; simp only [List.count_cons, beq_self_eq_true, if_true] at h3; omega
       have hcov := hst.cover; generalize hxe : endA g A l true = x at *; generalize hA1 : A.set at_ ⟨P1 ++ [x] ++ P2, (ndA A at_).kids⟩ = A1 at *; rw [hkset] at hn1; have hn2 : ndA A1 at_ = ⟨P1 ++ [] ++ (x :: P2), K1 ++ [l] ++ (r :: K2)⟩ := (by rw [hn1]; simp); have hlm1 : l ∈ (ndA A1 at_).kids := (by rw [hn2]; simp); have hown : (own A1 d l).length < (own A1 (d + 1) at_).length := zdv hn2; have hxl : ∀ q ∈ I, klt q.1 x.1 = true := by rw [hI] at hsl; exact fun q hq => hsl.cross q hq x (by simp)
       have hgl : getT (trav A d l) x.1 = (x.2, true) := (by rw [hI]; exact zga x.1 x.2 I [] hxl); have hD := zii d g A1 fr l x.1 (by omega) (hst.pt.kid hlm1) (by rw [hag l hlm]; exact hsl) (by rw [hag l hlm, hgl]) (.inr (by rw [hother l hlm]; omega)) (by rw [hother l hlm]; exact hl9) (by omega); obtain ⟨s1, s2, s3⟩ := Step.kid hst.pt hn2 h1 (by simpa using h2) hD.step (by have := hD.lo; rw [hother l hlm] at this; omega) hD.hi; refine ⟨by rw [hset]; exact hst.trans s1, ?_, ?_, ?_, h.lt, h9, fun e => absurd e hne, fun _ => ⟨hsafe, hpos, fun e => ?_, fun _ _ => ?_, fun _ e => ?_, fun _ e => ?_⟩⟩
       · have hdl : delT (I ++ [x]) x.1 = I := by have := zfd x.1 x.2 I [] hxl (by simp); rwa [List.append_nil] at this
         rw [hset, s3, hD.trav, hag l hlm, hdel, hI, hdl]; rw [zfb K1 P1 fun c hc => hag c (by rw [hn]; simp [hc]), zdi (x :: P2) (r :: K2) (g := trav A d) fun c hc => hag c (by rw [hn]; simp at hc ⊢; rcases hc with hc | hc <;> simp [hc])]; simp [rwv]
       · rw [hset, s2, hn1, hn]; simp
       · rw [hset, s2, hn1]; have := h9; rw [hn] at this; simpa using this
       · rw [hh] at e; cases e
       · rw [hl0, hxe, hset0, hA1]; exact ⟨hes, hD.safe⟩
       · rw [hl0] at e; exact absurd c1 e
       rw [hl0] at e; exact absurd c1 e
     by_cases c2 : 4 < (ndA A r).pairs.length
     · obtain ⟨⟨I, hI⟩, hes⟩ := zmm d g r (by omega) hr1 hrw (by omega) hr9
       have hset : delA (g + 1) A fr at_ key = delA g (A.set at_ ⟨P1 ++ [endA g A r false] ++ P2, (ndA A at_).kids⟩) fr r (endA g A r false).1 := by
        rw [delA, if_neg hne, if_neg (by rw [hh]; simp), hl0, hr0, if_neg c1, if_pos c2, hset0]
       obtain ⟨hst, htr⟩ := zdh h (P1 ++ [endA g A r false] ++ P2) (.inr (by rw [hn]; simp)); have hn1 : ndA (A.set at_ ⟨P1 ++ [endA g A r false] ++ P2, (ndA A at_).kids⟩) at_ = ⟨P1 ++ [endA g A r false] ++ P2, (ndA A at_).kids⟩ := zaq _ h.lt; have hother : ∀ c, c ∈ (ndA A at_).kids → ndA (A.set at_ ⟨P1 ++ [endA g A r false] ++ P2, (ndA A at_).kids⟩) c = ndA A c := fun c hc => zai _ (hsafe.kid c hc).2.1.symm
       have hag : ∀ c, c ∈ (ndA A at_).kids → trav (A.set at_ ⟨P1 ++ [endA g A r false] ++ P2, (ndA A at_).kids⟩) d c = trav A d c := by
        intro c hc; refine (zdj (by simp) fun j hj => zai _ fun e => ?_).2.2.1; have h3 := h.one at_; have h4 : 0 < (nidx A (d + 1) (ndA A at_)).count at_ := List.count_pos_iff.2 (List.mem_flatMap.2 ⟨c, hc, by rw [e]; exact hj⟩); unfold own at h3; simp only [List.count_cons, beq_self_eq_true, if_true] at h3; omega
       have hcov := hst.cover; generalize hxe : endA g A r false = x at *; generalize hA1 : A.set at_ ⟨P1 ++ [x] ++ P2, (ndA A at_).kids⟩ = A1 at *; rw [hkset] at hn1; have hn2 : ndA A1 at_ = ⟨(P1 ++ [x]) ++ [] ++ P2, (K1 ++ [l]) ++ [r] ++ K2⟩ := (by rw [hn1]; simp); have hrm1 : r ∈ (ndA A1 at_).kids := (by rw [hn2]; simp); have hown : (own A1 d r).length < (own A1 (d + 1) at_).length := zdv hn2; have hxl : ∀ q ∈ I, klt x.1 q.1 = true := by rw [hI] at hsr; exact fun q hq => (List.pairwise_cons.1 hsr).1 q hq
       have hgl : getT (trav A d r) x.1 = (x.2, true) := (by rw [hI]; exact zga x.1 x.2 [] I (by simp)); have hD := zii d g A1 fr r x.1 (by omega) (hst.pt.kid hrm1) (by rw [hag r hrm]; exact hsr) (by rw [hag r hrm, hgl]) (.inr (by rw [hother r hrm]; omega)) (by rw [hother r hrm]; exact hr9) (by omega); obtain ⟨s1, s2, s3⟩ := Step.kid hst.pt hn2 (by simpa using h1) h2 hD.step (by have := hD.lo; rw [hother r hrm] at this; omega) hD.hi; refine ⟨by rw [hset]; exact hst.trans s1, ?_, ?_, ?_, h.lt, h9, fun e => absurd e hne, fun _ => ⟨hsafe, hpos, fun e => ?_, fun _ e => ?_, fun _ _ _ => ?_, fun _ _ e => ?_⟩⟩
       · have hdl : delT (x :: I) x.1 = I := zfd x.1 x.2 [] I (by simp) hxl
         rw [hset, s3, hD.trav, hag r hrm, hdel, hI, hdl]; rw [zfb (g := trav A d) (K1 ++ [l]) (P1 ++ [x]) fun c hc => hag c (by rw [hn]; simp at hc ⊢; rcases hc with hc | hc <;> simp [hc]), zdi P2 K2 fun c hc => hag c (by rw [hn]; simp [hc])]; rw [ztk _ K1 P1 l x h1]; simp
       · rw [hset, s2, hn1, hn]; simp
       · rw [hset, s2, hn1]; have := h9; rw [hn] at this; simpa using this
       · rw [hh] at e; cases e
       · rw [hl0] at e; exact absurd e c1
       · rw [hr0, hxe, hset0, hA1]; exact ⟨hes, hD.safe⟩
       rw [hr0] at e; exact absurd c2 e
     obtain ⟨q1, q2, q3, q4, _⟩ := zns h hn h1 h2 (by omega)
     have hset : delA (g + 1) A fr at_ key = delA g (joinA A at_ P1.length) (fr ++ [r]) l key := by
      rw [delA, if_neg hne, if_neg (by rw [hh]; simp), hl0, hr0, if_neg c1, if_neg c2, hi]
     have hcov := q1.cover; generalize hA1 : joinA A at_ P1.length = A1 at *; have hlm1 : l ∈ (ndA A1 at_).kids := (by rw [q3]; simp); have hown : (own A1 d l).length < (own A1 (d + 1) at_).length := zdv q3; have ht1 := zba (d := d) q3 h1 h2 rfl; have hs1 : Sorted (trav A1 (d + 1) at_) := (by rw [q2]; exact hs); rw [ht1] at hs1; simp only [weave] at hs1 ht1; obtain ⟨hw1, hw4, hw9, _⟩ := q1.pt.wf.2 l hlm1
     have hag : ∀ c, c ∈ K1 ∨ c ∈ K2 → trav A1 d c = trav A d c := by
      intro c hc; have hcm : c ∈ (ndA A at_).kids := (by rw [hn]; rcases hc with hc | hc <;> simp [hc]); refine (zdj (by have := q1.len; omega) fun j hj => ?_).2.2.1; have hone := h.one j; rw [zbr hn] at hone; simp only [List.count_cons, List.count_append, List.flatMap_cons, List.flatMap_nil, List.append_nil, beq_iff_eq] at hone
      have hj0 : 0 < (K1.flatMap (own A d)).count j ∨ 0 < (K2.flatMap (own A d)).count j := by
       rcases hc with hc | hc
       · exact .inl (List.count_pos_iff.2 (List.mem_flatMap.2 ⟨c, hc, hj⟩))
       exact .inr (List.count_pos_iff.2 (List.mem_flatMap.2 ⟨c, hc, hj⟩))
      have e1 : (own A d l).count j = (if l = j then 1 else 0) + (nidx A d (ndA A l)).count j := (by unfold own; rw [List.count_cons]; simp only [beq_iff_eq]; omega); have e2 : (own A d r).count j = (if r = j then 1 else 0) + (nidx A d (ndA A r)).count j := (by unfold own; rw [List.count_cons]; simp only [beq_iff_eq]; omega); have hjat : at_ ≠ j := fun e => by rw [if_pos e] at hone; omega
      have hjl : l ≠ j := fun e => by rw [if_pos e] at e1; omega
      have hjr : r ≠ j := fun e => by rw [if_pos e] at e2; omega
      rw [← hA1]; have k1 : kidA A at_ P1.length = l := (by rw [← hi]; exact hl0); have k2 : kidA A at_ (P1.length + 1) = r := (by rw [← hi]; exact hr0); unfold joinA; rw [k1, k2, zai _ hjr, zai _ hjat, zai _ hjl]
     rw [zfb K1 P1 fun c hc => hag c (.inl hc), zdi P2 K2 fun c hc => hag c (.inr hc)] at ht1 hs1
     have hM : trav A1 d l = trav A d l ++ (key, m) :: trav A d r := by
      have e := ht1.symm.trans (q2.trans ht2); have e' : lw (trav A d) K1 P1 ++ (trav A1 d l ++ rwv (trav A d) P2 K2) = lw (trav A d) K1 P1 ++ ((trav A d l ++ (key, m) :: trav A d r) ++ rwv (trav A d) P2 K2) := (by simpa using e); exact List.append_cancel_right (List.append_cancel_left e')
     have hgl : getT (trav A1 d l) key = (m, true) := by rw [hM]; exact zga key m _ _ fun q hq => hbef q (by simp [hq])
     have hD := zii d g A1 (fr ++ [r]) l key (by omega) (q1.pt.kid hlm1) hs1.left.right (by rw [hgl]) (.inr (by omega)) hw9 (by omega); obtain ⟨s1, s2, s3⟩ := Step.kid q1.pt q3 h1 h2 hD.step (by have := hD.lo; rw [q4] at this; simp at this; omega) hD.hi; refine ⟨by rw [hset]; exact q1.trans s1, ?_, ?_, ?_, h.lt, h9, fun e => absurd e hne, fun _ => ⟨hsafe, hpos, fun e => ?_, fun _ e => ?_, fun _ _ e => ?_, fun _ _ _ => ?_⟩⟩
     · rw [hset, s3, hD.trav, hM, zfd key m _ _ (fun q hq => hbef q (by simp [hq])) (fun q hq => hbeh q (by simp [hq])), hdel]
       rw [zfb K1 P1 fun c hc => hag c (.inl hc), zdi P2 K2 fun c hc => hag c (.inr hc)]; simp
     · rw [hset, s2, q3, hn]; simp; omega
     · rw [hset, s2, q3]; have := h9; rw [hn] at this; simp at this; simp; omega
     · rw [hh] at e; cases e
     · rw [hl0] at e; exact absurd e c1
     · rw [hr0] at e; exact absurd e c2
     rw [hl0, hr0, hi, hA1]; exact hD.safe
end Go.Proofs.YthljnnjpmdgkoaaGreat
