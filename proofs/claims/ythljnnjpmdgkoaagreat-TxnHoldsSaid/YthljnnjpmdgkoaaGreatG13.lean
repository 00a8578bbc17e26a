/- Lemmas for the claim. Conditions stand in each. -/
import Derived.Test.YthljnnjpmdgkoaaGreatG10
import Derived.Test.YthljnnjpmdgkoaaGreatG12
namespace Go.Proofs.YthljnnjpmdgkoaaGreat
open Go Go.Proofs Go.RowKit
structure HOrd (K : List Gen) : Prop where
 ends : K.Pairwise fun a b => 0 < a.end_ ∧ (b.end_ = 0 ∨ a.end_ ≤ b.end_)
 puts : ∀ x ∈ K, x.puts.Pairwise (· < ·)
theorem HOrd.put {K : List Gen} (h : HOrd K) {R : Int} (hM : ∀ x ∈ K, ∀ p ∈ x.puts, p < R) (he : ∀ x ∈ K, 0 ≤ x.end_) : HOrd (putK K R) := by
 unfold putK
 split
 · rename_i ho
   obtain ⟨L, x, rfl, hx⟩ := zcl ho; rw [zbt]; obtain ⟨a, b, c⟩ := List.pairwise_append.1 h.ends; refine ⟨List.pairwise_append.2 ⟨a, by simp, fun y hy z hz => ?_⟩, fun y hy => ?_⟩
   · rw [List.mem_singleton.1 hz]
     exact c y hy x (by simp)
   rcases List.mem_append.1 hy with e | e
   · exact h.puts y (List.mem_append_left _ e)
   rw [List.mem_singleton.1 e]
   refine List.pairwise_append.2 ⟨h.puts x (by simp), by simp, fun p hp q hq => ?_⟩; rw [List.mem_singleton.1 hq]; exact hM x (by simp) p hp
 rename_i ho
 have hall : ∀ y ∈ K, 0 < y.end_ := by
  rcases List.eq_nil_or_concat K with rfl | ⟨L, x, rfl⟩
  · simp
  simp only [List.concat_eq_append] at *
  obtain ⟨a, b, c⟩ := List.pairwise_append.1 h.ends; intro y hy; rcases List.mem_append.1 hy with e | e
  · exact (c y e x (by simp)).1
  rw [List.mem_singleton.1 e]
  have h0 : x.end_ ≠ 0 := fun h0 => ho (by unfold isOpen; simp [h0]); have := he x (by simp); omega
 refine ⟨List.pairwise_append.2 ⟨h.ends, by simp, fun y hy z hz => ?_⟩, fun y hy => ?_⟩
 · rw [List.mem_singleton.1 hz]
   exact ⟨hall y hy, .inl rfl⟩
 rcases List.mem_append.1 hy with e | e
 · exact h.puts y e
 rw [List.mem_singleton.1 e]; simp
theorem HOrd.tomb {K : List Gen} (h : HOrd K) (ho : isOpen K = true) {R : Int} (hM : ∀ x ∈ K, x.end_ < R) : HOrd (tombK K R) := by
 obtain ⟨L, x, rfl, hx⟩ := zcl ho; unfold tombK; rw [zbt]; obtain ⟨a, b, c⟩ := List.pairwise_append.1 h.ends; refine ⟨List.pairwise_append.2 ⟨a, by simp, fun y hy z hz => ?_⟩, fun y hy => ?_⟩
 · rw [List.mem_singleton.1 hz]
   have := hM y (List.mem_append_left _ hy); exact ⟨(c y hy x (by simp)).1, .inr (by dsimp only; omega)⟩
 rcases List.mem_append.1 hy with e | e
 · exact h.puts y (List.mem_append_left _ e)
 rw [List.mem_singleton.1 e]
 exact h.puts x (by simp)
theorem zsc {l : List Int} {R : Int} {j : Nat} (hj : j < upTo l R) (hl : j < l.length) : l[j] ≤ R := by
 unfold upTo at hj; have := List.not_of_lt_findIdx hj; simpa using this
theorem zsd {l : List Int} {r : Int} {k : Nat} (hk : k ≤ l.length) (h : ∀ j (hj : j < l.length), j < k → l[j] ≤ r) : k ≤ upTo l r := by
 unfold upTo; rcases Nat.lt_or_ge (l.findIdx fun p => decide (r < p)) k with hc | hc
 · have hl : (l.findIdx fun p => decide (r < p)) < l.length := by omega
   have h1 := List.findIdx_getElem (w := hl); have h2 := h _ hl hc; simp only [decide_eq_true_eq] at h1; omega
 exact hc
theorem zkz (l : List Int) {R r : Int} (h : R ≤ r) : upTo l R ≤ upTo l r :=
 zsd (zdq l R) fun _j hj hk => Int.le_trans (zsc hk hj) h
theorem zse {l : List Int} {R r : Int} {k : Nat} (hk : k ≤ upTo l R) (h : R ≤ r) : upTo (l.drop k) r = upTo l r - k := by
 have hkl : k ≤ l.length := Nat.le_trans hk (zdq l R)
 have ht : (l.take k).findIdx (fun p => decide (r < p)) = k := by
  have : (l.take k).findIdx (fun p => decide (r < p)) = (l.take k).length := by
   refine List.findIdx_eq_length_of_false fun p hp => ?_; obtain ⟨j, hj⟩ := List.mem_iff_getElem?.1 hp; have hjl := (List.getElem?_eq_some_iff.1 hj).1; rw [List.length_take] at hjl; rw [List.getElem?_take_of_lt (by omega)] at hj; have h1 := zsc (l := l) (R := R) (j := j) (by omega) (by omega); rw [(List.getElem?_eq_some_iff.1 hj).2] at h1; simp; omega
  rw [this]; simp; omega
 have h2 : upTo l r = k + upTo (l.drop k) r := by
  conv => lhs; rw [← List.take_append_drop k l]
  unfold upTo; rw [List.findIdx_append, ht]; have : (l.take k).length = k := (by simp; omega); rw [this, if_neg (by omega)]; omega
 omega
theorem zue {K : List Gen} {r : Int} (h : ∀ y ∈ K, 0 < y.end_ ∧ y.end_ ≤ r) : atK K r = ((0, 0, 0), false) := by
 unfold atK
 split
 · rfl
 rename_i x hx
 have hm := List.mem_reverse.1 (List.mem_of_find?_eq_some hx); have := h x hm; rw [if_pos ⟨this.1, this.2⟩]
theorem zey (R : Int) (x : Gen) : (compG R x).end_ = x.end_ ∧ (compG R x).create = x.create := by
 unfold compG
 split <;> exact ⟨rfl, rfl⟩
theorem zrk (R : Int) (K : List Gen) (x : Gen) : compK R (K ++ [x]) = compK R K ++ if endB R x then [] else [compG R x] := by
 unfold compK; rw [List.filter_append, List.map_append]
 congr 1
 cases h : endB R x <;> simp [h]
theorem zkn {K : List Gen} (h : HOrd K) {R r : Int} (hr : R ≤ r) : atK (compK R K) r = atK K r := by
 have key : ∀ n (K : List Gen), K.length = n → HOrd K → atK (compK R K) r = atK K r := by
  intro n
  induction n with
  | zero =>
    intro K hn _; rw [List.eq_nil_of_length_eq_zero hn]
    rfl
  | succ n ih =>
    intro K hn h; rcases List.eq_nil_or_concat K with rfl | ⟨L, x, rfl⟩
    · simp at hn
    simp only [List.concat_eq_append] at *
    obtain ⟨a, b, c⟩ := List.pairwise_append.1 h.ends; have hL : HOrd L := ⟨a, fun y hy => h.puts y (List.mem_append_left _ hy)⟩; have ihL := ih L (by simp at hn; omega) hL; rw [zrk, zbx]
    cases he : endB R x with
    | true =>
      simp only [if_true, List.append_nil]; rw [ihL]; unfold endB at he; simp only [Bool.and_eq_true, decide_eq_true_eq] at he
      have hnone : atK L r = ((0, 0, 0), false) := zue fun y hy => by
       have := c y hy x (by simp); omega
      rw [hnone, if_pos (show 0 < x.end_ ∧ x.end_ ≤ r by omega)]
      split <;> rfl
    | false =>
      simp only [Bool.false_eq_true, if_false]; rw [zbx, (zey R x).1, (zey R x).2, ihL]; unfold compG; by_cases hn1 : 1 < upTo x.puts R
      · rw [if_pos hn1]
        dsimp only; have hle := zkz x.puts hr; have hul := zdq x.puts r; have hd := zse (l := x.puts) (R := R) (r := r) (k := upTo x.puts R - 1) (by omega) hr; rw [hd, if_pos (show upTo x.puts r - (upTo x.puts R - 1) ≠ 0 by omega), if_pos (show upTo x.puts r ≠ 0 by omega), List.getElem?_drop]; have e1 : upTo x.puts R - 1 + (upTo x.puts r - (upTo x.puts R - 1) - 1) = upTo x.puts r - 1 := (by omega); have e2 : x.cut + ((upTo x.puts R : Int) - 1) + ((upTo x.puts r - (upTo x.puts R - 1) : Nat) : Int) = x.cut + (upTo x.puts r : Int) := (by omega); rw [e1, e2]
      rw [if_neg hn1]
 exact key K.length K rfl h
theorem zwh {K : List Gen} (h : HOrd K) {R r : Int} (hr : R ≤ r) (hm : (atK K r).1.2.1 ≤ R) : (atK K r).1.2.1 = (atK K R).1.2.1 ∨ (atK K r).1.2.1 = 0 := by
 have key : ∀ n (K : List Gen), K.length = n → HOrd K → (atK K r).1.2.1 ≤ R → (atK K r).1.2.1 = (atK K R).1.2.1 ∨ (atK K r).1.2.1 = 0 := by
  intro n
  induction n with
  | zero =>
    intro K hn _ _; rw [List.eq_nil_of_length_eq_zero hn]; exact .inr rfl
  | succ n ih =>
    intro K hn h hm; rcases List.eq_nil_or_concat K with rfl | ⟨L, x, rfl⟩
    · simp at hn
    simp only [List.concat_eq_append] at *
    obtain ⟨a, b, c⟩ := List.pairwise_append.1 h.ends; have hL : HOrd L := ⟨a, fun y hy => h.puts y (List.mem_append_left _ hy)⟩; rw [zbx] at hm ⊢
    rw [zbx]; have hmono := zkz x.puts hr; by_cases hu : upTo x.puts r ≠ 0
    · rw [if_pos hu] at hm ⊢
      by_cases he : 0 < x.end_ ∧ x.end_ ≤ r
      · rw [if_pos he]; exact .inr rfl
      rw [if_neg he] at hm ⊢
      dsimp only at hm ⊢
      have hul := zdq x.puts r; have hlt : upTo x.puts r - 1 < x.puts.length := (by omega); rw [List.getElem?_eq_getElem hlt, Option.getD_some] at hm
      have hge : upTo x.puts r ≤ upTo x.puts R := zsd hul fun j hj hk => by
       rcases Nat.lt_or_ge j (upTo x.puts r - 1) with e | e
       · have := List.pairwise_iff_getElem.1 (h.puts x (by simp)) j (upTo x.puts r - 1) hj hlt e
         omega
       have : j = upTo x.puts r - 1 := by omega
       subst this; exact hm
      have he2 : upTo x.puts R = upTo x.puts r := (by omega); rw [he2, if_pos hu, if_neg (by omega)]; exact .inl rfl
    rw [if_neg hu] at hm ⊢
    rw [if_neg (by omega)]; exact ih L (by simp at hn; omega) hL hm
 exact key K.length K rfl h hm
def compH (R : Int) (H : Hist) : Hist := { gens := compK R H.gens, last := H.last, kvs := fun r => if r ≤ R ∧ r ≠ (atK (compK R H.gens) R).1.2.1 then none else H.kvs r }
theorem ztu {M : Int} {H : Hist} (hI : HInv M H) (h : HOrd H.gens) {R r : Int} (hr : R ≤ r) : hadH (compH R H) r = hadH H r := by
 unfold hadH compH; dsimp only; rw [zkn h hr, zkn h (Int.le_refl R)]; by_cases hm : (atK H.gens r).1.2.1 ≤ R
 · rcases zwh h hr hm with e | e
   · rw [if_neg fun c => c.2 e]
   rw [e]
   split
   · rw [hI.zero]
   rfl
 rw [if_neg fun c => hm c.1]
theorem ztt {H : Hist} (h : HOrd H.gens) {R r : Int} (hr : R ≤ r) (hM : H.kvs 0 = none) (hn : compK R H.gens = []) : hadH H r = (kv0, false) := by
 unfold hadH; rw [← zkn h hr, hn]; dsimp only [zxh]; rw [hM]
 rfl
theorem zdo {R : Int} {K : List Gen} {y : Gen} (hy : y ∈ compK R K) : ∃ x ∈ K, y = compG R x := by
 unfold compK at hy; obtain ⟨x, hx, rfl⟩ := List.mem_map.1 hy; exact ⟨x, (List.mem_filter.1 hx).1, rfl⟩
theorem zdp (R : Int) (x : Gen) : ∃ k, (compG R x).puts = x.puts.drop k ∧ (compG R x).cut = x.cut + (k : Int) ∧ k ≤ x.puts.length ∧ (x.puts ≠ [] → k < x.puts.length) := by
 have hl := zdq x.puts R; unfold compG
 split
 · exact ⟨upTo x.puts R - 1, rfl, by dsimp only; omega, by omega, fun _ => by omega⟩
 exact ⟨0, rfl, by simp, by omega, fun h => List.length_pos_iff.2 h⟩
theorem HInv.comp {M : Int} {H : Hist} (h : HInv M H) (R : Int) : HInv M (compH R H) := by
 refine ⟨fun y hy p hp => ?_, fun y hy => ?_, fun y hy => ?_, ?_⟩
 · obtain ⟨x, hx, rfl⟩ := zdo hy
   obtain ⟨k, hk, _⟩ := zdp R x; rw [hk] at hp; exact h.puts x hx p (List.mem_of_mem_drop hp)
 · obtain ⟨x, hx, rfl⟩ := zdo hy
   rw [(zey R x).1]; exact h.ends x hx
 · obtain ⟨x, hx, rfl⟩ := zdo hy
   obtain ⟨k, hk, _, _, hk2⟩ := zdp R x; have := hk2 (h.full x hx); rw [hk]; exact fun e => by have := congrArg List.length e; simp at this; omega
 show (if _ then none else H.kvs 0) = none
 split
 · rfl
 exact h.zero
theorem HOrd.comp {K : List Gen} (h : HOrd K) (R : Int) : HOrd (compK R K) := by
 refine ⟨?_, fun y hy => ?_⟩
 · unfold compK
   rw [List.pairwise_map]; refine List.Pairwise.imp (fun {a b} hab => ?_) (List.Pairwise.sublist List.filter_sublist h.ends); rw [(zey R a).1, (zey R b).1]; exact hab
 obtain ⟨x, hx, rfl⟩ := zdo hy
 obtain ⟨k, hk, _⟩ := zdp R x; rw [hk]; exact List.Pairwise.sublist (List.drop_sublist _ _) (h.puts x hx)
structure HMore (n : Nat) (H : Hist) : Prop where
 ord : HOrd H.gens
 fin : ∃ l : List Int, l.length ≤ n ∧ ∀ r, H.kvs r ≠ none → r ∈ l
 cut : ∀ x ∈ H.gens, 0 ≤ x.cut ∧ x.cut + x.puts.length ≤ n
theorem HMore.mono {n m : Nat} {H : Hist} (h : HMore n H) (hm : n ≤ m) : HMore m H :=
 ⟨h.ord, by obtain ⟨l, a, b⟩ := h.fin; exact ⟨l, by omega, b⟩, fun x hx => by have := h.cut x hx; omega⟩
theorem HMore.new (n : Nat) : HMore n newH := ⟨⟨List.Pairwise.nil, fun x hx => by simp [newH] at hx⟩, ⟨[], by simp, fun r hr => absurd rfl hr⟩, fun x hx => by simp [newH] at hx⟩
theorem HMore.put {n : Nat} {M : Int} {H : Hist} (h : HMore n H) (hI : HInv M H) (x : Kv) (hM : M < x.mod) : HMore (n + 1) (putH H x) := by
 refine ⟨h.ord.put (fun y hy p hp => by have := (hI.puts y hy p hp).2; omega) fun y hy => (hI.ends y hy).1, ?_, fun y hy => ?_⟩
 · obtain ⟨l, a, b⟩ := h.fin
   refine ⟨x.mod :: l, by simp; omega, fun r hr => ?_⟩; by_cases e : r = x.mod
   · rw [e]; simp
   unfold putH at hr
   dsimp only at hr; rw [if_neg e] at hr; exact List.mem_cons_of_mem _ (b r hr)
 unfold putH putK at hy
 dsimp only at hy
 split at hy
 · obtain ⟨z, hz, e | e⟩ := zdw hy
   · rw [e]; have := h.cut z hz; omega
   rw [e]
   have := h.cut z hz; dsimp only; simp only [List.length_append, List.length_singleton]; omega
 rcases List.mem_append.1 hy with e | e
 · have := h.cut y e; omega
 rw [List.mem_singleton.1 e]
 simp; omega
theorem HMore.tomb {n : Nat} {M : Int} {H : Hist} (h : HMore n H) (hI : HInv M H) (ho : isOpen H.gens = true) {R : Int} (hM : M < R) : HMore n (tombH H R) := by
 refine ⟨h.ord.tomb ho fun y hy => by have := (hI.ends y hy).2; omega, h.fin, fun y hy => ?_⟩; unfold tombH tombK at hy; dsimp only at hy; obtain ⟨z, hz, e | e⟩ := zdw hy
 · rw [e]; exact h.cut z hz
 rw [e]; exact h.cut z hz
theorem HMore.comp {n : Nat} {H : Hist} (h : HMore n H) (R : Int) : HMore n (compH R H) := by
 refine ⟨h.ord.comp R, ?_, fun y hy => ?_⟩
 · obtain ⟨l, a, b⟩ := h.fin
   refine ⟨l, a, fun r hr => b r ?_⟩; unfold compH at hr; dsimp only at hr
   split at hr
   · exact absurd rfl hr
   exact hr
 obtain ⟨x, hx, rfl⟩ := zdo hy
 obtain ⟨k, hk, hc, hk1, _⟩ := zdp R x; have := h.cut x hx; rw [hk, hc, List.length_drop]; omega
theorem HistOk.comp {n : Nat} {H : Hist} (h : HistOk n H) (hm : HMore n H) (hn : n ≤ 1099511627) (R : Int) : HistOk n (compH R H) := by
 refine ⟨?_, fun y hy => ?_⟩
 · show (compK R H.gens).length ≤ n
   unfold compK; rw [List.length_map]; exact Nat.le_trans (List.length_filter_le _ _) h.len
 obtain ⟨x, hx, rfl⟩ := zdo hy
 obtain ⟨k, hk, hc, hk1, _⟩ := zdp R x; have h1 := h.puts x hx; have h2 := hm.cut x hx; rw [hk, hc, List.length_drop]; unfold top; exact ⟨by omega, by omega, by omega, fun p hp => h1.2.2.2 p (List.mem_of_mem_drop hp)⟩
def SMore (n : Nat) (S : St) : Prop := ∀ i H, S.past i = some H → HMore n H
theorem SMore.mono {n m : Nat} {S : St} (h : SMore n S) (hm : n ≤ m) : SMore m S := fun i H hi => (h i H hi).mono hm
theorem SMore.doS {n : Nat} {M : Int} {S : St} (h : SMore n S) (hI : SInv M S) (hM0 : 0 ≤ M) (x : Ev) (h1 : 1 ≤ x.kv.mod) (hlast : (getT S.T x.kv.key).2 = true → ∀ H, S.past (getT S.T x.kv.key).1 = some H → H.last < x.kv.mod)
 (hdel : x.kind ≠ 1 → (getT S.T x.kv.key).2 = true ∧ ∀ H, S.past (getT S.T x.kv.key).1 = some H → isOpen H.gens = true) : SMore (n + 1) (doS S x) := by
 intro i H' hi; change (doneS S x).past i = some H' at hi; unfold doneS at hi; by_cases hk : x.kind = 1
 · rw [if_pos hk] at hi
   unfold putS at hi; dsimp only at hi; obtain ⟨a, b, c, d⟩ := hI.made hM0 x.kv.key
   have hmade : ∀ j G, (madeS S x.kv.key).past j = some G → (HMore n G ∧ HInv G.last G) := fun j G hj => by
    refine ⟨?_, (a.hist j G hj).1.1⟩; unfold madeS at hj
    split at hj
    · exact h j G hj
    dsimp only at hj
    split at hj
    · rw [← Option.some.inj hj]; exact HMore.new n
    exact h j G hj
   split at hi
   · rw [← Option.some.inj hi]
     obtain ⟨G, hG⟩ := a.has _ b; rw [c] at hG
     have hl : G.last < x.kv.mod := by
      unfold madeS idS at hG
      cases hg : (getT S.T x.kv.key).2 with
      | true => rw [hg, if_pos rfl, if_pos rfl] at hG; exact hlast hg G hG
      | false =>
        simp only [hg, Bool.false_eq_true, if_false, if_true] at hG; rw [← Option.some.inj hG]
        show (0 : Int) < x.kv.mod
        omega
     rw [hG, Option.getD_some]; exact (hmade _ _ hG).1.put (hmade _ _ hG).2 x.kv hl
   exact (hmade i H' hi).1.mono (by omega)
 rw [if_neg hk] at hi
 obtain ⟨e1, e2⟩ := hdel hk; unfold tombS at hi; rw [if_pos e1] at hi; dsimp only at hi
 split at hi
 · obtain ⟨G, hG⟩ := hI.has _ e1
   rw [hG, Option.map_some] at hi; rw [← Option.some.inj hi]; exact ((h _ G hG).tomb (hI.hist _ _ hG).1.1 (e2 G hG) (hlast e1 G hG)).mono (by omega)
 exact (h i H' hi).mono (by omega)
def Doc.adds (D : Doc) (E : List Ev) : Doc := E.foldl Doc.add D
theorem Doc.adds_snoc (D : Doc) (E : List Ev) (x : Ev) : D.adds (E ++ [x]) = (D.adds E).add x := by
 unfold Doc.adds; rw [List.foldl_append]
 rfl
theorem Doc.adds_parts (D : Doc) (E : List Ev) : (D.adds E).mark = D.mark ∧ (D.adds E).kvs = D.kvs ∧ (D.adds E).events = D.events ++ E := by
 induction E generalizing D with
 | nil => exact ⟨rfl, rfl, by simp [Doc.adds]⟩
 | cons e E ih =>
   obtain ⟨a, b, c⟩ := ih (D.add e); refine ⟨a, b, ?_⟩
   show ((D.add e).adds E).events = _
   rw [c]
   show (D.events ++ [e]) ++ E = _
   simp
theorem Doc.adds_rev (D : Doc) (E : List Ev) (R : Int) (h : ∀ e ∈ E, e.kv.mod = R) : (D.adds E).rev = if E = [] then D.rev else R := by
 rcases List.eq_nil_or_concat E with rfl | ⟨E', x, rfl⟩
 · rfl
 simp only [List.concat_eq_append] at *
 rw [Doc.adds_snoc, if_neg (by simp)]; exact h x (by simp)
structure RunOk (c n : Nat) (D : Doc) (P : List Opr) (S : St) (E : List Ev) : Prop where
 cpl : Cpl S (D.adds E)
 doc : DocOk n (D.adds E)
 ok : StOk n S
 size : S.T.length ≤ c
 srt : Sorted S.T
 more : SMore n S
 srev : S.rev = D.rev
 mods : ∀ e ∈ E, e.kv.mod = D.rev + 1
 old : ∀ e ∈ D.events, e.kv.mod ≤ D.rev
 last : ∀ k, (getT S.T k).2 = true → ∀ H, S.past (getT S.T k).1 = some H → H.last ≤ D.rev ∨ ∃ e ∈ E, e.kv.key = k
 by1 : ∀ e ∈ E, (e.kind = 1 ∧ ∃ o ∈ P, o.kind = 1 ∧ o.rg.key = e.kv.key) ∨ (e.kind = 2 ∧ (∃ o ∈ P, o.kind = 2 ∧ inB e.kv.key o.rg.key o.rg.end_ = true) ∧ hasL ((D.adds E).at (D.rev + 1)) e.kv.key = none)
theorem RunOk.mono {c n c' n' : Nat} {D : Doc} {P P' : List Opr} {S : St} {E : List Ev} (h : RunOk c n D P S E) (hc : c ≤ c') (hn : n ≤ n') (hP : ∀ o ∈ P, o ∈ P') : RunOk c' n' D P' S E :=
 { h with doc := h.doc.mono hn, ok := h.ok.mono hn, size := Nat.le_trans h.size hc, more := h.more.mono hn, by1 := fun e he => (h.by1 e he).imp (fun ⟨a, o, b, c⟩ => ⟨a, o, hP o b, c⟩) fun ⟨a, ⟨o, b, c⟩, d⟩ => ⟨a, ⟨o, hP o b, c⟩, d⟩ }
theorem RunOk.rev {c n : Nat} {D : Doc} {P : List Opr} {S : St} {E : List Ev} (h : RunOk c n D P S E) : D.rev ≤ (D.adds E).rev ∧ (D.adds E).rev ≤ D.rev + 1 := by
 rw [Doc.adds_rev D E _ h.mods]
 split <;> omega
theorem znu (T : Pairs) (k : ByteArray) (m : Int) : (insT T k m).length ≤ T.length + 1 := by
 induction T with
 | nil => simp [insT]
 | cons p T ih =>
   unfold insT
   split
   · simp; omega
   split <;> simp
theorem zxc (S : St) (x : Ev) : (doS S x).T.length ≤ S.T.length + if x.kind = 1 then 1 else 0 := by
 show (doneS S x).T.length ≤ _
 unfold doneS
 split
 · unfold putS madeS
   dsimp only
   split
   · omega
   exact znu _ _ _
 unfold tombS
 split <;> simp
theorem zrj {S : St} (h : Sorted S.T) (x : Ev) : Sorted (doS S x).T := by
 show Sorted (doneS S x).T
 unfold doneS
 split
 · unfold putS madeS
   dsimp only
   split
   · exact h
   exact (zhx _ h _ _).1
 unfold tombS
 split <;> exact h
theorem zxb (S : St) (x : Ev) : (doS S x).rev = S.rev := by
 show (doneS S x).rev = S.rev
 unfold doneS putS tombS madeS; dsimp only
 split
 · split <;> rfl
 split <;> rfl
theorem SInv.open_lives {M : Int} {S : St} (h : SInv M S) {k : ByteArray} (hk : (getT S.T k).2 = true) {H : Hist} (hH : S.past (getT S.T k).1 = some H) {r : Int} (hr : H.last ≤ r) : (livesS S k r).2 = isOpen H.gens := by
 unfold livesS; rw [if_pos hk, hH]; exact zts (h.hist _ _ hH).1.1 hr
theorem zvp {M : Int} {S : St} (h : SInv M S) (hM : 0 ≤ M) (x : Ev) {B : Int} (_hB : 0 ≤ B) {k : ByteArray} (hk : (getT (doS S x).T k).2 = true) {H : Hist} (hH : (doS S x).past (getT (doS S x).T k).1 = some H)
 (hl : (getT S.T k).2 = true → ∀ H, S.past (getT S.T k).1 = some H → H.last ≤ B ∨ k = x.kv.key) : H.last ≤ B ∨ k = x.kv.key := by
 by_cases hkx : k = x.kv.key
 · exact .inr hkx
 have hl' : (getT S.T k).2 = true → ∀ H, S.past (getT S.T k).1 = some H → H.last ≤ B := fun a H b => (hl a H b).resolve_right hkx; refine .inl ?_; have hne : keq x.kv.key k = false := by rw [Bool.eq_false_iff]; exact fun e => hkx (zar.1 e).symm
 change (getT (doneS S x).T k).2 = true at hk; change (doneS S x).past (getT (doneS S x).T k).1 = some H at hH; unfold doneS at hk hH; by_cases h1 : x.kind = 1
 · rw [if_pos h1] at hk hH
   obtain ⟨a, b, c, d⟩ := h.made hM x.kv.key; unfold putS at hk hH; dsimp only at hk hH
   have hid : (getT (madeS S x.kv.key).T k).1 ≠ idS S x.kv.key := fun e => by
    have := a.inj k x.kv.key hk b (e.trans c.symm); exact hkx this
   rw [if_neg hid] at hH
   -- behind 'made' the other keys are as they were
   unfold madeS at hk hH; by_cases hg : (getT S.T x.kv.key).2 = true
   · rw [if_pos hg] at hk hH
     exact hl' hk H hH
   rw [if_neg hg] at hk hH
   dsimp only at hk hH; rw [zcv, hne] at hk hH; simp only [Bool.false_eq_true, if_false] at hk hH; obtain ⟨G, hG⟩ := h.has k hk; have := (h.hist _ _ hG).2; rw [if_neg (by omega)] at hH; exact hl' hk H hH
 rw [if_neg h1] at hk hH
 unfold tombS at hk hH; by_cases hg : (getT S.T x.kv.key).2 = true
 · rw [if_pos hg] at hk hH
   dsimp only at hk hH; rw [if_neg fun e => hkx (h.inj k x.kv.key hk hg e)] at hH; exact hl' hk H hH
 rw [if_neg hg] at hk hH
 exact hl' hk H hH
theorem RunOk.event {c n N : Nat} {D : Doc} {P : List Opr} {S : St} {E : List Ev} (h : RunOk c n D P S E) (x : Ev) (hD0 : 0 ≤ D.rev) (hmod : x.kv.mod = D.rev + 1) (htop : D.rev + 1 ≤ top) (hmk : D.mark ≤ D.rev)
 (hp : x.prev = (hasL ((D.adds E).at (D.rev + 1)) x.kv.key).getD kv0) (hfree : ∀ e ∈ E, e.kv.key ≠ x.kv.key) (hN : c < N)
 (hk : (x.kind = 1 ∧ (x.kv.version = x.prev.version + 1) ∧ ∃ o ∈ P, o.kind = 1 ∧ o.rg.key = x.kv.key) ∨ (x.kind = 2 ∧ (∃ o ∈ P, o.kind = 2 ∧ inB x.kv.key o.rg.key o.rg.end_ = true) ∧ hasL ((D.adds E).at (D.rev + 1)) x.kv.key ≠ none)) :
 DoOk N S x ∧ RunOk (c + if x.kind = 1 then 1 else 0) (n + 1) D P (doS S x) (E ++ [x]) := by
 have hrev := h.rev; have hpt := Doc.adds_parts D E; have hks : KSorted D.kvs := by have := h.cpl.ks; rw [hpt.2.1] at this; exact this
 have hmark : (D.adds E).mark < x.kv.mod := by rw [hpt.1]; omega
 -- the key's history is older
 have hlast : (getT S.T x.kv.key).2 = true → ∀ H, S.past (getT S.T x.kv.key).1 = some H → H.last < x.kv.mod := fun a H b => by
  rcases h.last _ a H b with h1 | ⟨e, h1, h2⟩
  · omega
  exact absurd h2 (hfree e h1)
 have hkind : x.kind = 1 ∨ x.kind = 2 := hk.imp (·.1) (·.1)
 have hdel : x.kind ≠ 1 → (getT S.T x.kv.key).2 = true ∧ ∀ H, S.past (getT S.T x.kv.key).1 = some H → isOpen H.gens = true := fun hx => by
  rcases hk with hk | ⟨_, _, hne⟩
  · exact absurd hk.1 hx
  cases hh : hasL ((D.adds E).at (D.rev + 1)) x.kv.key with
  | none => exact absurd hh hne
  | some y =>
    have hmr : (D.adds E).mark ≤ D.rev + 1 := (by rw [hpt.1]; omega); have hg := h.cpl.has hmr hh; refine ⟨hg, fun H hH => ?_⟩; have hl := hlast hg H hH; have h2 := h.cpl.inv.open_lives hg hH (r := D.rev + 1) (by omega); rw [← h2, h.cpl.lives _ _ hmr, hh]
    rfl
 have hver : x.kind = 1 → 1 ≤ x.kv.version ∧ x.kv.version ≤ (n : Int) + 1 := fun hx => by
  rcases hk with ⟨_, hv, _⟩ | hk
  · have h1 := h.doc.ver_has (by rw [hpt.2.1]; exact hks) (D.rev + 1) x.kv.key
    rw [← hp] at h1; omega
  rw [hk.1] at hx; cases hx
 have hcpl := h.cpl.does x (by omega) (by omega) hmark hlast hdel
 have hdoc := h.doc.add x (by omega) hmark (by omega) (by omega) (by rw [hmod]; exact hp) hkind hver (fun e he hem => by
  rw [hpt.2.2] at he; rcases List.mem_append.1 he with he | he
  · have := h.old e he; omega
  exact hfree e he)
 refine ⟨⟨by omega, by omega, fun H a b => hlast b H a, fun _ _ => by have := h.size; omega, fun hx H a b => (hdel hx).2 H a⟩, ?_⟩; refine ⟨by rw [Doc.adds_snoc]; exact hcpl, by rw [Doc.adds_snoc]; exact hdoc, doS_ok h.ok x (by omega) (by omega), ?_, zrj h.srt x, h.more.doS h.cpl.inv (by omega) x (by omega) hlast hdel, by rw [zxb]; exact h.srev, fun e he => ?_, h.old, fun k a H b => ?_, fun e he => ?_⟩
 · have := zxc S x
   have := h.size; omega
 · rcases List.mem_append.1 he with he | he
   · exact h.mods e he
   rw [List.mem_singleton.1 he]; exact hmod
 · by_cases hkx : k = x.kv.key
   · exact .inr ⟨x, List.mem_append_right _ List.mem_cons_self, hkx.symm⟩
   by_cases hold : ∃ e ∈ E, e.kv.key = k
   · obtain ⟨e, h1, h2⟩ := hold
     exact .inr ⟨e, List.mem_append_left _ h1, h2⟩
   refine .inl ?_
   refine (zvp h.cpl.inv (by omega) x hD0 a b fun a' H' b' => ?_).resolve_right hkx; exact .inl ((h.last k a' H' b').resolve_right hold)
 have hnow : ∀ k, k ≠ x.kv.key → hasL ((D.adds (E ++ [x])).at (D.rev + 1)) k = hasL ((D.adds E).at (D.rev + 1)) k := fun k hkx => by
  rw [Doc.adds_snoc, Doc.add_at _ x hmark, if_pos (by omega), zcr (Doc.at_sorted (by rw [hpt.2.1]; exact hks) _), if_neg fun e => hkx (zar.1 e)]
 rcases List.mem_append.1 he with he | he
 · rcases h.by1 e he with h1 | ⟨h1, h2, h3⟩
   · exact .inl h1
   exact .inr ⟨h1, h2, by rw [hnow _ (hfree e he)]; exact h3⟩
 obtain rfl := List.mem_singleton.1 he
 rcases hk with ⟨h1, _, h2⟩ | ⟨h1, h2, _⟩
 · exact .inl ⟨h1, h2⟩
 refine .inr ⟨h1, h2, ?_⟩
 rw [Doc.adds_snoc, Doc.add_at _ e hmark, if_pos (by omega), zcr (Doc.at_sorted (by rw [hpt.2.1]; exact hks) _), if_pos (zar.2 rfl), if_neg (by omega)]
def delR (rev : Int) (r : Run) (L : List Kv) (j : Nat) : St × List Kv × List Ev := (L.take j).foldl (goneR rev) (r.S, [], r.E)
structure StepG (N n : Nat) (rev : Int) (r : Run) (o : Opr) : Prop where
 st : StOk n r.S
 tree : r.S.T.length ≤ 1099511627
 evs : r.E.length ≤ 1099511627
 ans : r.A.length ≤ 1099511627
 key : o.rg.key.size ≤ 1099511627776
 put : o.kind = 1 → 0 ≤ (livesS r.S o.rg.key rev).1.version ∧ (livesS r.S o.rg.key rev).1.version ≤ top ∧ DoOk N r.S (zav r.S o rev)
 dlen : (zay r.S o.rg.key o.rg.end_ rev).length ≤ 1099511627
 del : o.kind = 2 → ∀ j x, (zay r.S o.rg.key o.rg.end_ rev)[j]? = some x →
  let q := delR rev r (zay r.S o.rg.key o.rg.end_ rev) j
  StOk n q.1 ∧ DoOk N q.1 (goneE x rev) ∧ q.2.1.length ≤ 1099511627 ∧ q.2.2.length ≤ 1099511627
theorem zlb {x : Kv} (h : 1 ≤ x.version) (rev : Int) : told (goneE x rev) = [x] := by
 unfold told goneE; dsimp only; rw [if_pos (by omega)]
theorem RunOk.dels {N : Nat} {D : Doc} {P : List Opr} {o : Opr} (ho : o ∈ P) (hk : o.kind = 2) (hD0 : 0 ≤ D.rev) (htop : D.rev + 1 ≤ top) (hmk : D.mark ≤ D.rev) :
 ∀ (L : List Kv) (_ : KSorted L) (c n : Nat) (S : St) (K : List Kv) (E : List Ev) (_ : RunOk c n D P S E) (_ : c < N) (_ : ∀ x ∈ L, inB x.key o.rg.key o.rg.end_ = true ∧ hasL ((D.adds E).at (D.rev + 1)) x.key = some x ∧ (∀ e ∈ E, e.kv.key ≠ x.key) ∧ 1 ≤ x.version),
  (∀ j ≤ L.length, RunOk c (n + L.length) D P ((L.take j).foldl (goneR (D.rev + 1)) (S, K, E)).1 ((L.take j).foldl (goneR (D.rev + 1)) (S, K, E)).2.2 ∧
    ((L.take j).foldl (goneR (D.rev + 1)) (S, K, E)).2.1 = K ++ L.take j ∧ ((L.take j).foldl (goneR (D.rev + 1)) (S, K, E)).2.2 = E ++ (L.take j).map fun x => goneE x (D.rev + 1)) ∧
  ∀ j x, L[j]? = some x → DoOk N ((L.take j).foldl (goneR (D.rev + 1)) (S, K, E)).1 (goneE x (D.rev + 1))
 | [], _, c, n, S, K, E, h, _, _ => by
   refine ⟨fun j _ => ?_, fun j x hx => by simp at hx⟩; simp only [List.take_nil, List.foldl_nil, List.length_nil, Nat.add_zero, List.append_nil, List.map_nil]; exact ⟨h, trivial, trivial⟩
 | x :: L, hL, c, n, S, K, E, h, hN, hx => by
   obtain ⟨l1, l2⟩ := List.pairwise_cons.1 hL; obtain ⟨x1, x2, x3, x4⟩ := hx x List.mem_cons_self; have hpt := Doc.adds_parts D E; have hks : KSorted D.kvs := (by have := h.cpl.ks; rw [hpt.2.1] at this; exact this); have hmark : (D.adds E).mark < D.rev + 1 := (by rw [hpt.1]; omega); have hev := h.event (N := N) (goneE x (D.rev + 1)) hD0 rfl htop hmk (by show x = (hasL ((D.adds E).at (D.rev + 1)) x.key).getD kv0; rw [x2]; rfl) x3 hN (.inr ⟨rfl, ⟨o, ho, hk, x1⟩, by show hasL ((D.adds E).at (D.rev + 1)) x.key ≠ none; rw [x2]; simp⟩)
   have hev2 : RunOk c (n + 1) D P (doS S (goneE x (D.rev + 1))) (E ++ [goneE x (D.rev + 1)]) := by
    have := hev.2; rw [if_neg (by show ¬ (2 : Int) = 1; decide)] at this; exact this
   have hnext := RunOk.dels ho hk hD0 htop hmk L l2 c (n + 1) (doS S (goneE x (D.rev + 1))) (K ++ told (goneE x (D.rev + 1))) (E ++ [goneE x (D.rev + 1)]) hev2 hN fun y hy => by
    obtain ⟨y1, y2, y3, y4⟩ := hx y (List.mem_cons_of_mem _ hy); have hne : y.key ≠ x.key := fun e => by have := l1 y hy; rw [e, zaz] at this; cases this
    refine ⟨y1, ?_, fun e he => ?_, y4⟩
    · rw [Doc.adds_snoc, Doc.add_at _ (goneE x (D.rev + 1)) hmark, if_pos (by show D.rev + 1 ≤ D.rev + 1; omega), zcr (Doc.at_sorted (by rw [hpt.2.1]; exact hks) _), if_neg (fun e : keq y.key (goneE x (D.rev + 1)).kv.key = true => hne (zar.1 e))]
      exact y2
    rcases List.mem_append.1 he with he | he
    · exact y3 e he
    rw [List.mem_singleton.1 he]; exact fun e => hne e.symm
   have ht := zlb x4 (D.rev + 1); refine ⟨fun j hj => ?_, fun j y hy => ?_⟩
   · cases j with
     | zero =>
       simp only [List.take_zero, List.foldl_nil, List.append_nil, List.map_nil]; exact ⟨h.mono (Nat.le_refl _) (by omega) fun _ h => h, trivial, trivial⟩
     | succ j =>
       obtain ⟨a, b, c'⟩ := hnext.1 j (by simpa using hj); rw [List.take_succ_cons, List.foldl_cons]; refine ⟨?_, ?_, ?_⟩
       · have := a
         rw [show n + (x :: L).length = n + 1 + L.length by simp; omega]; exact this
       · show _ = K ++ x :: L.take j
         rw [show goneR (D.rev + 1) (S, K, E) x = (doS S (goneE x (D.rev + 1)), K ++ told (goneE x (D.rev + 1)), E ++ [goneE x (D.rev + 1)]) from rfl, b, ht]; simp
       rw [show goneR (D.rev + 1) (S, K, E) x = (doS S (goneE x (D.rev + 1)), K ++ told (goneE x (D.rev + 1)), E ++ [goneE x (D.rev + 1)]) from rfl, c']
       simp
   cases j with
   | zero =>
     simp only [List.getElem?_cons_zero, Option.some.injEq] at hy; subst hy; exact hev.1
   | succ j =>
     rw [List.getElem?_cons_succ] at hy; rw [List.take_succ_cons, List.foldl_cons]; exact hnext.2 j y hy
def Apart (P : List Opr) (o : Opr) : Prop := (o.kind = 1 → ∀ p ∈ P, clash o p = false) ∧ (o.kind = 2 → ∀ p ∈ P, p.kind = 1 → clash p o = false)
theorem RunOk.between {c n : Nat} {D : Doc} {P : List Opr} {S : St} {E : List Ev} (h : RunOk c n D P S E) (hmk : D.mark ≤ D.rev) (frm upr : ByteArray) :
 zay S frm upr (D.rev + 1) = ((D.adds E).at (D.rev + 1)).filter fun y => inB y.key frm upr := by
 unfold zay; rw [h.cpl.between h.srt _ _ (by rw [(Doc.adds_parts D E).1]; omega)]
 congr 1
 funext y
 exact zng _ _ _
theorem RunOk.step {c n N : Nat} {D : Doc} {P : List Opr} {r : Run} (h : RunOk c n D P r.S r.E) (o : Opr) (hD0 : 0 ≤ D.rev) (htop : D.rev + 1 ≤ top) (hmk : D.mark ≤ D.rev) (hN : c < N) (hap : Apart P o) (hn : n + c ≤ 1099511627)
 (ha : r.A.length ≤ 1099511627) (hkey : o.rg.key.size ≤ 1099511627776) :
 StepG N (n + c) (D.rev + 1) r o ∧ RunOk (c + 1) (n + c + 1) D (P ++ [o]) (stepR (D.rev + 1) r o).S (stepR (D.rev + 1) r o).E := by
 have hpt := Doc.adds_parts D r.E; have hks : KSorted D.kvs := by have := h.cpl.ks; rw [hpt.2.1] at this; exact this
 have hks' : KSorted (D.adds r.E).kvs := by rw [hpt.2.1]; exact hks
 have hmark : (D.adds r.E).mark ≤ D.rev + 1 := by rw [hpt.1]; omega
 have hel : r.E.length ≤ n := by
  have h1 := h.ok.ev; rw [h.cpl.events, hpt.2.2, List.length_append] at h1; omega
 have hsz := h.size; have hP : RunOk c n D (P ++ [o]) r.S r.E := h.mono (Nat.le_refl _) (Nat.le_refl _) fun _ h => List.mem_append_left _ h; have hoP : o ∈ P ++ [o] := List.mem_append_right _ List.mem_cons_self; have hbt := h.between hmk o.rg.key o.rg.end_
 have hbl : (zay r.S o.rg.key o.rg.end_ (D.rev + 1)).length ≤ c := by
  unfold zay zan; exact Nat.le_trans (List.length_filterMap_le _ _) (Nat.le_trans (List.length_filter_le _ _) hsz)
 have hlv := h.cpl.lives o.rg.key (D.rev + 1) hmark; have hvv := h.doc.ver_has hks' (D.rev + 1) o.rg.key
 have hl1 : (livesS r.S o.rg.key (D.rev + 1)).1 = (hasL ((D.adds r.E).at (D.rev + 1)) o.rg.key).getD kv0 := by
  rw [hlv]; cases hasL ((D.adds r.E).at (D.rev + 1)) o.rg.key <;> rfl
 -- the put
 have hput : o.kind = 1 → DoOk N r.S (zav r.S o (D.rev + 1)) ∧ RunOk (c + 1) (n + 1) D (P ++ [o]) (doS r.S (zav r.S o (D.rev + 1))) (r.E ++ [zav r.S o (D.rev + 1)]) := fun hk => by
  have := hP.event (N := N) (zav r.S o (D.rev + 1)) hD0 rfl htop hmk hl1 (fun e he hke => ?_) hN (.inl ⟨rfl, rfl, o, hoP, hk, rfl⟩)
  · rw [if_pos (show (zav r.S o (D.rev + 1)).kind = 1 from rfl)] at this
    exact this
  have hke' : e.kv.key = o.rg.key := hke
  rcases h.by1 e he with ⟨_, p, hp, hp1, hp2⟩ | ⟨_, ⟨p, hp, hp1, hp2⟩, _⟩
  · have h1 := hap.1 hk p hp
    unfold clash at h1; rw [hp1, hp2, hke'] at h1; simp at h1
  have h1 := hap.1 hk p hp
  unfold clash at h1; rw [← hke', hp1, hp2] at h1; simp at h1
 -- the delete
 have hdel : o.kind = 2 → _ := fun hk => by
  have hL : KSorted (zay r.S o.rg.key o.rg.end_ (D.rev + 1)) := by
   rw [hbt]; exact List.Pairwise.sublist List.filter_sublist (Doc.at_sorted hks' _)
  exact RunOk.dels (N := N) hoP hk hD0 htop hmk (zay r.S o.rg.key o.rg.end_ (D.rev + 1)) hL c n r.S [] r.E hP hN fun x hx => by
   rw [hbt] at hx; obtain ⟨x1, x2⟩ := List.mem_filter.1 hx; have hh := (zbi (Doc.at_sorted hks' _) x.key x).2 ⟨x1, rfl⟩; refine ⟨x2, hh, fun e he hke => ?_, (h.doc.ver_at hks' x1).1⟩; rcases h.by1 e he with ⟨_, p, hp, hp1, hp2⟩ | ⟨_, _, hp3⟩
   · have h1 := hap.2 hk p hp hp1
     unfold clash at h1; rw [hp2, hke, hk, x2] at h1; simp at h1
   rw [hke, hh] at hp3; cases hp3
 have hn1 : (n : Int) ≤ top := by unfold top; omega
 refine ⟨⟨h.ok.mono (by omega), by omega, by omega, ha, hkey, fun hk => ?_, by omega, fun hk j x hx => ?_⟩, ?_⟩
 · rw [hl1]
   exact ⟨hvv.1, by omega, (hput hk).1⟩
 · have hjl := (List.getElem?_eq_some_iff.1 hx).1
   obtain ⟨a, b, c'⟩ := (hdel hk).1 j (by omega); have hd := (hdel hk).2 j x hx; refine ⟨a.ok.mono (by omega), hd, ?_, ?_⟩
   · show ((delR (D.rev + 1) r (zay r.S o.rg.key o.rg.end_ (D.rev + 1)) j).2.1).length ≤ _
     unfold delR; rw [b]; simp; omega
   show ((delR (D.rev + 1) r (zay r.S o.rg.key o.rg.end_ (D.rev + 1)) j).2.2).length ≤ _
   unfold delR; rw [c']; simp; omega
 unfold stepR
 by_cases h1 : o.kind = 1
 · rw [if_pos h1]
   exact (hput h1).2.mono (Nat.le_refl _) (by omega) fun _ h => h
 rw [if_neg h1]
 by_cases h2 : o.kind = 2
 · rw [if_pos h2]
   obtain ⟨a, _, _⟩ := (hdel h2).1 _ (Nat.le_refl _); rw [List.take_length] at a; exact a.mono (by omega) (by omega) fun _ h => h
 rw [if_neg h2]
 by_cases h3 : o.kind = 3
 · rw [if_pos h3]
   exact hP.mono (by omega) (by omega) fun _ h => h
 rw [if_neg h3]
 exact hP.mono (by omega) (by omega) fun _ h => h
structure Good (k : Nat) (S : St) (D : Doc) : Prop where
 cpl : Cpl S D
 doc : DocOk (20000 * k) D
 ok : StOk (20000 * k) S
 size : S.T.length ≤ 16 * k
 srt : Sorted S.T
 more : SMore (20000 * k) S
 rev : S.rev = D.rev
 rev1 : D.rev ≤ k
theorem Good.mono {k m : Nat} {S : St} {D : Doc} (h : Good k S D) (hm : k ≤ m) : Good m S D :=
 { h with doc := h.doc.mono (by omega), ok := h.ok.mono (by omega), size := by have := h.size; omega, more := h.more.mono (by omega), rev1 := by have := h.rev1; omega }
def newS : St := ⟨[], fun _ => none, 0, 0, 0, []⟩
def newD : Doc := ⟨0, 0, [], []⟩
theorem Good.new : Good 0 newS newD where
 cpl := {
  mark := rfl
  events := rfl
  inv := ⟨fun k _ h => by simp [newS, getT] at h, fun k h => by simp [newS, getT] at h, fun i H h => by simp [newS] at h⟩
  ks := List.Pairwise.nil
  m0 := ⟨Int.le_refl 0, Int.le_refl 0⟩
  lives := fun k r _ => rfl }
 doc := {
  es := List.Pairwise.nil
  lo := fun e he => by simp [newD] at he
  full := fun r a _ c => by have c' : r ≤ 0 := c; omega
  uniq := List.Pairwise.nil
  prev := fun A e B h => by simp [newD] at h
  kind := fun e he => by simp [newD] at he
  ver0 := fun e he => by simp [newD] at he
  ver := fun e he => by simp [newD] at he }
 ok := {
  pos := Int.le_refl 0
  next := Int.le_refl 0
  id := fun p hp => by simp [newS] at hp
  ids := fun i H h => by simp [newS] at h
  hist := fun i H h => by simp [newS] at h
  rev0 := by show -top ≤ 0; unfold top; omega
  rev1 := by show 0 ≤ top; unfold top; omega
  mark0 := Int.le_refl 0
  ev := Nat.le_refl 0 }
 size := Nat.le_refl 0
 srt := List.Pairwise.nil
 more := fun i H h => by simp [newS] at h
 rev := rfl
 rev1 := Int.le_refl 0
theorem zcz {ops : List Opr} (h : checkE ops = 0) : ops.length ≤ 16 ∧ (∀ o ∈ ops, oneE o = 0) ∧ ∀ i o, ops[i]? = some o → Apart (ops.take i) o := by
 unfold checkE at h
 split at h
 · cases h
 rename_i hl
 split at h
 · rename_i o ho
   have := List.find?_some ho; rw [h] at this; simp at this
 rename_i hn
 split at h
 · cases h
 rename_i ht
 refine ⟨by omega, fun o ho => by simpa using List.find?_eq_none.1 hn o ho, fun i o hi => ?_⟩
 have htw : ∀ j p, ops[j]? = some p → p.kind = 1 → (∀ q ∈ ops.take j, clash p q = false) ∧ ∀ q ∈ ops.drop (j + 1), clash p q = false := fun j p hj hp => by
  have hjl := (List.getElem?_eq_some_iff.1 hj).1; unfold twice at ht; rw [Bool.not_eq_true, List.any_eq_false] at ht; have h1 := ht j (List.mem_range.2 hjl); unfold zel at h1; rw [hj] at h1; simp only [hp, beq_self_eq_true, Bool.true_and, Bool.or_eq_true, not_or, Bool.not_eq_true, List.any_eq_false] at h1; exact ⟨fun q hq => by simpa using h1.1 q hq, fun q hq => by simpa using h1.2 q hq⟩
 refine ⟨fun ho p hp => (htw i o hi ho).1 p hp, fun ho p hp hp1 => ?_⟩; obtain ⟨j, hj⟩ := List.mem_iff_getElem?.1 hp
 have hji : j < i := by
  have := (List.getElem?_eq_some_iff.1 hj).1; simp at this; omega
 rw [List.getElem?_take, if_pos hji] at hj; refine (htw j p hj hp1).2 o (List.mem_iff_getElem?.2 ⟨i - (j + 1), ?_⟩); rw [List.getElem?_drop, show j + 1 + (i - (j + 1)) = i by omega]; exact hi
theorem StepG.mono {N n m : Nat} {rev : Int} {r : Run} {o : Opr} (h : StepG N n rev r o) (hm : n ≤ m) : StepG N m rev r o :=
 { h with st := h.st.mono hm, del := fun hk j x hx => ⟨(h.del hk j x hx).1.mono hm, (h.del hk j x hx).2⟩ }
theorem zho (rev : Int) (r : Run) (ops : List Opr) {i : Nat} {o : Opr} (h : ops[i]? = some o) : runR rev r (ops.take (i + 1)) = stepR rev (runR rev r (ops.take i)) o := by
 unfold runR; rw [List.take_add_one, h, List.foldl_append]
 rfl
theorem zwo (rev : Int) (r : Run) (o : Opr) : (stepR rev r o).A.length = r.A.length + 1 := by
 unfold stepR
 split
 · simp
 split
 · simp
 split <;> simp
theorem Good.begin {k : Nat} {S : St} {D : Doc} (h : Good k S D) : RunOk (16 * k) (20000 * k) D [] S [] where
 cpl := h.cpl
 doc := h.doc
 ok := h.ok
 size := h.size
 srt := h.srt
 more := h.more
 srev := h.rev
 mods := fun e he => by simp at he
 old := fun e he => (h.doc.lo e he).2.2
 last := fun k _ H hH => .inl (h.cpl.inv.hist _ _ hH).1.2
 by1 := fun e he => by simp at he
theorem Good.runs {k : Nat} {S : St} {D : Doc} (h : Good k S D) (hk : k ≤ 70) {ops : List Opr} (hc : checkE ops = 0) (hks : ∀ o ∈ ops, o.rg.key.size ≤ 1099511627776) :
 ∀ i ≤ ops.length, (RunOk (16 * k + i) (20000 * k + i * (16 * k + 17)) D (ops.take i) (runR (D.rev + 1) ⟨S, [], []⟩ (ops.take i)).S (runR (D.rev + 1) ⟨S, [], []⟩ (ops.take i)).E ∧ (runR (D.rev + 1) ⟨S, [], []⟩ (ops.take i)).A.length = i) ∧
  ∀ o, ops[i]? = some o → StepG 1000000 (20000 * k + 20000) (D.rev + 1) (runR (D.rev + 1) ⟨S, [], []⟩ (ops.take i)) o := by
 obtain ⟨hl, _, hap⟩ := zcz hc; have hm0 := h.cpl.m0; have hr1 := h.rev1; have htop : D.rev + 1 ≤ top := by unfold top; omega
 have key : ∀ i ≤ ops.length, RunOk (16 * k + i) (20000 * k + i * (16 * k + 17)) D (ops.take i) (runR (D.rev + 1) ⟨S, [], []⟩ (ops.take i)).S (runR (D.rev + 1) ⟨S, [], []⟩ (ops.take i)).E ∧ (runR (D.rev + 1) ⟨S, [], []⟩ (ops.take i)).A.length = i := by
  intro i
  induction i with
  | zero => intro _; exact ⟨h.begin.mono (by omega) (by omega) fun _ h => h, rfl⟩
  | succ i ih =>
    intro hi; obtain ⟨a, b⟩ := ih (by omega); obtain ⟨o, ho⟩ : ∃ o, ops[i]? = some o := ⟨_, List.getElem?_eq_getElem (by omega)⟩; have hi16 : i ≤ 15 := (by omega); have hmul : i * (16 * k + 17) ≤ 15 * (16 * k + 17) := Nat.mul_le_mul_right _ hi16; have hs := a.step (N := 1000000) o (by omega) htop hm0.2 (by omega) (hap i o ho) (by omega) (by omega) (hks o (List.mem_of_getElem? ho)); rw [zho _ _ _ ho]; refine ⟨?_, by rw [zwo, b]⟩; have h2 := hs.2; have e1 : (i + 1) * (16 * k + 17) = i * (16 * k + 17) + (16 * k + 17) := (by rw [Nat.succ_mul]); rw [List.take_add_one, ho]; exact h2.mono (by omega) (by omega) fun _ h => h
 intro i hi; refine ⟨key i hi, fun o ho => ?_⟩; obtain ⟨a, b⟩ := key i hi; have hil := (List.getElem?_eq_some_iff.1 ho).1; have hmul : i * (16 * k + 17) ≤ 15 * (16 * k + 17) := Nat.mul_le_mul_right _ (by omega); exact (a.step (N := 1000000) o (by omega) htop hm0.2 (by omega) (hap i o ho) (by omega) (by omega) (hks o (List.mem_of_getElem? ho))).1.mono (by omega)
theorem Cpl.setRev {S : St} {D : Doc} (h : Cpl S D) (r : Int) : Cpl { S with rev := r } D :=
 ⟨h.mark, h.events, ⟨h.inv.inj, h.inv.has, h.inv.hist⟩, h.ks, h.m0, h.lives⟩
theorem znx (rev : Int) (L : List Kv) : ∀ q : St × List Kv × List Ev, (L.foldl (goneR rev) q).2.2 = q.2.2 ++ L.map fun x => goneE x rev := by
 induction L with
 | nil => intro q; simp
 | cons x L ih =>
   intro q; rw [List.foldl_cons, ih]; simp [goneR]
def applyD (S : St) (D : Doc) (ops : List Opr) : Doc := D.adds (runR (D.rev + 1) ⟨S, [], []⟩ ops).E
theorem Good.apply {k : Nat} {S : St} {D : Doc} (h : Good k S D) (hk : k ≤ 70) {ops : List Opr} (hc : checkE ops = 0) (hks : ∀ o ∈ ops, o.rg.key.size ≤ 1099511627776) : Good (k + 1) (applyS S ops) (applyD S D ops) := by
 have hl := (zcz hc).1; obtain ⟨⟨a, b⟩, _⟩ := h.runs hk hc hks ops.length (Nat.le_refl _); rw [List.take_length] at a; have hmul : ops.length * (16 * k + 17) ≤ 16 * (16 * k + 17) := Nat.mul_le_mul_right _ hl; have hD := Doc.adds_rev D (runR (D.rev + 1) ⟨S, [], []⟩ ops).E _ a.mods; have hr := h.rev; have hr1 := h.rev1; unfold applyS applyD; rw [hr]; dsimp only; by_cases hE : (runR (D.rev + 1) ⟨S, [], []⟩ ops).E = []
 · rw [if_pos hE]
   rw [if_pos hE] at hD; exact { cpl := a.cpl, doc := a.doc.mono (by omega), ok := a.ok.mono (by omega), size := by have := a.size; omega, srt := a.srt, more := a.more.mono (by omega), rev := by rw [a.srev, hD], rev1 := by rw [hD]; omega }
 rw [if_neg hE]
 rw [if_neg hE] at hD; have hm0 := h.cpl.m0; exact { cpl := a.cpl.setRev _, doc := a.doc.mono (by omega), ok := (a.ok.mono (by omega)).setRev _ (by unfold top; omega) (by unfold top; omega), size := by have := a.size; dsimp only; omega, srt := a.srt, more := fun i H hi => a.more.mono (by omega) i H hi, rev := hD.symm, rev1 := by rw [hD]; omega }
theorem Doc.adds_at_old (D : Doc) (E : List Ev) {r : Int} (hE : ∀ e ∈ E, r < e.kv.mod) : (D.adds E).at r = D.at r := by
 obtain ⟨a, b, c⟩ := Doc.adds_parts D E
 unfold Doc.at; rw [a, b, c, List.filter_append]; have : (E.filter fun e => decide (D.mark < e.kv.mod) && decide (e.kv.mod ≤ r)) = [] := List.filter_eq_nil_iff.2 fun e he => by have := hE e he; simp; omega
 rw [this, List.append_nil]
end Go.Proofs.YthljnnjpmdgkoaaGreat