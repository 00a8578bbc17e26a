/- Own lemmas and contracts that the claim's proof needs, laid together. The conditions stand in each. -/
import Derived.Test.YthljnnjpmdgkoaaGreatG12
import Derived.Test.YthljnnjpmdgkoaaGreatG09
import Derived.Test.YthljnnjpmdgkoaaGreatG01
import Derived.Deep.CutBlock
import Derived.WalkLawsBesides
namespace Go.Proofs.YthljnnjpmdgkoaaGreat
open Go Go.Proofs Go.RowKit
def delR (rev : Int) (r : Run) (L : List Kv) (j : Nat) : St × List Kv × List Ev := (L.take j).foldl (goneR rev) (r.S, [], r.E)
structure StepG (N n : Nat) (rev : Int) (r : Run) (o : Opr) : Prop where
 st : StOk n r.S
 tree : r.S.T.length ≤ 1099511627
 evs : r.E.length ≤ 1099511627
 ans : r.A.length ≤ 1099511627
 key : o.rg.key.size ≤ 1099511627776
 put : o.kind = 1 → 0 ≤ (livesS r.S o.rg.key rev).1.version ∧ (livesS r.S o.rg.key rev).1.version ≤ top ∧ DoOk N r.S (zay r.S o rev)
 dlen : (zaz r.S o.rg.key o.rg.end_ rev).length ≤ 1099511627
 del : o.kind = 2 → ∀ j x, (zaz r.S o.rg.key o.rg.end_ rev)[j]? = some x →
  let q := delR rev r (zaz r.S o.rg.key o.rg.end_ rev) j
  StOk n q.1 ∧ DoOk N q.1 (goneE x rev) ∧ q.2.1.length ≤ 1099511627 ∧ q.2.2.length ≤ 1099511627
theorem zru {x : Kv} (h : 1 ≤ x.version) (rev : Int) : told (goneE x rev) = [x] := by
 unfold told goneE; dsimp only; rw [if_pos (by omega)]
theorem RunOk.dels {N : Nat} {D : Doc} {P : List Opr} {o : Opr} (ho : o ∈ P) (hk : o.kind = 2) (hD0 : 0 ≤ D.rev) (htop : D.rev + 1 ≤ top) (hmk : D.mark ≤ D.rev) :
 ∀ (L : List Kv) (_ : KSorted L) (c n : Nat) (S : St) (K : List Kv) (E : List Ev) (_ : RunOk c n D P S E) (_ : c < N) (_ : ∀ x ∈ L, inB x.key o.rg.key o.rg.end_ = true ∧ hasL ((D.adds E).at (D.rev + 1)) x.key = some x ∧ (∀ e ∈ E, e.kv.key ≠ x.key) ∧ 1 ≤ x.version),
  (∀ j ≤ L.length, RunOk c (n + L.length) D P ((L.take j).foldl (goneR (D.rev + 1)) (S, K, E)).1 ((L.take j).foldl (goneR (D.rev + 1)) (S, K, E)).2.2 ∧
    ((L.take j).foldl (goneR (D.rev + 1)) (S, K, E)).2.1 = K ++ L.take j ∧ ((L.take j).foldl (goneR (D.rev + 1)) (S, K, E)).2.2 = E ++ (L.take j).map fun x => goneE x (D.rev + 1)) ∧
  ∀ j x, L[j]? = some x → DoOk N ((L.take j).foldl (goneR (D.rev + 1)) (S, K, E)).1 (goneE x (D.rev + 1))
 | [], _, c, n, S, K, E, h, _, _ => by
   refine ⟨fun j _ => ?_, fun j x hx => by simp at hx⟩; simp only [List.take_nil, List.foldl_nil, List.length_nil, Nat.add_zero, List.append_nil, List.map_nil]; exact ⟨h, trivial, trivial⟩
 | x :: L, hL, c, n, S, K, E, h, hN, hx => by
   obtain ⟨l1, l2⟩ := List.pairwise_cons.1 hL; obtain ⟨x1, x2, x3, x4⟩ := hx x List.mem_cons_self; have hpt := Doc.adds_parts D E; have hks : KSorted D.kvs := (by have := h.cpl.ks; rw [hpt.2.1] at this; exact this); have hmark : (D.adds E).mark < D.rev + 1 := (by rw [hpt.1]; omega); have hev := h.event (N := N) (goneE x (D.rev + 1)) hD0 rfl htop hmk (by show x = (hasL ((D.adds E).at (D.rev + 1)) x.key).getD kv0; rw [x2]; rfl) x3 hN (.inr ⟨rfl, ⟨o, ho, hk, x1⟩, by show hasL ((D.adds E).at (D.rev + 1)) x.key ≠ none; rw [x2]; simp⟩)
   have hev2 : RunOk c (n + 1) D P (doS S (goneE x (D.rev + 1))) (E ++ [goneE x (D.rev + 1)]) := by
    have := hev.2; rw [if_neg (by show ¬ (2 : Int) = 1; decide)] at this; exact this
   have hnext := RunOk.dels ho hk hD0 htop hmk L l2 c (n + 1) (doS S (goneE x (D.rev + 1))) (K ++ told (goneE x (D.rev + 1))) (E ++ [goneE x (D.rev + 1)]) hev2 hN fun y hy => by
    obtain ⟨y1, y2, y3, y4⟩ := hx y (List.mem_cons_of_mem _ hy); have hne : y.key ≠ x.key := fun e => by have := l1 y hy; rw [e, zbg] at this; cases this
    refine ⟨y1, ?_, fun e he => ?_, y4⟩
    · rw [Doc.adds_snoc, Doc.add_at _ (goneE x (D.rev + 1)) hmark, if_pos (by show D.rev + 1 ≤ D.rev + 1; omega), zfe (Doc.at_sorted (by rw [hpt.2.1]; exact hks) _), if_neg (fun e : keq y.key (goneE x (D.rev + 1)).kv.key = true => hne (zat.1 e))]
      exact y2
    · rcases List.mem_append.1 he with he | he
      · exact y3 e he
      · rw [List.mem_singleton.1 he]; exact fun e => hne e.symm
   have ht := zru x4 (D.rev + 1); refine ⟨fun j hj => ?_, fun j y hy => ?_⟩
   · cases j with
     | zero =>
       simp only [List.take_zero, List.foldl_nil, List.append_nil, List.map_nil]; exact ⟨h.mono (Nat.le_refl _) (by omega) fun _ h => h, trivial, trivial⟩
     | succ j =>
       obtain ⟨a, b, c'⟩ := hnext.1 j (by simpa using hj); rw [List.take_succ_cons, List.foldl_cons]; refine ⟨?_, ?_, ?_⟩
       · have := a
         rw [show n + (x :: L).length = n + 1 + L.length by simp; omega]; exact this
       · show _ = K ++ x :: L.take j
         rw [show goneR (D.rev + 1) (S, K, E) x = (doS S (goneE x (D.rev + 1)), K ++ told (goneE x (D.rev + 1)), E ++ [goneE x (D.rev + 1)]) from rfl, b, ht]; simp
       · rw [show goneR (D.rev + 1) (S, K, E) x = (doS S (goneE x (D.rev + 1)), K ++ told (goneE x (D.rev + 1)), E ++ [goneE x (D.rev + 1)]) from rfl, c']
         simp
   · cases j with
     | zero =>
       simp only [List.getElem?_cons_zero, Option.some.injEq] at hy; subst hy; exact hev.1
     | succ j =>
       rw [List.getElem?_cons_succ] at hy; rw [List.take_succ_cons, List.foldl_cons]; exact hnext.2 j y hy
def Apart (P : List Opr) (o : Opr) : Prop := (o.kind = 1 → ∀ p ∈ P, clash o p = false) ∧ (o.kind = 2 → ∀ p ∈ P, p.kind = 1 → clash p o = false)
theorem RunOk.between {c n : Nat} {D : Doc} {P : List Opr} {S : St} {E : List Ev} (h : RunOk c n D P S E) (hmk : D.mark ≤ D.rev) (frm upr : ByteArray) :
 zaz S frm upr (D.rev + 1) = ((D.adds E).at (D.rev + 1)).filter fun y => inB y.key frm upr := by
 unfold zaz; rw [h.cpl.between h.srt _ _ (by rw [(Doc.adds_parts D E).1]; omega)]
 congr 1
 funext y
 exact zvu _ _ _
theorem RunOk.step {c n N : Nat} {D : Doc} {P : List Opr} {r : Run} (h : RunOk c n D P r.S r.E) (o : Opr) (hD0 : 0 ≤ D.rev) (htop : D.rev + 1 ≤ top) (hmk : D.mark ≤ D.rev) (hN : c < N) (hap : Apart P o) (hn : n + c ≤ 1099511627)
 (ha : r.A.length ≤ 1099511627) (hkey : o.rg.key.size ≤ 1099511627776) :
 StepG N (n + c) (D.rev + 1) r o ∧ RunOk (c + 1) (n + c + 1) D (P ++ [o]) (stepR (D.rev + 1) r o).S (stepR (D.rev + 1) r o).E := by
 have hpt := Doc.adds_parts D r.E; have hks : KSorted D.kvs := by have := h.cpl.ks; rw [hpt.2.1] at this; exact this
 have hks' : KSorted (D.adds r.E).kvs := by rw [hpt.2.1]; exact hks
 have hmark : (D.adds r.E).mark ≤ D.rev + 1 := by rw [hpt.1]; omega
 have hel : r.E.length ≤ n := by
  have h1 := h.ok.ev; rw [h.cpl.events, hpt.2.2, List.length_append] at h1; omega
 have hsz := h.size; have hP : RunOk c n D (P ++ [o]) r.S r.E := h.mono (Nat.le_refl _) (Nat.le_refl _) fun _ h => List.mem_append_left _ h; have hoP : o ∈ P ++ [o] := List.mem_append_right _ List.mem_cons_self; have hbt := h.between hmk o.rg.key o.rg.end_
 have hbl : (zaz r.S o.rg.key o.rg.end_ (D.rev + 1)).length ≤ c := by
  unfold zaz zam; exact Nat.le_trans (List.length_filterMap_le _ _) (Nat.le_trans (List.length_filter_le _ _) hsz)
 have hlv := h.cpl.lives o.rg.key (D.rev + 1) hmark; have hvv := h.doc.ver_has hks' (D.rev + 1) o.rg.key
 have hl1 : (livesS r.S o.rg.key (D.rev + 1)).1 = (hasL ((D.adds r.E).at (D.rev + 1)) o.rg.key).getD kv0 := by
  rw [hlv]; cases hasL ((D.adds r.E).at (D.rev + 1)) o.rg.key <;> rfl
 -- the put
 have hput : o.kind = 1 → DoOk N r.S (zay r.S o (D.rev + 1)) ∧ RunOk (c + 1) (n + 1) D (P ++ [o]) (doS r.S (zay r.S o (D.rev + 1))) (r.E ++ [zay r.S o (D.rev + 1)]) := fun hk => by
  have := hP.event (N := N) (zay r.S o (D.rev + 1)) hD0 rfl htop hmk hl1 (fun e he hke => ?_) hN (.inl ⟨rfl, rfl, o, hoP, hk, rfl⟩)
  · rw [if_pos (show (zay r.S o (D.rev + 1)).kind = 1 from rfl)] at this
    exact this
  · have hke' : e.kv.key = o.rg.key := hke
    rcases h.by1 e he with ⟨_, p, hp, hp1, hp2⟩ | ⟨_, ⟨p, hp, hp1, hp2⟩, _⟩
    · have h1 := hap.1 hk p hp
      unfold clash at h1; rw [hp1, hp2, hke'] at h1; simp at h1
    · have h1 := hap.1 hk p hp
      unfold clash at h1; rw [← hke', hp1, hp2] at h1; simp at h1
 -- the delete
 have hdel : o.kind = 2 → _ := fun hk => by
  have hL : KSorted (zaz r.S o.rg.key o.rg.end_ (D.rev + 1)) := by
   rw [hbt]; exact List.Pairwise.sublist List.filter_sublist (Doc.at_sorted hks' _)
  exact RunOk.dels (N := N) hoP hk hD0 htop hmk (zaz r.S o.rg.key o.rg.end_ (D.rev + 1)) hL c n r.S [] r.E hP hN fun x hx => by
   rw [hbt] at hx; obtain ⟨x1, x2⟩ := List.mem_filter.1 hx; have hh := (zbw (Doc.at_sorted hks' _) x.key x).2 ⟨x1, rfl⟩; refine ⟨x2, hh, fun e he hke => ?_, (h.doc.ver_at hks' x1).1⟩; rcases h.by1 e he with ⟨_, p, hp, hp1, hp2⟩ | ⟨_, _, hp3⟩
   · have h1 := hap.2 hk p hp hp1
     unfold clash at h1; rw [hp2, hke, hk, x2] at h1; simp at h1
   · rw [hke, hh] at hp3; cases hp3
 have hn1 : (n : Int) ≤ top := by unfold top; omega
 refine ⟨⟨h.ok.mono (by omega), by omega, by omega, ha, hkey, fun hk => ?_, by omega, fun hk j x hx => ?_⟩, ?_⟩
 · rw [hl1]
   exact ⟨hvv.1, by omega, (hput hk).1⟩
 · have hjl := (List.getElem?_eq_some_iff.1 hx).1
   obtain ⟨a, b, c'⟩ := (hdel hk).1 j (by omega); have hd := (hdel hk).2 j x hx; refine ⟨a.ok.mono (by omega), hd, ?_, ?_⟩
   · show ((delR (D.rev + 1) r (zaz r.S o.rg.key o.rg.end_ (D.rev + 1)) j).2.1).length ≤ _
     unfold delR; rw [b]; simp; omega
   · show ((delR (D.rev + 1) r (zaz r.S o.rg.key o.rg.end_ (D.rev + 1)) j).2.2).length ≤ _
     unfold delR; rw [c']; simp; omega
 · unfold stepR
   by_cases h1 : o.kind = 1
   · rw [if_pos h1]
     exact (hput h1).2.mono (Nat.le_refl _) (by omega) fun _ h => h
   · rw [if_neg h1]
     by_cases h2 : o.kind = 2
     · rw [if_pos h2]
       obtain ⟨a, _, _⟩ := (hdel h2).1 _ (Nat.le_refl _); rw [List.take_length] at a; exact a.mono (by omega) (by omega) fun _ h => h
     · rw [if_neg h2]
       by_cases h3 : o.kind = 3
       · rw [if_pos h3]
         exact hP.mono (by omega) (by omega) fun _ h => h
       · rw [if_neg h3]
         exact hP.mono (by omega) (by omega) fun _ h => h
structure Good (k : Nat) (S : St) (D : Doc) : Prop where
 cpl : Cpl S D
 doc : DocOk (20000 * k) D
 ok : StOk (20000 * k) S
 size : S.T.length ≤ 16 * k
 srt : Sorted S.T
 more : SMore (20000 * k) S
 rev : S.rev = D.rev
 rev1 : D.rev ≤ k
theorem Good.mono {k m : Nat} {S : St} {D : Doc} (h : Good k S D) (hm : k ≤ m) : Good m S D :=
 { h with doc := h.doc.mono (by omega), ok := h.ok.mono (by omega), size := by have := h.size; omega, more := h.more.mono (by omega), rev1 := by have := h.rev1; omega }
def newS : St := ⟨[], fun _ => none, 0, 0, 0, []⟩
def newD : Doc := ⟨0, 0, [], []⟩
theorem Good.new : Good 0 newS newD where
 cpl := {
  mark := rfl
  events := rfl
  inv := ⟨fun k _ h => by simp [newS, getT] at h, fun k h => by simp [newS, getT] at h, fun i H h => by simp [newS] at h⟩
  ks := List.Pairwise.nil
  m0 := ⟨Int.le_refl 0, Int.le_refl 0⟩
  lives := fun k r _ => rfl }
 doc := {
  es := List.Pairwise.nil
  lo := fun e he => by simp [newD] at he
  full := fun r a _ c => by have c' : r ≤ 0 := c; omega
  uniq := List.Pairwise.nil
  prev := fun A e B h => by simp [newD] at h
  kind := fun e he => by simp [newD] at he
  ver0 := fun e he => by simp [newD] at he
  ver := fun e he => by simp [newD] at he }
 ok := {
  pos := Int.le_refl 0
  next := Int.le_refl 0
  id := fun p hp => by simp [newS] at hp
  ids := fun i H h => by simp [newS] at h
  hist := fun i H h => by simp [newS] at h
  rev0 := by show -top ≤ 0; unfold top; omega
  rev1 := by show 0 ≤ top; unfold top; omega
  mark0 := Int.le_refl 0
  ev := Nat.le_refl 0 }
 size := Nat.le_refl 0
 srt := List.Pairwise.nil
 more := fun i H h => by simp [newS] at h
 rev := rfl
 rev1 := Int.le_refl 0
theorem zfs {ops : List Opr} (h : checkE ops = 0) : ops.length ≤ 16 ∧ (∀ o ∈ ops, oneE o = 0) ∧ ∀ i o, ops[i]? = some o → Apart (ops.take i) o := by
 unfold checkE at h
 split at h
 · cases h
 · rename_i hl
   split at h
   · rename_i o ho
     have := List.find?_some ho; rw [h] at this; simp at this
   · rename_i hn
     split at h
     · cases h
     · rename_i ht
       refine ⟨by omega, fun o ho => by simpa using List.find?_eq_none.1 hn o ho, fun i o hi => ?_⟩
       have htw : ∀ j p, ops[j]? = some p → p.kind = 1 → (∀ q ∈ ops.take j, clash p q = false) ∧ ∀ q ∈ ops.drop (j + 1), clash p q = false := fun j p hj hp => by
        have hjl := (List.getElem?_eq_some_iff.1 hj).1; unfold twice at ht; rw [Bool.not_eq_true, List.any_eq_false] at ht; have h1 := ht j (List.mem_range.2 hjl); unfold zel at h1; rw [hj] at h1; simp only [hp, beq_self_eq_true, Bool.true_and, Bool.or_eq_true, not_or, Bool.not_eq_true, List.any_eq_false] at h1; exact ⟨fun q hq => by simpa using h1.1 q hq, fun q hq => by simpa using h1.2 q hq⟩
       refine ⟨fun ho p hp => (htw i o hi ho).1 p hp, fun ho p hp hp1 => ?_⟩; obtain ⟨j, hj⟩ := List.mem_iff_getElem?.1 hp
       have hji : j < i := by
        have := (List.getElem?_eq_some_iff.1 hj).1; simp at this; omega
       rw [List.getElem?_take, if_pos hji] at hj; refine (htw j p hj hp1).2 o (List.mem_iff_getElem?.2 ⟨i - (j + 1), ?_⟩); rw [List.getElem?_drop, show j + 1 + (i - (j + 1)) = i by omega]; exact hi
theorem StepG.mono {N n m : Nat} {rev : Int} {r : Run} {o : Opr} (h : StepG N n rev r o) (hm : n ≤ m) : StepG N m rev r o :=
 { h with st := h.st.mono hm, del := fun hk j x hx => ⟨(h.del hk j x hx).1.mono hm, (h.del hk j x hx).2⟩ }
theorem zlg (rev : Int) (r : Run) (ops : List Opr) {i : Nat} {o : Opr} (h : ops[i]? = some o) : runR rev r (ops.take (i + 1)) = stepR rev (runR rev r (ops.take i)) o := by
 unfold runR; rw [List.take_add_one, h, List.foldl_append]
 rfl
theorem zrx (rev : Int) (r : Run) (o : Opr) : (stepR rev r o).A.length = r.A.length + 1 := by
 unfold stepR
 split
 · simp
 · split
   · simp
   · split <;> simp
theorem Good.begin {k : Nat} {S : St} {D : Doc} (h : Good k S D) : RunOk (16 * k) (20000 * k) D [] S [] where
 cpl := h.cpl
 doc := h.doc
 ok := h.ok
 size := h.size
 srt := h.srt
 more := h.more
 srev := h.rev
 mods := fun e he => by simp at he
 old := fun e he => (h.doc.lo e he).2.2
 last := fun k _ H hH => .inl (h.cpl.inv.hist _ _ hH).1.2
 by1 := fun e he => by simp at he
theorem Good.runs {k : Nat} {S : St} {D : Doc} (h : Good k S D) (hk : k ≤ 70) {ops : List Opr} (hc : checkE ops = 0) (hks : ∀ o ∈ ops, o.rg.key.size ≤ 1099511627776) :
 ∀ i ≤ ops.length, (RunOk (16 * k + i) (20000 * k + i * (16 * k + 17)) D (ops.take i) (runR (D.rev + 1) ⟨S, [], []⟩ (ops.take i)).S (runR (D.rev + 1) ⟨S, [], []⟩ (ops.take i)).E ∧ (runR (D.rev + 1) ⟨S, [], []⟩ (ops.take i)).A.length = i) ∧
  ∀ o, ops[i]? = some o → StepG 1000000 (20000 * k + 20000) (D.rev + 1) (runR (D.rev + 1) ⟨S, [], []⟩ (ops.take i)) o := by
 obtain ⟨hl, _, hap⟩ := zfs hc; have hm0 := h.cpl.m0; have hr1 := h.rev1; have htop : D.rev + 1 ≤ top := by unfold top; omega
 have key : ∀ i ≤ ops.length, RunOk (16 * k + i) (20000 * k + i * (16 * k + 17)) D (ops.take i) (runR (D.rev + 1) ⟨S, [], []⟩ (ops.take i)).S (runR (D.rev + 1) ⟨S, [], []⟩ (ops.take i)).E ∧ (runR (D.rev + 1) ⟨S, [], []⟩ (ops.take i)).A.length = i := by
  intro i
  induction i with
  | zero => intro _; exact ⟨h.begin.mono (by omega) (by omega) fun _ h => h, rfl⟩
  | succ i ih =>
    intro hi; obtain ⟨a, b⟩ := ih (by omega); obtain ⟨o, ho⟩ : ∃ o, ops[i]? = some o := ⟨_, List.getElem?_eq_getElem (by omega)⟩; have hi16 : i ≤ 15 := (by omega); have hmul : i * (16 * k + 17) ≤ 15 * (16 * k + 17) := Nat.mul_le_mul_right _ hi16; have hs := a.step (N := 1000000) o (by omega) htop hm0.2 (by omega) (hap i o ho) (by omega) (by omega) (hks o (List.mem_of_getElem? ho)); rw [zlg _ _ _ ho]; refine ⟨?_, by rw [zrx, b]⟩; have h2 := hs.2; have e1 : (i + 1) * (16 * k + 17) = i * (16 * k + 17) + (16 * k + 17) := (by rw [Nat.succ_mul]); rw [List.take_add_one, ho]; exact h2.mono (by omega) (by omega) fun _ h => h
 intro i hi; refine ⟨key i hi, fun o ho => ?_⟩; obtain ⟨a, b⟩ := key i hi; have hil := (List.getElem?_eq_some_iff.1 ho).1; have hmul : i * (16 * k + 17) ≤ 15 * (16 * k + 17) := Nat.mul_le_mul_right _ (by omega); exact (a.step (N := 1000000) o (by omega) htop hm0.2 (by omega) (hap i o ho) (by omega) (by omega) (hks o (List.mem_of_getElem? ho))).1.mono (by omega)
theorem Cpl.setRev {S : St} {D : Doc} (h : Cpl S D) (r : Int) : Cpl { S with rev := r } D :=
 ⟨h.mark, h.events, ⟨h.inv.inj, h.inv.has, h.inv.hist⟩, h.ks, h.m0, h.lives⟩
theorem zwd (rev : Int) (L : List Kv) : ∀ q : St × List Kv × List Ev, (L.foldl (goneR rev) q).2.2 = q.2.2 ++ L.map fun x => goneE x rev := by
 induction L with
 | nil => intro q; simp
 | cons x L ih =>
   intro q; rw [List.foldl_cons, ih]; simp [goneR]
def applyD (S : St) (D : Doc) (ops : List Opr) : Doc := D.adds (runR (D.rev + 1) ⟨S, [], []⟩ ops).E
theorem Good.apply {k : Nat} {S : St} {D : Doc} (h : Good k S D) (hk : k ≤ 70) {ops : List Opr} (hc : checkE ops = 0) (hks : ∀ o ∈ ops, o.rg.key.size ≤ 1099511627776) : Good (k + 1) (applyS S ops) (applyD S D ops) := by
 have hl := (zfs hc).1; obtain ⟨⟨a, b⟩, _⟩ := h.runs hk hc hks ops.length (Nat.le_refl _); rw [List.take_length] at a; have hmul : ops.length * (16 * k + 17) ≤ 16 * (16 * k + 17) := Nat.mul_le_mul_right _ hl; have hD := Doc.adds_rev D (runR (D.rev + 1) ⟨S, [], []⟩ ops).E _ a.mods; have hr := h.rev; have hr1 := h.rev1; unfold applyS applyD; rw [hr]; dsimp only; by_cases hE : (runR (D.rev + 1) ⟨S, [], []⟩ ops).E = []
 · rw [if_pos hE]
   rw [if_pos hE] at hD; exact { cpl := a.cpl, doc := a.doc.mono (by omega), ok := a.ok.mono (by omega), size := by have := a.size; omega, srt := a.srt, more := a.more.mono (by omega), rev := by rw [a.srev, hD], rev1 := by rw [hD]; omega }
 · rw [if_neg hE]
   rw [if_neg hE] at hD; have hm0 := h.cpl.m0; exact { cpl := a.cpl.setRev _, doc := a.doc.mono (by omega), ok := (a.ok.mono (by omega)).setRev _ (by unfold top; omega) (by unfold top; omega), size := by have := a.size; dsimp only; omega, srt := a.srt, more := fun i H hi => a.more.mono (by omega) i H hi, rev := hD.symm, rev1 := by rw [hD]; omega }
def atHow (c : Cmp) (h : Int) : Cmp := { c with how := h }
theorem zqp (S : St) (c : Cmp) (h : Int) : holdsB S (atHow c h) = (cmpE c == 0 && orderC c (seenS S c.key) == sgnI h 0) := rfl
theorem zlp (c : Cmp) (x : Kv) : orderC c x = -1 ∨ orderC c x = 0 ∨ orderC c x = 1 := by
 unfold orderC
 split
 · unfold sgnI; split
   · exact .inl rfl
   · split
     · exact .inr (.inr rfl)
     · exact .inr (.inl rfl)
 · unfold sgnS; split
   · exact .inl rfl
   · split
     · exact .inr (.inr rfl)
     · exact .inr (.inl rfl)
def sidesN (S : St) (c : Cmp) (l : List Int) : Nat := (l.filter fun h => holdsB S (atHow c h)).length
theorem zld (S : St) (c : Cmp) (low high : Int) (h1 : low < 0) (h2 : 0 < high) : sidesN S c [low, 0, high] = if cmpE c = 0 then 1 else 0 := by
 unfold sidesN; simp only [List.filter_cons, List.filter_nil, zqp]; have e1 : sgnI low 0 = -1 := by unfold sgnI; rw [if_pos h1]
 have e2 : sgnI 0 0 = 0 := rfl; have e3 : sgnI high 0 = 1 := by unfold sgnI; rw [if_neg (by omega), if_pos h2]
 rw [e1, e2, e3]; by_cases hE : cmpE c = 0
 · rw [if_pos hE]
   have hb : (cmpE c == 0) = true := beq_iff_eq.2 hE; rw [hb]; rcases zlp c (seenS S c.key) with h | h | h <;> rw [h] <;> rfl
 · rw [if_neg hE]
   have hb : (cmpE c == 0) = false := beq_eq_false_iff_ne.2 hE; rw [hb]
   rfl
theorem ztw (c : Cmp) : txnE [c] [] [] = 0 ↔ cmpE c = 0 := by
 unfold txnE; rw [if_neg (by simp)]; simp only [List.find?_cons, List.find?_nil]; by_cases hE : cmpE c = 0
 · have hb : (cmpE c != 0) = false := by rw [hE]; rfl
   rw [hb]; exact ⟨fun _ => hE, fun _ => rfl⟩
 · have hb : (cmpE c != 0) = true := by rw [bne_iff_ne]; exact hE
   rw [hb]
theorem zmt {TA : zao} {N : Nat} (hT : TreeOk TA N) {n : Nat} (hn : n ≤ 1099511627) (w : World) (s : Nat) (S : St) (F : Nat → Prop) (hS : zaj TA w s S F) (hok : StOk n S) (hN : S.T.length ≤ 1099511627) (hr0 : 0 ≤ S.rev) (c : Cmp)
 (hs : c.key.size ≤ 1099511627776) :
 Calls Tryz.prog 31 #[.pointer (some ⟨s, 0, none⟩), cmpV c] w fun e w' => e = .returned (.bool (holdsB S c)) ∧ Fr No w w' := by
 by_cases hE : cmpE c = 0
 · exact ziq hT hn w s S F hS hok hN hr0 c hs hE
 · have hb : holdsB S c = false := by unfold holdsB; rw [show (cmpE c == 0) = false from beq_eq_false_iff_ne.2 hE]; rfl
   rw [hb]; exact zms w s c hs hE
set_option maxRecDepth 100000
def sameB (x y : Kv) : Bool := keq x.key y.key && (keq x.value y.value && (x.create == y.create && (x.mod == y.mod && (x.version == y.version && x.lease == y.lease))))
theorem zkd (a : ByteArray) : keq a a = true := zat.2 rfl
set_option maxHeartbeats 4000000 in
theorem zcb (w : World) (x y : Kv) : Calls Tryz.prog 82 #[kvV x, kvV y] w fun e w' => e = .returned (.bool (sameB x y)) ∧ Fr No w w' := by
 obtain ⟨x1, x2, x3, x4, x5, x6⟩ := x; obtain ⟨y1, y2, y3, y4, y5, y6⟩ := y; have HR : ∀ b, b = sameB ⟨x1, x2, x3, x4, x5, x6⟩ ⟨y1, y2, y3, y4, y5, y6⟩ → Ending.returned (.bool b) = .returned (.bool (sameB ⟨x1, x2, x3, x4, x5, x6⟩ ⟨y1, y2, y3, y4, y5, y6⟩)) := fun b h => by rw [h]
 have HR2 := H_ HR; clear HR; unfold kvV; dsimp only; generalize hs : sameB ⟨x1, x2, x3, x4, x5, x6⟩ ⟨y1, y2, y3, y4, y5, y6⟩ = sb at *; unfold sameB keq at hs; dsimp only at hs; by_cases h1 : (x1.toList == y1.toList) = true
 · by_cases h2 : (x2.toList == y2.toList) = true
   · by_cases h3 : (x3 == y3) = true
     · by_cases h4 : (x4 == y4) = true
       · by_cases h5 : (x5 == y5) = true
         · by_cases h6 : (x6 == y6) = true
           · rw [h1, h2, h3, h4, h5, h6] at hs
             have HS := H_ hs; clear hs; go_enter Tryz.func82, Tryz.ntmps82; go_wp2; go_ret; exact ⟨HR2.out _ (by rw [← HS.out]; rfl), ((Fr.refl No w).alloc _).alloc _⟩
           · have h6' : (x6 == y6) = false := by simpa using h6
             clear h6; rw [h1, h2, h3, h4, h5, h6'] at hs; have HS := H_ hs; clear hs; go_enter Tryz.func82, Tryz.ntmps82; go_wp2; go_ret; exact ⟨HR2.out _ (by rw [← HS.out]; rfl), ((Fr.refl No w).alloc _).alloc _⟩
         · have h5' : (x5 == y5) = false := by simpa using h5
           clear h5; rw [h1, h2, h3, h4, h5'] at hs; have HS := H_ hs; clear hs; go_enter Tryz.func82, Tryz.ntmps82; go_wp2; go_ret; exact ⟨HR2.out _ (by rw [← HS.out]; rfl), ((Fr.refl No w).alloc _).alloc _⟩
       · have h4' : (x4 == y4) = false := by simpa using h4
         clear h4; rw [h1, h2, h3, h4'] at hs; have HS := H_ hs; clear hs; go_enter Tryz.func82, Tryz.ntmps82; go_wp2; go_ret; exact ⟨HR2.out _ (by rw [← HS.out]; rfl), ((Fr.refl No w).alloc _).alloc _⟩
     · have h3' : (x3 == y3) = false := by simpa using h3
       clear h3; rw [h1, h2, h3'] at hs; have HS := H_ hs; clear hs; go_enter Tryz.func82, Tryz.ntmps82; go_wp2; go_ret; exact ⟨HR2.out _ (by rw [← HS.out]; rfl), ((Fr.refl No w).alloc _).alloc _⟩
   · have h2' : (x2.toList == y2.toList) = false := by simpa using h2
     clear h2; rw [h1, h2'] at hs; have HS := H_ hs; clear hs; go_enter Tryz.func82, Tryz.ntmps82; go_wp2; go_ret; exact ⟨HR2.out _ (by rw [← HS.out]; rfl), ((Fr.refl No w).alloc _).alloc _⟩
 · have h1' : (x1.toList == y1.toList) = false := by simpa using h1
   clear h1; rw [h1'] at hs; have HS := H_ hs; clear hs; go_enter Tryz.func82, Tryz.ntmps82; go_wp2; go_ret; exact ⟨HR2.out _ (by rw [← HS.out]; rfl), ((Fr.refl No w).alloc _).alloc _⟩
set_option maxHeartbeats 4000000 in
theorem zgy (w : World) (v : Value) (L : List Kv) (hv : SlR w 6 kvC v L) (hl : L.length ≤ 1099511627) (key : ByteArray) :
 Calls Tryz.prog 72 #[v, .string key] w fun e w' => e = .returned (kvV ((hasL L key).getD kv0)) ∧ Fr No w w' := by
 obtain ⟨va, vcap, rfl, h1, h2, h3⟩ := hv.shape; have HV := H_ hv; have HA := H_ h3; have hb1 := zad w (Obj.cells #[.string ByteArray.empty, .string ByteArray.empty, .int .i64 0, .int .i64 0, .int .i64 0, .int .i64 0] 99) _ rfl; have HB1 := H_ hb1; have HK0 : Hid (kvV kv0 = .agg #[.string ByteArray.empty, .string ByteArray.empty, .int .i64 0, .int .i64 0, .int .i64 0, .int .i64 0]) := H_ rfl; clear hv h3 hb1; go_enter Tryz.func72, Tryz.ntmps72; go_wp2
 go_loopg [5] L.length (fun g s5 wr => ∃ i : Nat, s5 = .int .i64 i ∧ i + g = L.length ∧ Hid (hasL L key = hasL (L.drop i) key) ∧ Hid (Fr No w wr) ∧ Hid (wr.heap[w.heap.size]? = some (.cells #[.string ByteArray.empty, .string ByteArray.empty, .int .i64 0, .int .i64 0, .int .i64 0, .int .i64 0] 99 (0, 0))))
 case atStart => exact ⟨0, rfl, by simp, H_ rfl, H_ ((Fr.refl No w).alloc _), HB1⟩
 case round =>
  obtain ⟨i, rfl, hi, HH, HF, HB⟩ := hrel; have lb := zaa HB.out; have bf : ∀ j, wr.frozen? ⟨w.heap.size, j, none⟩ = false := fun j => by simp [World.frozen?, HB.out]
  have b0 : wr.cell? ⟨w.heap.size, 0, none⟩ = some (.string ByteArray.empty) := (by simp [World.cell?, HB.out]); have b1 : wr.cell? ⟨w.heap.size, 1, none⟩ = some (.string ByteArray.empty) := (by simp [World.cell?, HB.out]); have b2 : wr.cell? ⟨w.heap.size, 2, none⟩ = some (.int .i64 0) := (by simp [World.cell?, HB.out]); have b3 : wr.cell? ⟨w.heap.size, 3, none⟩ = some (.int .i64 0) := (by simp [World.cell?, HB.out]); have b4 : wr.cell? ⟨w.heap.size, 4, none⟩ = some (.int .i64 0) := (by simp [World.cell?, HB.out]); have b5 : wr.cell? ⟨w.heap.size, 5, none⟩ = some (.int .i64 0) := (by simp [World.cell?, HB.out])
  have hst : ∀ (y : Kv), Fr No w ((((((wr.setCell ⟨w.heap.size, 0, none⟩ (.string y.key)).setCell ⟨w.heap.size, 1, none⟩ (.string y.value)).setCell ⟨w.heap.size, 2, none⟩ (.int .i64 y.create)).setCell ⟨w.heap.size, 3, none⟩ (.int .i64 y.mod)).setCell ⟨w.heap.size, 4, none⟩ (.int .i64 y.version)).setCell ⟨w.heap.size, 5, none⟩ (.int .i64 y.lease)) := fun y =>
   (((((HF.out.setCell (p := ⟨w.heap.size, 0, none⟩) (.inr (Nat.le_refl _)) _).setCell (p := ⟨w.heap.size, 1, none⟩) (.inr (Nat.le_refl _)) _).setCell (p := ⟨w.heap.size, 2, none⟩) (.inr (Nat.le_refl _)) _).setCell (p := ⟨w.heap.size, 3, none⟩) (.inr (Nat.le_refl _)) _).setCell (p := ⟨w.heap.size, 4, none⟩) (.inr (Nat.le_refl _)) _).setCell (p := ⟨w.heap.size, 5, none⟩) (.inr (Nat.le_refl _)) _
  have hbl : ∀ (y : Kv), ((((((wr.setCell ⟨w.heap.size, 0, none⟩ (.string y.key)).setCell ⟨w.heap.size, 1, none⟩ (.string y.value)).setCell ⟨w.heap.size, 2, none⟩ (.int .i64 y.create)).setCell ⟨w.heap.size, 3, none⟩ (.int .i64 y.mod)).setCell ⟨w.heap.size, 4, none⟩ (.int .i64 y.version)).setCell ⟨w.heap.size, 5, none⟩ (.int .i64 y.lease)).heap[w.heap.size]? = some (.cells #[.string y.key, .string y.value, .int .i64 y.create, .int .i64 y.mod, .int .i64 y.version, .int .i64 y.lease] 99 (0, 0)) := fun y => by
   have z1 := zac HB.out 0 (.string y.key); have z2 := zac z1 1 (.string y.value); have z3 := zac z2 2 (.int .i64 y.create); have z4 := zac z3 3 (.int .i64 y.mod); have z5 := zac z4 4 (.int .i64 y.version); have z6 := zac z5 5 (.int .i64 y.lease); simpa using z6
  have HST := H_ hst; have HBL := H_ hbl; clear hst hbl
  cases gk with
  | zero =>
    have hil : ¬ (i : Int) < (L.length : Int) := (by omega); have hn : (hasL L key).getD kv0 = kv0 := (by rw [HH.out, List.drop_of_length_le (by omega)]; rfl); have HN := H_ hn; clear hn; go_wp2; rw [HN.out]; exact bodyPost_ret (results_cell_row rfl _ _ w.heap.size 99 _ (0, 0) _ rfl (HBL.out kv0) Tryz.underlying99 rfl (by kernel_rfl)) rfl ⟨rfl, HST.out kv0⟩
  | succ g =>
    have hil : (i : Int) < (L.length : Int) := (by omega); obtain ⟨x, hx⟩ : ∃ x, L[i]? = some x := ⟨_, List.getElem?_eq_getElem (by omega)⟩; obtain ⟨ga, oa, rfl⟩ := HA.out (by omega)
    have hd : L.drop i = x :: L.drop (i + 1) := by
     obtain ⟨i1, i2⟩ := List.getElem?_eq_some_iff.1 hx; rw [← i2]; exact List.drop_eq_getElem_cons i1
    have hh := HH.out; rw [hd] at hh; unfold hasL at hh; rw [List.find?_cons] at hh; have hua := HV.out.fr0 HF.out; have f0 := hua.cell0 zaf i hx rfl; have f1 := hua.cell zaf i 1 hx rfl; have f2 := hua.cell zaf i 2 hx rfl; have f3 := hua.cell zaf i 3 hx rfl; have f4 := hua.cell zaf i 4 hx rfl; have f5 := hua.cell zaf i 5 hx rfl; have lf := World.block_lt_of_cell? _ _ f0
    cases hk : keq x.key key with
    | true =>
      rw [hk] at hh; dsimp only at hh; have hn : (hasL L key).getD kv0 = x := (by unfold hasL; rw [hh]; rfl); have HN := H_ hn; have hk' : (x.key.toList == key.toList) = true := hk; clear hn hh hx hua hd hk HH; obtain ⟨x1, x2, x3, x4, x5, x6⟩ := x; dsimp only at f0 f1 f2 f3 f4 f5 hk'; go_wp2; rw [HN.out]; exact bodyPost_ret (results_cell_row rfl _ _ w.heap.size 99 _ (0, 0) _ rfl (HBL.out ⟨x1, x2, x3, x4, x5, x6⟩) Tryz.underlying99 rfl (by kernel_rfl)) rfl ⟨rfl, HST.out ⟨x1, x2, x3, x4, x5, x6⟩⟩
    | false =>
      rw [hk] at hh; dsimp only at hh; have HN : Hid (hasL L key = hasL (L.drop (i + 1)) key) := H_ (by unfold hasL; exact hh); have hk' : (x.key.toList == key.toList) = false := hk; clear hh hx hua hd hk HH b0 b1 b2 b3 b4 b5 bf f1 f2 f3 f4 f5; generalize x.key = xk at *; go_wp2; go_roundg g
      case rel => exact ⟨i + 1, by go_num, by omega, HN, HF, HB⟩
      case measure => omega
end Go.Proofs.YthljnnjpmdgkoaaGreat