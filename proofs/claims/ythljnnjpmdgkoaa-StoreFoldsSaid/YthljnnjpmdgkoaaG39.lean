/- What StoreFolds needs in plain terms: keys are right (KeysOk), a map that has a sorted list of Kvs, the events fold to what lives. No program is run. The events behind the mark, one behind the other: their revisions, what was there ahead, what lives in the end. Plain facts; no program is run. The statement StoreRefuses's function returns true, whatever its arguments are. Helps of StoreFolds' walk: State with what it means, a map's length, Kvs compared. -/
import Derived.Test.YthljnnjpmdgkoaaG22
import Derived.Test.YthljnnjpmdgkoaaG38
import Derived.Test.YthljnnjpmdgkoaaG19
import Derived.Test.YthljnnjpmdgkoaaG29
import Derived.Test.YthljnnjpmdgkoaaG30
namespace Go.Proofs.Ythljnnjpmdgkoaa
open Go Go.Proofs Go.RowKit

/-- What a map of Kvs has. -/
def kvF (L : List Kv) (k : ByteArray) : Option Value := (hasL L k).map kvV
theorem MapL.size {w : World} {b : Nat} {L : List Kv} (h : MapS w b (kvF L)) (hs : KSorted L) : ∃ es clock, w.heap[b]? = some (.map es clock) ∧ es.size = L.length := by
  obtain ⟨es, clock, hb, hst, h1, h2⟩ := h
  refine ⟨es, clock, hb, ?_⟩
  have hnd : es.toList.Pairwise (fun x y => x.key ≠ y.key) := ((MapKept.stamped_iff _ _).1 hst).2.2
  have a := by
    classical
    exact nodup_le (es.toList.map (·.key)) (L.map fun y => Value.string y.key) (by unfold List.Nodup; rw [List.pairwise_map]; exact hnd) fun x hx => by
      obtain ⟨e, he, rfl⟩ := List.mem_map.1 hx
      obtain ⟨n, e1, _, e2⟩ := h1 e he
      unfold kvF at e2
      cases hh : hasL L n with
      | none => rw [hh] at e2; cases e2
      | some y =>
        obtain ⟨a, b⟩ := (hasL_iff hs n y).1 hh
        exact List.mem_map.2 ⟨y, a, by rw [b]; exact e1.symm⟩
  have b' := by
    classical
    exact nodup_le (L.map fun y => Value.string y.key) (es.toList.map (·.key)) (by
        unfold List.Nodup
        rw [List.pairwise_map]
        refine List.Pairwise.imp (fun {p q} hpq e => ?_) hs
        have : p.key = q.key := by simpa using e
        rw [this, klt_irrefl] at hpq
        cases hpq) fun x hx => by
      obtain ⟨y, hy, rfl⟩ := List.mem_map.1 hx
      obtain ⟨e, he, e1, _⟩ := h2 y.key (kvV y) (by unfold kvF; rw [(hasL_iff hs y.key y).2 ⟨hy, rfl⟩]; rfl)
      exact List.mem_map.2 ⟨e, he, e1⟩
  simp only [List.length_map, Array.length_toList] at a b'
  omega

/-- All keys of a document's store are right. -/
structure KeysOk (D : Doc) : Prop where
  kvs : ∀ k ∈ D.kvs, keyE k.key = 0
  evs : ∀ e ∈ D.events, keyE e.kv.key = 0
theorem KeysOk.at {D : Doc} (h : KeysOk D) (hs : KSorted D.kvs) {r : Int} {y : Kv} (hy : y ∈ D.at r) : keyE y.key = 0 := by
  rcases Doc.mem_at hs hy with h1 | ⟨e, h1, _, rfl⟩
  · exact h.kvs y h1
  · exact h.evs e h1
theorem KeysOk.add {D : Doc} (h : KeysOk D) {x : Ev} (hx : keyE x.kv.key = 0) : KeysOk (D.add x) :=
  ⟨h.kvs, fun e he => by
    rcases List.mem_append.1 he with he | he
    · exact h.evs e he
    · rw [List.mem_singleton.1 he]; exact hx⟩
theorem KeysOk.cut {D : Doc} (h : KeysOk D) (hs : KSorted D.kvs) (R : Int) : KeysOk (D.cut R) :=
  ⟨fun _k hk => h.at hs hk, fun e he => h.evs e (List.mem_filter.1 he).1⟩
theorem KeysOk.adds {D : Doc} (h : KeysOk D) {E : List Ev} (hE : ∀ e ∈ E, keyE e.kv.key = 0) : KeysOk (D.adds E) := by
  obtain ⟨a, b, c⟩ := Doc.adds_parts D E
  refine ⟨by rw [b]; exact h.kvs, fun e he => ?_⟩
  rw [c] at he
  rcases List.mem_append.1 he with he | he
  · exact h.evs e he
  · exact hE e he
theorem oneE_put {o : Opr} (h : oneE o = 0) (hk : o.kind = 1) : keyE o.rg.key = 0 := by
  unfold oneE at h
  rw [if_neg (by rw [hk]; decide), if_neg (by rw [hk]; decide), if_pos hk] at h
  split at h
  · rename_i hn; exact absurd h hn
  · rename_i hn; exact Classical.not_not.1 hn

theorem RunOk.ks {c n : Nat} {D : Doc} {P : List Opr} {S : St} {E : List Ev} (h : RunOk c n D P S E) : KSorted D.kvs := by
  have := h.cpl.ks
  rwa [(Doc.adds_parts D E).2.1] at this
/-- The keys of the events of a step are right. -/
theorem keys_step {c n : Nat} {D : Doc} {P : List Opr} {r : Run} (h : RunOk c n D P r.S r.E) (hD : KeysOk D) (hmk : D.mark ≤ D.rev) (o : Opr) (ho : oneE o = 0) (hE : ∀ e ∈ r.E, keyE e.kv.key = 0) :
    ∀ e ∈ (stepR (D.rev + 1) r o).E, keyE e.kv.key = 0 := by
  have hks := h.ks
  unfold stepR
  by_cases h1 : o.kind = 1
  · rw [if_pos h1]
    intro e he
    rcases List.mem_append.1 he with he | he
    · exact hE e he
    · rw [List.mem_singleton.1 he]
      exact oneE_put ho h1
  · rw [if_neg h1]
    by_cases h2 : o.kind = 2
    · rw [if_pos h2]
      intro e he
      dsimp only at he
      rw [goneR_E] at he
      rcases List.mem_append.1 he with he | he
      · exact hE e he
      · obtain ⟨x, hx, rfl⟩ := List.mem_map.1 he
        rw [h.between hmk] at hx
        exact KeysOk.at (y := x) (hD.adds hE) (by rw [(Doc.adds_parts D r.E).2.1]; exact hks) (List.mem_filter.1 hx).1
    · rw [if_neg h2]
      split <;> exact hE
theorem Good.keys_does {k : Nat} {S : St} {D : Doc} (h : Good k S D) (hk : k ≤ 70) {q : CalQ} (hq : fewCal q = true) (hD : KeysOk D) : KeysOk (doD S D q) := by
  obtain ⟨f1, f2, f3, f4, f5⟩ := few_parts hq
  have hm0 := h.cpl.m0
  unfold doD
  by_cases h4 : kindN q.1.kind = 4
  · rw [if_pos h4]; exact hD
  · rw [if_neg h4]
    by_cases h5 : kindN q.1.kind = 5
    · rw [if_pos h5]
      split
      · exact hD.cut h.cpl.ks _
      · exact hD
    · rw [if_neg h5]
      by_cases h6 : kindN q.1.kind = 6
      · rw [if_pos h6]; exact hD
      · rw [if_neg h6]
        by_cases h7 : kindN q.1.kind = 7
        · rw [if_pos h7]
          refine hD.adds ?_
          have key : ∀ i ≤ q.2.2.length, ∀ e ∈ (dropTo (D.rev + 1) S q.2.2 i).2, keyE e.kv.key = 0 := by
            intro i
            induction i with
            | zero => intro _ e he; simp [dropTo] at he
            | succ i ih =>
              intro hi
              obtain ⟨x, hx⟩ : ∃ x, q.2.2[i]? = some x := ⟨_, List.getElem?_eq_getElem (by omega)⟩
              obtain ⟨a, _⟩ := h.drops hk q.2.2 f3 i (by omega)
              have ih' := ih (by omega)
              rw [dropTo_succ _ _ _ hx]
              unfold dropR
              split
              · rename_i hlv
                intro e he
                rcases List.mem_append.1 he with he | he
                · exact ih' e he
                · rw [List.mem_singleton.1 he]
                  show keyE x = 0
                  have hl := a.cpl.lives x (D.rev + 1) (by rw [(Doc.adds_parts D _).1]; omega)
                  cases hh : hasL ((D.adds (dropTo (D.rev + 1) S q.2.2 i).2).at (D.rev + 1)) x with
                  | none => rw [hl, hh] at hlv; cases hlv
                  | some y =>
                    have hks : KSorted (D.adds (dropTo (D.rev + 1) S q.2.2 i).2).kvs := by rw [(Doc.adds_parts D _).2.1]; exact h.cpl.ks
                    obtain ⟨y1, y2⟩ := (hasL_iff (Doc.at_sorted hks _) x y).1 hh
                    rw [← y2]
                    exact (hD.adds ih').at hks y1
              · exact ih'
          have := key q.2.2.length (Nat.le_refl _)
          have he : dropTo (D.rev + 1) S q.2.2 q.2.2.length = q.2.2.foldl (dropR (D.rev + 1)) (S, []) := by unfold dropTo; rw [List.take_length]
          rw [he] at this
          exact this
        · rw [if_neg h7]
          by_cases ha : applyE S q.2.1 = 0
          · rw [if_pos ha]
            refine hD.adds ?_
            obtain ⟨_, hone, _⟩ := check_parts (applyE_zero ha).1
            have key : ∀ i ≤ q.2.1.length, ∀ e ∈ (runR (D.rev + 1) ⟨S, [], []⟩ (q.2.1.take i)).E, keyE e.kv.key = 0 := by
              intro i
              induction i with
              | zero => intro _ e he; simp [runR] at he
              | succ i ih =>
                intro hi
                obtain ⟨o, ho⟩ : ∃ o, q.2.1[i]? = some o := ⟨_, List.getElem?_eq_getElem (by omega)⟩
                obtain ⟨⟨a, _⟩, _⟩ := h.runs hk (applyE_zero ha).1 (fun o ho => by have := (f1 o ho).1; omega) i (by omega)
                rw [runR_snoc _ _ _ ho]
                exact keys_step a hD hm0.2 o (hone o (List.mem_of_getElem? ho)) (ih (by omega))
            have := key q.2.1.length (Nat.le_refl _)
            rw [List.take_length] at this
            exact this
          · rw [if_neg ha]; exact hD
theorem dones_keys {l : List CalQ} (h : fewCals l = true) : ∀ i ≤ l.length, KeysOk (donesT l i).2 := by
  obtain ⟨h1, h2⟩ := fewCals_parts h
  have hg := dones_good h
  intro i
  induction i with
  | zero => intro _; exact ⟨fun k hk => by simp [donesT, newD] at hk, fun e he => by simp [donesT, newD] at he⟩
  | succ i ih =>
    intro hi
    obtain ⟨q, hq⟩ : ∃ q, l[i]? = some q := ⟨_, List.getElem?_eq_getElem (by omega)⟩
    rw [donesT_succ l hq]
    exact (hg i (by omega)).keys_does (by omega) (h2 q (List.mem_of_getElem? hq)) (ih (by omega))

/-- A right key is one of all keys. -/
theorem inB_right {k : ByteArray} (h : keyE k = 0) : inB k ⟨#[1]⟩ ⟨#[0]⟩ = true ∧ k.size ≤ 64 := by
  have hk : ¬ (runes k < 1 ∨ 0 ≤ firstIdx k 0) ∧ ¬ 64 < k.size := by
    unfold keyE at h
    split at h
    · cases h
    · rename_i h1
      split at h
      · cases h
      · rename_i h2; exact ⟨h1, h2⟩
  refine ⟨?_, by omega⟩
  have hz : k.data.toList.any (· == 0) = false := by
    rw [← Go.firstIdx_nonneg]
    simp only [decide_eq_false_iff_not]
    exact fun h => hk.1 (.inr h)
  have hr : ¬ runes k < 1 := fun h => hk.1 (.inl h)
  have hlt : klt k ⟨#[1]⟩ = false := by
    rw [Bool.eq_false_iff]
    intro hlt
    have h1 := klt_iff.1 hlt
    cases hl : k.data.toList with
    | nil =>
      refine hr ?_
      have : k.size = 0 := by
        have := congrArg List.length hl
        simpa using this
      unfold runes
      rw [this]
      show (0 : Int) < 1
      decide
    | cons a t =>
      rw [hl] at h1 hz
      simp only [List.any_cons, Bool.or_eq_false_iff, beq_eq_false_iff_ne] at hz
      have h2 : a :: t < [1] := h1
      rw [List.cons_lt_cons_iff] at h2
      rcases h2 with h2 | ⟨_, h2⟩
      · refine hz.1 ?_
        rw [UInt8.lt_iff_toNat_lt] at h2
        have h3 : a.toNat = 0 := by
          have : (1 : UInt8).toNat = 1 := rfl
          omega
        exact UInt8.toNat_inj.1 h3
      · exact absurd h2 (List.not_lt_nil _)
  unfold inB
  rw [if_neg (by rw [Lib.toList_data]; simp), if_pos (by rw [Lib.toList_data]; rfl)]
  have : Op.bytesLess k.toList (⟨#[1]⟩ : ByteArray).toList = klt k ⟨#[1]⟩ := rfl
  rw [this, hlt]
  rfl
/-- What lived at the mark. -/
theorem state_kvs {k : Nat} {S : St} {D : Doc} (h : Good k S D) : betweenL S S.T S.mark = D.kvs := by
  have hm := h.cpl.mark
  have h1 := h.cpl.between h.srt ⟨#[]⟩ ⟨#[]⟩ (r := D.mark) (Int.le_refl _)
  rw [rangeT_all] at h1
  rw [hm, h1]
  have h2 : (D.at D.mark).filter (fun y => rgB ⟨#[]⟩ ⟨#[]⟩ y.key) = D.at D.mark := by
    rw [List.filter_eq_self]
    intro y _
    unfold rgB
    rw [klt_empty]
    simp [Lib.toList_data]
  rw [h2]
  unfold Doc.at
  have : (D.events.filter fun e => decide (D.mark < e.kv.mod) && decide (e.kv.mod ≤ D.mark)) = [] := List.filter_eq_nil_iff.2 fun e _ => by simp <;> omega
  rw [this]
  rfl
end Go.Proofs.Ythljnnjpmdgkoaa

namespace Go.Proofs.Ythljnnjpmdgkoaa
open Go Go.Proofs Go.RowKit

/-- The revision ahead of the i-th event. -/
def revAt (D : Doc) (i : Nat) : Int := if i = 0 then max D.mark 1 - 1 else match D.events[i - 1]? with
  | some p => p.kv.mod
  | none => 0
/-- What lives ahead of the i-th event. -/
def foldTo (D : Doc) (i : Nat) : List Kv := ((D.events.take i).filter fun y => decide (D.mark < y.kv.mod)).foldl doneL D.kvs
theorem esorted_get {l : List Ev} (h : ESorted l) {i j : Nat} {a b : Ev} (hi : l[i]? = some a) (hj : l[j]? = some b) (hij : i ≤ j) : a.kv.mod ≤ b.kv.mod := by
  obtain ⟨i1, i2⟩ := List.getElem?_eq_some_iff.1 hi
  obtain ⟨j1, j2⟩ := List.getElem?_eq_some_iff.1 hj
  rcases Nat.lt_or_eq_of_le hij with e | e
  · have := List.pairwise_iff_getElem.1 h i j i1 j1 e
    rw [i2, j2] at this
    exact this
  · subst e
    rw [i2] at j2
    rw [j2]
    exact Int.le_refl _
theorem DocOk.chain {n : Nat} {D : Doc} (h : DocOk n D) (hm0 : 0 ≤ D.mark) {i : Nat} {e : Ev} (he : D.events[i]? = some e) : e.kv.mod = revAt D i ∨ e.kv.mod = revAt D i + 1 := by
  have hlo := h.lo e (List.mem_of_getElem? he)
  unfold revAt
  by_cases hi : i = 0
  · rw [if_pos hi]
    subst hi
    right
    have hge : max D.mark 1 ≤ e.kv.mod := by omega
    rcases Int.lt_or_le (max D.mark 1) e.kv.mod with hlt | hle
    · exfalso
      obtain ⟨y, hy, hy2⟩ := h.full (max D.mark 1) (by omega) (by omega) (by omega)
      obtain ⟨j, hj⟩ := List.mem_iff_getElem?.1 hy
      have := esorted_get h.es he hj (Nat.zero_le _)
      omega
    · omega
  · rw [if_neg hi]
    have hil := (List.getElem?_eq_some_iff.1 he).1
    obtain ⟨p, hp⟩ : ∃ p, D.events[i - 1]? = some p := ⟨_, List.getElem?_eq_getElem (by omega)⟩
    rw [hp]
    dsimp only
    have hplo := h.lo p (List.mem_of_getElem? hp)
    have hpe := esorted_get h.es hp he (by omega)
    rcases Int.lt_or_le (p.kv.mod + 1) e.kv.mod with hlt | hle
    · exfalso
      obtain ⟨y, hy, hy2⟩ := h.full (p.kv.mod + 1) (by omega) (by omega) (by omega)
      obtain ⟨j, hj⟩ := List.mem_iff_getElem?.1 hy
      rcases Nat.lt_or_ge j i with e1 | e1
      · have := esorted_get h.es hj hp (by omega); omega
      · have := esorted_get h.es he hj e1; omega
    · omega
theorem revAt_succ {D : Doc} {i : Nat} {e : Ev} (he : D.events[i]? = some e) : revAt D (i + 1) = e.kv.mod := by
  unfold revAt
  rw [if_neg (by omega), Nat.add_sub_cancel, he]
theorem DocOk.revAt_last {n : Nat} {D : Doc} (h : DocOk n D) (hm0 : 0 ≤ D.mark) (hm1 : D.mark ≤ D.rev) : revAt D D.events.length = D.rev := by
  rcases Nat.eq_zero_or_pos D.events.length with h0 | h0
  · have hr : D.rev = 0 := by
      rcases Int.lt_or_le D.rev 1 with h1 | h1
      · omega
      · obtain ⟨y, hy, _⟩ := h.full D.rev h1 hm1 (Int.le_refl _)
        rw [List.eq_nil_of_length_eq_zero h0] at hy
        cases hy
    unfold revAt
    rw [if_pos h0]
    omega
  · obtain ⟨e, he⟩ : ∃ e, D.events[D.events.length - 1]? = some e := ⟨_, List.getElem?_eq_getElem (by omega)⟩
    have h1 := revAt_succ he
    rw [Nat.sub_add_cancel (by omega)] at h1
    rw [h1]
    have hlo := h.lo e (List.mem_of_getElem? he)
    obtain ⟨y, hy, hy2⟩ := h.full D.rev (by omega) hm1 (Int.le_refl _)
    obtain ⟨j, hj⟩ := List.mem_iff_getElem?.1 hy
    have hjl := (List.getElem?_eq_some_iff.1 hj).1
    have := esorted_get h.es hj he (by omega)
    omega
theorem foldTo_sorted {D : Doc} (h : KSorted D.kvs) (i : Nat) : KSorted (foldTo D i) := foldl_doneL_sorted h _
theorem foldTo_zero (D : Doc) : foldTo D 0 = D.kvs := by simp [foldTo]
theorem foldTo_mark {D : Doc} {i : Nat} {e : Ev} (he : D.events[i]? = some e) (hm : ¬ D.mark < e.kv.mod) : foldTo D (i + 1) = foldTo D i := by
  unfold foldTo
  rw [List.take_add_one, he, List.filter_append]
  simp [hm]
theorem foldTo_does {D : Doc} {i : Nat} {e : Ev} (he : D.events[i]? = some e) (hm : D.mark < e.kv.mod) : foldTo D (i + 1) = doneL (foldTo D i) e := by
  unfold foldTo
  rw [List.take_add_one, he, List.filter_append, List.foldl_append]
  simp [hm]
theorem foldTo_all {n : Nat} {D : Doc} (h : DocOk n D) : foldTo D D.events.length = D.at D.rev := by
  rw [Doc.at_all (fun e he => (h.lo e he).2.2) (Int.le_refl _)]
  unfold foldTo
  rw [List.take_length]
theorem DocOk.prev_at {n : Nat} {D : Doc} (h : DocOk n D) {i : Nat} {e : Ev} (he : D.events[i]? = some e) (hm : D.mark < e.kv.mod) : e.prev = (hasL (foldTo D i) e.kv.key).getD kv0 := by
  obtain ⟨hi, hv⟩ := List.getElem?_eq_some_iff.1 he
  refine h.prev (D.events.take i) e (D.events.drop (i + 1)) ?_ hm
  have := List.take_append_drop i D.events
  rw [List.drop_eq_getElem_cons hi, hv] at this
  exact this.symm
theorem DocOk.uniq_at {n : Nat} {D : Doc} (h : DocOk n D) {i j : Nat} {a b : Ev} (hi : D.events[i]? = some a) (hj : D.events[j]? = some b) (hij : i < j) (he : a.kv.mod = b.kv.mod) : a.kv.key ≠ b.kv.key := by
  obtain ⟨i1, i2⟩ := List.getElem?_eq_some_iff.1 hi
  obtain ⟨j1, j2⟩ := List.getElem?_eq_some_iff.1 hj
  have := List.pairwise_iff_getElem.1 h.uniq i j i1 j1 hij
  rw [i2, j2] at this
  exact this he
/-- What a map has behind an event. -/
theorem kvF_put {L : List Kv} (h : KSorted L) {e : Ev} (hk : e.kind = 1) : kvF (doneL L e) = fun m => if m = e.kv.key then some (kvV e.kv) else kvF L m := by
  funext m
  unfold kvF
  rw [hasL_doneL h, if_pos hk]
  by_cases hm : m = e.kv.key
  · rw [if_pos (keq_iff.2 hm), if_pos hm]; rfl
  · rw [if_neg fun c => hm (keq_iff.1 c), if_neg hm]
theorem kvF_del {L : List Kv} (h : KSorted L) {e : Ev} (hk : e.kind ≠ 1) : kvF (doneL L e) = fun m => if m = e.kv.key then none else kvF L m := by
  funext m
  unfold kvF
  rw [hasL_doneL h, if_neg hk]
  by_cases hm : m = e.kv.key
  · rw [if_pos (keq_iff.2 hm), if_pos hm]; rfl
  · rw [if_neg fun c => hm (keq_iff.1 c), if_neg hm]
/-- What a map has when one key more of a sorted list was laid in. -/
theorem kvF_take {L : List Kv} (h : KSorted L) {i : Nat} {y : Kv} (hy : L[i]? = some y) : kvF (L.take (i + 1)) = fun m => if m = y.key then some (kvV y) else kvF (L.take i) m := by
  have hs1 : KSorted (L.take (i + 1)) := List.Pairwise.sublist (List.take_sublist _ _) h
  have hs0 : KSorted (L.take i) := List.Pairwise.sublist (List.take_sublist _ _) h
  have hmem : ∀ z, z ∈ L.take (i + 1) ↔ z ∈ L.take i ∨ z = y := fun z => by
    rw [List.take_add_one, hy]
    simp
  funext m
  unfold kvF
  by_cases hm : m = y.key
  · rw [if_pos hm, (hasL_iff hs1 m y).2 ⟨(hmem y).2 (.inr rfl), hm.symm⟩]
    rfl
  · rw [if_neg hm]
    congr 1
    refine opt_ext fun z => ?_
    rw [hasL_iff hs1, hasL_iff hs0, hmem]
    constructor
    · rintro ⟨h1 | h1, h2⟩
      · exact ⟨h1, h2⟩
      · rw [h1] at h2; exact absurd h2.symm hm
    · rintro ⟨h1, h2⟩; exact ⟨.inl h1, h2⟩
theorem kvF_look {L : List Kv} (k : ByteArray) : (kvF L k).getD (kvV kv0) = kvV ((hasL L k).getD kv0) := by
  unfold kvF
  cases hasL L k <;> rfl
theorem allD_all {n : Nat} {D : Doc} (_ : DocOk n D) (hk : KeysOk D) (hs : KSorted D.kvs) (r : Int) : allD D r = D.at r := by
  unfold allD
  rw [List.filter_eq_self]
  exact fun y hy => (inB_right (hk.at hs hy)).1
end Go.Proofs.Ythljnnjpmdgkoaa

namespace Go.Proofs.Ythljnnjpmdgkoaa
open Go Go.Proofs Go.RowKit
set_option maxRecDepth 100000

end Go.Proofs.Ythljnnjpmdgkoaa

namespace Go.Proofs.Ythljnnjpmdgkoaa
open Go Go.Proofs Go.RowKit
set_option maxRecDepth 100000

/-- State, by the document's store. -/
theorem State_calls3 {TA : TreeRel} (hT : TreeOk TA 1000000) {k : Nat} {S : St} {D : Doc} (h : Good k S D) (hk : k ≤ 70) (w : World) (s : Nat) (F : Nat → Prop) (hS : StoreAt TA w s S F) :
    Calls Try.prog 37 #[.pointer (some ⟨s, 0, none⟩)] w fun e w' => ∃ a1 c1 a2 c2, e = .returned (stateV D.rev D.mark (.slice a1 D.kvs.length c1) (.slice a2 D.events.length c2)) ∧ SlF w' 57 6 kvC (.slice a1 D.kvs.length c1) D.kvs ∧ SlF w' 73 13 evC (.slice a2 D.events.length c2) D.events ∧ Fr No w w' := by
  refine (State_calls hT (n := 20000 * k) (by omega) w s S F hS h.ok (by have := h.size; omega)).mono ?_
  rintro e w' ⟨kv, ev, rfl, h1, h2, h3, h4, h5⟩
  rw [state_kvs h] at h1
  rw [h.cpl.events] at h2
  obtain ⟨a1, c1, rfl, _, _, _⟩ := h1.shape
  obtain ⟨a2, c2, rfl, _, _, _⟩ := h2.shape
  exact ⟨a1, c1, a2, c2, by rw [h.rev, h.cpl.mark], h1, h2, h3⟩
/-- len of a map of Kvs. -/
theorem run_lenS {w : World} {m : Nat} {L : List Kv} (h : MapS w m (kvF L)) (hs : KSorted L) (ty : TypeId) : (Builtin.len_ #[71] ty #[.map (some m)]).run Try.prog w = .ok (goInt L.length) w := by
  obtain ⟨es, clock, hb, he⟩ := MapL.size h hs
  rw [Go.run_len_map w 71 ty m es clock Try.underlying71 hb, he]
theorem run_neqKv (w : World) (x : Kv) : (Go.binOp .neq 57 (kvV x) (kvV x)).run Try.prog w = .ok (.bool false) w := by
  unfold kvV
  go_simp
end Go.Proofs.Ythljnnjpmdgkoaa
