/- A log's Append and Sync in plain terms, on a disk that may die at any act: what was synced lasts. No program is run. -/
import Derived.Test.YtillejdjghlicaaGreatDoorLogL
namespace Go.Proofs.YtillejdjghlicaaGreatDoor
open Go Go.Proofs Go.RowKit

/-- A log: how great a segment is, its segments (number, bytes), the first record's number, the records. -/
structure Lg where
  size : Nat
  segs : List (Nat × Nat)
  first : Nat
  l : List (List UInt8)
section
variable (R : Errs) (S : List UInt8 → Nat)
/-- The last segment is synced. -/
def lgSync (D : Dk) (L : Lg) : Dk × Int :=
  if D.dead = true then (D, R.d)
  else match L.segs.getLast? with
  | none => (D, 0)
  | some s => D.sync R s.1
/-- A new segment, if the last one is full. -/
def lgRoom (D : Dk) (L : Lg) : Dk × Lg × Int :=
  match L.segs.getLast? with
  | some s => if s.2 < L.size then (D, L, 0) else if (lgSync R D L).2 ≠ 0 then ((lgSync R D L).1, L, (lgSync R D L).2) else ((lgSync R D L).1, { L with segs := L.segs ++ [(L.first + L.l.length, 0)] }, 0)
  | none => if (lgSync R D L).2 ≠ 0 then ((lgSync R D L).1, L, (lgSync R D L).2) else ((lgSync R D L).1, { L with segs := L.segs ++ [(L.first + L.l.length, 0)] }, 0)
def addLast (l : List (Nat × Nat)) (k : Nat) : List (Nat × Nat) := match l.getLast? with
  | none => []
  | some s => l.dropLast ++ [(s.1, s.2 + k)]
/-- One record is appended. -/
def lgPut (D : Dk) (L : Lg) (b : List UInt8) : Dk × Lg × Int :=
  let r := lgRoom R D L
  if r.2.2 ≠ 0 then r
  else match r.2.1.segs.getLast? with
  | none => r
  | some s =>
    if (r.1.append R s.1 (frmB S b)).2 ≠ 0 then ((r.1.append R s.1 (frmB S b)).1, r.2.1, (r.1.append R s.1 (frmB S b)).2)
    else ((r.1.append R s.1 (frmB S b)).1, { r.2.1 with segs := addLast r.2.1.segs (frmB S b).length, l := r.2.1.l ++ [b] }, 0)
/-- A log and its disk, at rest: the segments Q, of whose last one j records are synced. -/
structure Rest (D : Dk) (L : Lg) (Q : List (Nat × List (List UInt8))) (j : Nat) : Prop where
  num : Num L.first Q
  fs : D.fs = filesQ S Q j
  segs : L.segs = Q.map fun q => (q.1, (frms S q.2).length)
  rl : L.l = recs Q
  j : ∀ q, Q.getLast? = some q → j ≤ q.2.length
  dead : D.dead = false
/-- What is on the disk, whether it is dead or not. -/
structure Left (D : Dk) (f : Nat) (Q : List (Nat × List (List UInt8))) (j : Nat) : Prop where
  num : Num f Q
  fs : D.fs = filesQ S Q j
  j : ∀ q, Q.getLast? = some q → j ≤ q.2.length
theorem Rest.left {D : Dk} {L : Lg} {Q : List (Nat × List (List UInt8))} {j : Nat} (h : Rest S D L Q j) : Left S D L.first Q j := ⟨h.num, h.fs, h.j⟩
/-- How many records are synced. -/
def syncedQ : List (Nat × List (List UInt8)) → Nat → Nat
  | [], _ => 0
  | [_], j => j
  | (_, r) :: q :: Q, j => r.length + syncedQ (q :: Q) j
theorem syncedQ_last (P : List (Nat × List (List UInt8))) (q : Nat × List (List UInt8)) (j : Nat) : syncedQ (P ++ [q]) j = (recs P).length + j := by
  induction P with
  | nil => show j = 0 + j; omega
  | cons p P ih =>
    obtain ⟨m, s⟩ := p
    have e : recs ((m, s) :: P) = s ++ recs P := List.flatMap_cons ..
    rw [e, List.length_append]
    cases P with
    | nil =>
      show s.length + j = _
      show _ = s.length + 0 + j
      omega
    | cons q' P =>
      show s.length + syncedQ (q' :: P ++ [q]) j = _
      rw [ih]
      omega
theorem last_cases {α : Type} (Q : List α) : Q = [] ∨ ∃ P q, Q = P ++ [q] := by
  cases h : Q.getLast? with
  | none => exact .inl (List.getLast?_eq_none_iff.1 h)
  | some q => exact .inr ⟨Q.dropLast, q, by rw [List.getLast?_eq_some_iff] at h; obtain ⟨ys, rfl⟩ := h; simp⟩
theorem recs_snoc (P : List (Nat × List (List UInt8))) (n : Nat) (r : List (List UInt8)) : recs (P ++ [(n, r)]) = recs P ++ r := by
  unfold recs
  rw [List.flatMap_append]
  simp
theorem act_fs (D : Dk) : D.act.fs = D.fs ∧ D.act.lim = D.lim := by
  unfold Dk.act
  split <;> exact ⟨rfl, rfl⟩
theorem act_armed (D : Dk) : D.act.armed ≤ D.armed ∧ (D.dead = false → D.act.dead = true → 0 < D.armed) := by
  unfold Dk.act
  by_cases h : 0 < D.armed
  · rw [if_pos h]
    exact ⟨Nat.sub_le .., fun _ _ => h⟩
  · rw [if_neg h]
    exact ⟨Nat.le_refl _, fun h1 h2 => by rw [h1] at h2; cases h2⟩
/-- The last segment's file. -/
theorem Left.get {D : Dk} {f : Nat} {P : List (Nat × List (List UInt8))} {n : Nat} {r : List (List UInt8)} {j : Nat} (h : Left S D f (P ++ [(n, r)]) j) : D.fs = fullQ S P ++ [⟨n, frms S r, (frms S (r.take j)).length⟩] ∧ (∀ g ∈ fullQ S P, g.num < n) ∧ n = f + (recs P).length ∧ r ≠ [] ∧ Num f P := by
  obtain ⟨h1, h2⟩ := Num.append.1 h.num
  obtain ⟨e, hr, _⟩ := h2
  refine ⟨by rw [h.fs, filesQ_last], fun g hg => ?_, e, hr, h1⟩
  have := fullQ_lt S h1 g hg
  omega
/-- A sync: all is synced, or the disk died at it. -/
theorem Rest.sync {D : Dk} {L : Lg} {Q : List (Nat × List (List UInt8))} {j : Nat} (h : Rest S D L Q j) :
    ((lgSync R D L).2 = 0 ∧ Rest S (lgSync R D L).1 L Q ((Q.getLast?.map fun q => q.2.length).getD j) ∧ syncedQ Q ((Q.getLast?.map fun q => q.2.length).getD j) = L.l.length ∧ (lgSync R D L).1.lim = D.lim ∧ (lgSync R D L).1.armed ≤ D.armed) ∨ ((lgSync R D L).2 ≠ 0 ∧ Left S (lgSync R D L).1 L.first Q j ∧ 0 < D.armed) := by
  unfold lgSync
  rw [if_neg (by rw [h.dead]; simp), h.segs]
  rcases last_cases Q with rfl | ⟨P, ⟨n, r⟩, rfl⟩
  · left
    refine ⟨rfl, h, ?_, rfl, Nat.le_refl _⟩
    rw [h.rl]
    rfl
  · obtain ⟨g1, g2, g3, g4, g5⟩ := h.left.get
    obtain ⟨a1, a2⟩ := act_fs D
    rw [List.map_append, List.map_singleton, List.getLast?_append, List.getLast?_singleton, Option.some_or]
    dsimp only
    unfold Dk.sync
    rw [if_neg (by rw [h.dead]; simp), g1, getF_end g2]
    have e0 : getF [⟨n, frms S r, (frms S (r.take j)).length⟩] n = some ⟨n, frms S r, (frms S (r.take j)).length⟩ := by
      unfold getF
      simp
    rw [e0]
    dsimp only
    by_cases hd : D.act.dead = true
    · right
      rw [if_pos hd]
      exact ⟨R.hd, ⟨h.num, by rw [a1]; exact h.fs, h.j⟩, (act_armed D).2 h.dead hd⟩
    · left
      rw [if_neg hd, a1, g1, putF_end (by exact g2)]
      have e1 : putF [⟨n, frms S r, (frms S (r.take j)).length⟩] ⟨n, frms S r, (frms S r).length⟩ = [⟨n, frms S r, (frms S r).length⟩] := by
        unfold putF
        simp
      rw [e1, List.getLast?_append, List.getLast?_singleton, Option.some_or, Option.map_some, Option.getD_some]
      dsimp only
      refine ⟨rfl, ⟨h.num, ?_, h.segs, h.rl, fun q hq => ?_, by simpa using hd⟩, ?_, a2, (act_armed D).1⟩
      · rw [filesQ_last, List.take_length]
      · rw [List.getLast?_append, List.getLast?_singleton, Option.some_or, Option.some.injEq] at hq
        rw [← hq]
        exact Nat.le_refl _
      · rw [syncedQ_last, h.rl, recs_snoc, List.length_append]
theorem filesQ_full {Q : List (Nat × List (List UInt8))} {j : Nat} (h : ∀ q, Q.getLast? = some q → j = q.2.length) : filesQ S Q j = fullQ S Q := by
  rcases last_cases Q with rfl | ⟨P, ⟨n, r⟩, rfl⟩
  · rfl
  · have e := h (n, r) (by rw [List.getLast?_append, List.getLast?_singleton, Option.some_or])
    dsimp only at e
    subst e
    rw [filesQ_last, List.take_length]
    unfold fullQ
    rw [List.map_append]
    rfl
theorem syncedQ_le {Q : List (Nat × List (List UInt8))} {j : Nat} (h : ∀ q, Q.getLast? = some q → j ≤ q.2.length) : syncedQ Q j ≤ (recs Q).length := by
  rcases last_cases Q with rfl | ⟨P, ⟨n, r⟩, rfl⟩
  · exact Nat.le_refl _
  · have e := h (n, r) (by rw [List.getLast?_append, List.getLast?_singleton, Option.some_or])
    dsimp only at e
    rw [syncedQ_last, recs_snoc, List.length_append]
    omega
theorem sizeF_fullQ (P : List (Nat × List (List UInt8))) : sizeF (fullQ S P) = (frms S (recs P)).length := by
  induction P with
  | nil => rfl
  | cons p P ih =>
    obtain ⟨m, s⟩ := p
    have e : recs ((m, s) :: P) = s ++ recs P := List.flatMap_cons ..
    rw [e, frms_append, List.length_append, ← ih]
    rfl
theorem sizeF_append (a b : List Fi) : sizeF (a ++ b) = sizeF a + sizeF b := by
  unfold sizeF
  rw [List.map_append, List.sum_append]
theorem sizeF_filesQ {Q : List (Nat × List (List UInt8))} {j : Nat} : sizeF (filesQ S Q j) = (frms S (recs Q)).length := by
  rcases last_cases Q with rfl | ⟨P, ⟨n, r⟩, rfl⟩
  · rfl
  · rw [filesQ_last, sizeF_append, sizeF_fullQ, recs_snoc, frms_append, List.length_append]
    show _ + ((frms S r).length + 0) = _
    rfl
/-- Bytes laid behind a file's: it is there, or it is new and the last one. -/
theorem append_end {D : Dk} {l : List Fi} {n : Nat} (hl : ∀ g ∈ l, g.num < n) (x : List UInt8) (hd : D.dead = false) {m : List Fi} (hm : m = [] ∨ ∃ d s, m = [⟨n, d, s⟩]) (hfs : D.fs = l ++ m) (hroom : sizeF D.fs + x.length ≤ D.lim) :
    (D.append R n x).1.fs = l ++ [⟨n, ((getF m n).getD ⟨n, [], 0⟩).data ++ x, ((getF m n).getD ⟨n, [], 0⟩).syn⟩] ∧ ((D.append R n x).2 = 0 ↔ (D.append R n x).1.dead = false) ∧ (D.append R n x).1.lim = D.lim ∧ (D.append R n x).1.armed ≤ D.armed ∧ ((D.append R n x).2 ≠ 0 → 0 < D.armed) := by
  unfold Dk.append
  rw [if_neg (by rw [hd]; simp), if_neg (by omega)]
  dsimp only
  obtain ⟨a1, a2⟩ := act_fs ⟨putF D.fs ⟨n, ((getF D.fs n).getD ⟨n, [], 0⟩).data ++ x, ((getF D.fs n).getD ⟨n, [], 0⟩).syn⟩, D.lim, D.armed, D.dead⟩
  obtain ⟨a3, a4⟩ := act_armed ⟨putF D.fs ⟨n, ((getF D.fs n).getD ⟨n, [], 0⟩).data ++ x, ((getF D.fs n).getD ⟨n, [], 0⟩).syn⟩, D.lim, D.armed, D.dead⟩
  refine ⟨?_, ?_, a2, a3, fun he => a4 hd ?_⟩
  · rw [a1]
    dsimp only
    rw [hfs, getF_end hl, putF_end (by exact hl)]
    congr 1
    rcases hm with rfl | ⟨d, s, rfl⟩
    · rfl
    · have e : getF [⟨n, d, s⟩] n = some ⟨n, d, s⟩ := by unfold getF; simp
      rw [e]
      show putF [⟨n, d, s⟩] _ = _
      unfold putF
      simp
  · generalize (Dk.act _).dead = b
    cases b with
    | true => simp [R.hd]
    | false => simp
  · revert he
    generalize (Dk.act _).dead = b
    cases b with
    | true => exact fun _ => rfl
    | false => exact fun h => absurd rfl h
/-- What a put leaves. -/
abbrev PutR (D : Dk) (L : Lg) (Q : List (Nat × List (List UInt8))) (j : Nat) (b : List UInt8) : Prop :=
  ∃ Q' j', syncedQ Q j ≤ syncedQ Q' j' ∧ (((lgPut R S D L b).2.2 = 0 ∧ Rest S (lgPut R S D L b).1 (lgPut R S D L b).2.1 Q' j' ∧ recs Q' = recs Q ++ [b] ∧ (lgPut R S D L b).2.1.first = L.first ∧ (lgPut R S D L b).1.lim = D.lim ∧ (lgPut R S D L b).2.1.size = L.size ∧ (lgPut R S D L b).1.armed ≤ D.armed) ∨
    ((lgPut R S D L b).2.2 ≠ 0 ∧ Left S (lgPut R S D L b).1 L.first Q' j' ∧ (recs Q' = recs Q ∨ recs Q' = recs Q ++ [b]) ∧ 0 < D.armed))
/-- One record more: it stands behind the others, or the disk died, and a beginning stands there. -/
theorem Rest.put {D : Dk} {L : Lg} {Q : List (Nat × List (List UInt8))} {j : Nat} (h : Rest S D L Q j) (b : List UInt8) (hroom : (frms S (L.l ++ [b])).length ≤ D.lim) : PutR R S D L Q j b := by
  have hlen : (frmB S b).length = 8 + b.length := frmB_length S b
  have hfr : (frms S (L.l ++ [b])).length = (frms S L.l).length + (frmB S b).length := by
    rw [frms_append, List.length_append]
    show _ + (frms S [b]).length = _
    rw [frms_cons]
    simp [frms]
  rw [hfr] at hroom
  -- a new segment, when all is synced
  have newseg : ∀ D1 : Dk, Rest S D1 L Q ((Q.getLast?.map fun q => q.2.length).getD j) → D1.lim = D.lim → D1.armed ≤ D.armed →
      ∃ Q' j', syncedQ Q j ≤ syncedQ Q' j' ∧ (((D1.append R (L.first + L.l.length) (frmB S b)).2 = 0 ∧ Rest S (D1.append R (L.first + L.l.length) (frmB S b)).1 { L with segs := addLast (L.segs ++ [(L.first + L.l.length, 0)]) (frmB S b).length, l := L.l ++ [b] } Q' j' ∧ recs Q' = recs Q ++ [b] ∧ (D1.append R (L.first + L.l.length) (frmB S b)).1.lim = D.lim ∧ (D1.append R (L.first + L.l.length) (frmB S b)).1.armed ≤ D.armed) ∨
        ((D1.append R (L.first + L.l.length) (frmB S b)).2 ≠ 0 ∧ Left S (D1.append R (L.first + L.l.length) (frmB S b)).1 L.first Q' j' ∧ (recs Q' = recs Q ∨ recs Q' = recs Q ++ [b]) ∧ 0 < D.armed)) := by
    intro D1 h1 hlim harm
    have hfull : D1.fs = fullQ S Q := by
      rw [h1.fs]
      exact filesQ_full S fun q hq => by rw [hq]; rfl
    have hlt : ∀ g ∈ fullQ S Q, g.num < L.first + L.l.length := fun g hg => by
      have := fullQ_lt S h.num g hg
      rw [h.rl]
      exact this
    obtain ⟨p1, p2, p3, p4, p5⟩ := append_end R hlt (frmB S b) h1.dead (.inl rfl) (by rw [hfull, List.append_nil]) (by rw [hlim, hfull, sizeF_fullQ, ← h.rl]; exact hroom)
    have hnum : Num L.first (Q ++ [(L.first + L.l.length, [b])]) := Num.append.2 ⟨h.num, by rw [h.rl], by simp, trivial⟩
    have hfs : (D1.append R (L.first + L.l.length) (frmB S b)).1.fs = filesQ S (Q ++ [(L.first + L.l.length, [b])]) 0 := by
      rw [p1, filesQ_last]
      show _ = fullQ S Q ++ [⟨L.first + L.l.length, frms S [b], (frms S ([b].take 0)).length⟩]
      rw [frms_cons]
      simp [getF, frms]
    have hjj : ∀ q, (Q ++ [(L.first + L.l.length, [b])]).getLast? = some q → 0 ≤ q.2.length := fun _ _ => Nat.zero_le _
    have hrec : recs (Q ++ [(L.first + L.l.length, [b])]) = recs Q ++ [b] := recs_snoc ..
    refine ⟨Q ++ [(L.first + L.l.length, [b])], 0, ?_, ?_⟩
    · rw [syncedQ_last]
      exact syncedQ_le h.j
    · by_cases he : (D1.append R (L.first + L.l.length) (frmB S b)).2 = 0
      · refine .inl ⟨he, ⟨hnum, hfs, ?_, ?_, hjj, p2.1 he⟩, hrec, by rw [p3, hlim], by omega⟩
        · unfold addLast
          rw [List.getLast?_append, List.getLast?_singleton, Option.some_or]
          dsimp only
          rw [List.dropLast_concat, h.segs, List.map_append, List.map_singleton]
          dsimp only
          rw [frms_cons]
          simp [frms]
        · show L.l ++ [b] = _
          rw [hrec, h.rl]
      · exact .inr ⟨he, ⟨hnum, hfs, hjj⟩, .inr hrec, by have := p5 he; omega⟩
  have hlast : L.segs.getLast? = Q.getLast?.map fun q => (q.1, (frms S q.2).length) := by rw [h.segs, List.getLast?_map]
  have full : (∀ s, L.segs.getLast? = some s → ¬ s.2 < L.size) → lgRoom R D L = if (lgSync R D L).2 ≠ 0 then ((lgSync R D L).1, L, (lgSync R D L).2) else ((lgSync R D L).1, { L with segs := L.segs ++ [(L.first + L.l.length, 0)] }, 0) := fun hs => by
    unfold lgRoom
    cases hg : L.segs.getLast? with
    | none => rfl
    | some s => exact if_neg (hs s hg)
  have room : (∀ s, L.segs.getLast? = some s → ¬ s.2 < L.size) → PutR R S D L Q j b := fun hs => by
    have hr := full hs
    rcases h.sync R with ⟨s1, s2, s3, s4, s5⟩ | ⟨s1, s2, s3⟩
    · rw [if_neg (by simpa using s1)] at hr
      obtain ⟨Q', j', q1, q2⟩ := newseg _ s2 s4 s5
      have hp : lgPut R S D L b = if ((lgSync R D L).1.append R (L.first + L.l.length) (frmB S b)).2 ≠ 0 then (((lgSync R D L).1.append R (L.first + L.l.length) (frmB S b)).1, { L with segs := L.segs ++ [(L.first + L.l.length, 0)] }, ((lgSync R D L).1.append R (L.first + L.l.length) (frmB S b)).2)
          else (((lgSync R D L).1.append R (L.first + L.l.length) (frmB S b)).1, { L with segs := addLast (L.segs ++ [(L.first + L.l.length, 0)]) (frmB S b).length, l := L.l ++ [b] }, 0) := by
        unfold lgPut
        rw [hr]
        dsimp only
        rw [if_neg (by simp), List.getLast?_append, List.getLast?_singleton, Option.some_or]
      refine ⟨Q', j', q1, ?_⟩
      rw [hp]
      rcases q2 with ⟨e1, e2, e3, e4, e5⟩ | ⟨e1, e2, e3, e4⟩
      · rw [if_neg (by simpa using e1)]
        exact .inl ⟨rfl, e2, e3, rfl, e4, rfl, e5⟩
      · rw [if_pos e1]
        exact .inr ⟨e1, e2, e3, e4⟩
    · rw [if_pos s1] at hr
      have hp : lgPut R S D L b = ((lgSync R D L).1, L, (lgSync R D L).2) := by
        unfold lgPut
        rw [hr]
        dsimp only
        rw [if_pos s1]
      refine ⟨Q, j, Nat.le_refl _, ?_⟩
      rw [hp]
      exact .inr ⟨s1, s2, .inl rfl, s3⟩
  rcases last_cases Q with rfl | ⟨P, ⟨n, r⟩, rfl⟩
  · exact room fun s hs => by rw [hlast] at hs; cases hs
  · rw [List.getLast?_append, List.getLast?_singleton, Option.some_or, Option.map_some] at hlast
    dsimp only at hlast
    by_cases hsz : (frms S r).length < L.size
    · -- it goes behind the last segment's records
      obtain ⟨g1, g2, g3, g4, g5⟩ := h.left.get
      obtain ⟨p1, p2, p3, p4, p5⟩ := append_end R g2 (frmB S b) h.dead (.inr ⟨_, _, rfl⟩) g1 (by rw [h.fs, sizeF_filesQ, ← h.rl]; exact hroom)
      have hj := h.j (n, r) (by rw [List.getLast?_append, List.getLast?_singleton, Option.some_or])
      dsimp only at hj
      have e0 : getF [⟨n, frms S r, (frms S (r.take j)).length⟩] n = some ⟨n, frms S r, (frms S (r.take j)).length⟩ := by
        unfold getF
        simp
      rw [e0] at p1
      have hnum : Num L.first (P ++ [(n, r ++ [b])]) := Num.append.2 ⟨g5, g3, by simp, trivial⟩
      have hfb : frms S (r ++ [b]) = frms S r ++ frmB S b := by
        rw [frms_append, frms_cons]
        simp [frms]
      have hfs : (D.append R n (frmB S b)).1.fs = filesQ S (P ++ [(n, r ++ [b])]) j := by
        rw [p1, filesQ_last, hfb, List.take_append_of_le_length hj]
        rfl
      have hjj : ∀ q, (P ++ [(n, r ++ [b])]).getLast? = some q → j ≤ q.2.length := fun q hq => by
        rw [List.getLast?_append, List.getLast?_singleton, Option.some_or, Option.some.injEq] at hq
        rw [← hq, List.length_append]
        omega
      have hrec : recs (P ++ [(n, r ++ [b])]) = recs (P ++ [(n, r)]) ++ [b] := by
        rw [recs_snoc, recs_snoc, List.append_assoc]
      have hrm : lgRoom R D L = (D, L, 0) := by
        unfold lgRoom
        rw [hlast]
        exact if_pos hsz
      have hp : lgPut R S D L b = if (D.append R n (frmB S b)).2 ≠ 0 then ((D.append R n (frmB S b)).1, L, (D.append R n (frmB S b)).2) else ((D.append R n (frmB S b)).1, { L with segs := addLast L.segs (frmB S b).length, l := L.l ++ [b] }, 0) := by
        unfold lgPut
        rw [hrm]
        dsimp only
        rw [if_neg (by simp), hlast]
      refine ⟨P ++ [(n, r ++ [b])], j, by rw [syncedQ_last, syncedQ_last]; exact Nat.le_refl _, ?_⟩
      rw [hp]
      by_cases he : (D.append R n (frmB S b)).2 = 0
      · rw [if_neg (by simpa using he)]
        refine .inl ⟨rfl, ⟨hnum, hfs, ?_, ?_, hjj, p2.1 he⟩, hrec, rfl, p3, rfl, p4⟩
        · show addLast L.segs _ = _
          unfold addLast
          rw [hlast]
          dsimp only
          rw [h.segs, List.map_append, List.map_singleton, List.dropLast_concat, List.map_append, List.map_singleton]
          dsimp only
          rw [hfb, List.length_append]
        · show L.l ++ [b] = _
          rw [hrec, h.rl]
      · rw [if_pos he]
        exact .inr ⟨he, ⟨hnum, hfs, hjj⟩, .inr hrec, p5 he⟩
    · exact room fun s hs => by rw [hlast] at hs; cases hs; exact hsz
end
end Go.Proofs.YtillejdjghlicaaGreatDoor
