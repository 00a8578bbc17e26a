/- A log over a disk in plain terms: its segments' files, what stays of them when the disk dies, what is read of them then. No program is run. -/
import Derived.Test.YtillejdjghlicaaGreatDoorFrmL
namespace Go.Proofs.YtillejdjghlicaaGreatDoor
open Go Go.Proofs Go.RowKit

/-- A segment's file, by its number: its bytes, and how many of them are synced. -/
structure Fi where
  num : Nat
  data : List UInt8
  syn : Nat
/-- A disk: its files by their numbers, rising; its size; at which act it dies (0: none). -/
structure Dk where
  fs : List Fi
  lim : Nat
  armed : Nat
  dead : Bool
def Dk.act (D : Dk) : Dk := if 0 < D.armed then ⟨D.fs, D.lim, D.armed - 1, D.armed == 1⟩ else D
def getF (l : List Fi) (n : Nat) : Option Fi := l.find? fun f => f.num == n
/-- A file is laid, at its place. -/
def putF : List Fi → Fi → List Fi
  | [], f => [f]
  | g :: l, f => if g.num < f.num then g :: putF l f else if g.num = f.num then f :: l else f :: g :: l
def delF (l : List Fi) (n : Nat) : List Fi := l.filter fun f => decide (f.num ≠ n)
def sizeF (l : List Fi) : Nat := (l.map fun f => f.data.length).sum
/-- What an act answers: 0, or that the disk is dead (d), full (f), or has no such file (z). -/
structure Errs where
  d : Int
  f : Int
  z : Int
  hd : d ≠ 0
  hf : f ≠ 0
  hz : z ≠ 0
section
variable (R : Errs)
def Dk.append (D : Dk) (n : Nat) (x : List UInt8) : Dk × Int :=
  if D.dead = true then (D, R.d)
  else if D.lim - sizeF D.fs < x.length then (D, R.f)
  else
    let g := (getF D.fs n).getD ⟨n, [], 0⟩
    let E := (Dk.mk (putF D.fs ⟨n, g.data ++ x, g.syn⟩) D.lim D.armed D.dead).act
    (E, if E.dead = true then R.d else 0)
def Dk.sync (D : Dk) (n : Nat) : Dk × Int :=
  if D.dead = true then (D, R.d)
  else match getF D.fs n with
  | none => (D, R.z)
  | some g => if D.act.dead = true then (D.act, R.d) else (⟨putF D.act.fs ⟨n, g.data, g.data.length⟩, D.act.lim, D.act.armed, D.act.dead⟩, 0)
/-- What stays of files: keep says how many of a file's bytes that are not synced stay. -/
def crashF : List Fi → List Int → List Fi
  | [], _ => []
  | f :: l, ks =>
    if f.data.length = f.syn then f :: crashF l ks
    else match ks with
      | [] => ⟨f.num, f.data.take f.syn, f.syn⟩ :: crashF l []
      | k :: ks => ⟨f.num, f.data.take (f.syn + (min (max k 0) ((f.data.length - f.syn : Nat) : Int)).toNat), f.syn + (min (max k 0) ((f.data.length - f.syn : Nat) : Int)).toNat⟩ :: crashF l ks
end
section
variable (S : List UInt8 → Nat)
/-- Segments: the number of the first record, the records. Their numbers follow each other, none is empty. -/
def Num : Nat → List (Nat × List (List UInt8)) → Prop
  | _, [] => True
  | f, (n, r) :: Q => n = f ∧ r ≠ [] ∧ Num (f + r.length) Q
def recs (Q : List (Nat × List (List UInt8))) : List (List UInt8) := Q.flatMap (·.2)
/-- Their files: all are synced but the last one, of which j records are. -/
def filesQ : List (Nat × List (List UInt8)) → Nat → List Fi
  | [], _ => []
  | [(n, r)], j => [⟨n, frms S r, (frms S (r.take j)).length⟩]
  | (n, r) :: q :: Q, j => ⟨n, frms S r, (frms S r).length⟩ :: filesQ (q :: Q) j
theorem Num.append {f : Nat} {Q T : List (Nat × List (List UInt8))} : Num f (Q ++ T) ↔ Num f Q ∧ Num (f + (recs Q).length) T := by
  induction Q generalizing f with
  | nil => simp [Num, recs]
  | cons q Q ih =>
    obtain ⟨n, r⟩ := q
    have e : recs ((n, r) :: Q) = r ++ recs Q := List.flatMap_cons ..
    rw [List.cons_append, Num, Num, ih, e, List.length_append, ← Nat.add_assoc]
    exact ⟨fun ⟨a, b, c, d⟩ => ⟨⟨a, b, c⟩, d⟩, fun ⟨⟨a, b, c⟩, d⟩ => ⟨a, b, c, d⟩⟩
theorem Num.lt {f : Nat} {Q : List (Nat × List (List UInt8))} (h : Num f Q) : ∀ q ∈ Q, f ≤ q.1 ∧ q.1 < f + (recs Q).length := by
  induction Q generalizing f with
  | nil => intro q hq; simp at hq
  | cons p Q ih =>
    obtain ⟨n, r⟩ := p
    obtain ⟨h1, h2, h3⟩ := h
    have e : recs ((n, r) :: Q) = r ++ recs Q := List.flatMap_cons ..
    have hr : 0 < r.length := List.length_pos_iff.2 h2
    intro q hq
    rw [e, List.length_append]
    rcases List.mem_cons.1 hq with rfl | hq
    · dsimp only
      omega
    · have := ih h3 q hq
      omega
/-- The files of all segments but the last one. -/
def fullQ (Q : List (Nat × List (List UInt8))) : List Fi := Q.map fun q => ⟨q.1, frms S q.2, (frms S q.2).length⟩
theorem filesQ_last (P : List (Nat × List (List UInt8))) (n : Nat) (r : List (List UInt8)) (j : Nat) : filesQ S (P ++ [(n, r)]) j = fullQ S P ++ [⟨n, frms S r, (frms S (r.take j)).length⟩] := by
  induction P with
  | nil => rfl
  | cons p P ih =>
    obtain ⟨m, s⟩ := p
    cases P with
    | nil => rfl
    | cons q P =>
      show _ :: filesQ S (q :: P ++ [(n, r)]) j = _
      rw [ih]
      rfl
theorem getF_end {l : List Fi} {n : Nat} (h : ∀ f ∈ l, f.num < n) (m : List Fi) : getF (l ++ m) n = getF m n := by
  unfold getF
  rw [List.find?_append]
  have : l.find? (fun f => f.num == n) = none := by
    rw [List.find?_eq_none]
    intro f hf
    have := h f hf
    simp
    omega
  rw [this]
  rfl
theorem putF_end {l : List Fi} {f : Fi} (h : ∀ g ∈ l, g.num < f.num) (m : List Fi) : putF (l ++ m) f = l ++ putF m f := by
  induction l with
  | nil => rfl
  | cons g l ih =>
    show (if g.num < f.num then g :: putF (l ++ m) f else _) = _
    rw [if_pos (h g (List.mem_cons_self ..)), ih fun g hg => h g (List.mem_cons_of_mem _ hg)]
    rfl
theorem fullQ_lt {f : Nat} {P : List (Nat × List (List UInt8))} (h : Num f P) : ∀ g ∈ fullQ S P, g.num < f + (recs P).length := by
  intro g hg
  obtain ⟨q, hq, rfl⟩ := List.mem_map.1 hg
  exact (h.lt q hq).2
omit S in
theorem crashF_same {f : Fi} (h : f.data.length = f.syn) (l : List Fi) (ks : List Int) : crashF (f :: l) ks = f :: crashF l ks := by
  cases ks <;> simp [crashF, h]
theorem crashF_full (P : List (Nat × List (List UInt8))) (l : List Fi) (ks : List Int) : crashF (fullQ S P ++ l) ks = fullQ S P ++ crashF l ks := by
  induction P with
  | nil => rfl
  | cons p P ih =>
    show crashF (⟨p.1, frms S p.2, (frms S p.2).length⟩ :: (fullQ S P ++ l)) ks = _
    rw [crashF_same rfl, ih]
    rfl
/-- What stays of the last file is a beginning of it, behind what was synced. -/
theorem crashF_last (f : Fi) (hf : f.syn ≤ f.data.length) (ks : List Int) : ∃ m, f.syn ≤ m ∧ m ≤ f.data.length ∧ crashF [f] ks = [⟨f.num, f.data.take m, m⟩] := by
  unfold crashF
  by_cases h : f.data.length = f.syn
  · refine ⟨f.data.length, hf, Nat.le_refl _, ?_⟩
    rw [if_pos h, List.take_length]
    obtain ⟨a, b, c⟩ := f
    dsimp only at h ⊢
    subst h
    rfl
  · rw [if_neg h]
    cases ks with
    | nil => exact ⟨f.syn, Nat.le_refl _, hf, rfl⟩
    | cons k ks =>
      refine ⟨f.syn + (min (max k 0) ((f.data.length - f.syn : Nat) : Int)).toNat, by omega, ?_, rfl⟩
      have : (min (max k 0) ((f.data.length - f.syn : Nat) : Int)).toNat ≤ f.data.length - f.syn := by omega
      omega
/-- What the segments' files are read as: each number, the records, how many bytes they have, how many the file has. -/
def readQ (l : List Fi) : List (Nat × List (List UInt8) × Nat × Nat) := l.map fun f => (f.num, (allB S f.data).1, (allB S f.data).2.1, f.data.length)
/-- BEHIND A CRASH: of the last segment a beginning is left, with all its synced records; of the others all. -/
theorem crash_read (hS : ∀ b, S b < 4294967296) {P : List (Nat × List (List UInt8))} {n : Nat} {r : List (List UInt8)} {j : Nat} (hr : ∀ b ∈ recs P ++ r, BodyOk b) (hj : j ≤ r.length) (ks : List Int) :
    ∃ k m, j ≤ k ∧ k ≤ r.length ∧ (frms S (r.take k)).length ≤ m ∧ readQ S (crashF (filesQ S (P ++ [(n, r)]) j) ks) = (P.map fun q => (q.1, q.2, (frms S q.2).length, (frms S q.2).length)) ++ [(n, r.take k, (frms S (r.take k)).length, m)] := by
  rw [filesQ_last, crashF_full]
  have hpre : (frms S (r.take j)).length ≤ (frms S r).length := by
    have e : frms S r = frms S (r.take j) ++ frms S (r.drop j) := by rw [← frms_append, List.take_append_drop]
    rw [e, List.length_append]
    omega
  obtain ⟨m, h1, h2, h3⟩ := crashF_last ⟨n, frms S r, (frms S (r.take j)).length⟩ hpre ks
  dsimp only at h1 h2 h3
  rw [h3]
  obtain ⟨k, t, k1, k2, k3, k4, k5⟩ := frms_take S r m fun b hb => hr b (List.mem_append_right _ hb)
  refine ⟨k, m, k5 j hj h1, k1, k4, ?_⟩
  unfold readQ
  rw [List.map_append]
  congr 1
  · unfold fullQ
    rw [List.map_map]
    refine List.map_congr_left fun q hq => ?_
    have hb : ∀ b ∈ q.2, BodyOk b := fun b hb => hr b (List.mem_append_left _ (List.mem_flatMap.2 ⟨q, hq, hb⟩))
    have := allB_frms S hS (.inl rfl) q.2 hb (t := [])
    rw [List.append_nil] at this
    show (q.1, (allB S (frms S q.2)).1, (allB S (frms S q.2)).2.1, (frms S q.2).length) = _
    rw [this]
  · have hb : ∀ b ∈ r.take k, BodyOk b := fun b hb => hr b (List.mem_append_right _ (List.mem_of_mem_take hb))
    rw [List.map_singleton]
    dsimp only
    rw [k3, allB_frms S hS k2 _ hb, ← k3, List.length_take, Nat.min_eq_left h2]
end
end Go.Proofs.YtillejdjghlicaaGreatDoor
