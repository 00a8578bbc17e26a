/- A log's Cut, Purge and opening in plain terms, on a disk that does not die. No program is run. -/
import Derived.Test.YtillejdjghlicaaGreatDoorLogN
namespace Go.Proofs.YtillejdjghlicaaGreatDoor
open Go Go.Proofs Go.RowKit

section
variable (R : Errs) (S : List UInt8 → Nat)
def Dk.remove (D : Dk) (n : Nat) : Dk × Int :=
  if D.dead = true then (D, R.d)
  else match getF D.fs n with
  | none => (D, R.z)
  | some _ => if D.act.dead = true then (D.act, R.d) else (⟨delF D.act.fs n, D.act.lim, D.act.armed, D.act.dead⟩, 0)
def Dk.truncate (D : Dk) (n k : Nat) : Dk × Int :=
  if D.dead = true then (D, R.d)
  else match getF D.fs n with
  | none => (D, R.z)
  | some g => if D.act.dead = true then (D.act, R.d) else (⟨putF D.act.fs ⟨n, g.data.take k, min g.syn k⟩, D.act.lim, D.act.armed, D.act.dead⟩, 0)
theorem act_calm {D : Dk} (h : D.armed = 0) : D.act = D := by
  unfold Dk.act
  rw [if_neg (by omega)]
theorem delF_end {l : List Fi} {n : Nat} (h : ∀ f ∈ l, f.num < n) (f : Fi) (hf : f.num = n) : delF (l ++ [f]) n = l := by
  unfold delF
  rw [List.filter_append]
  have e1 : l.filter (fun f => decide (f.num ≠ n)) = l := List.filter_eq_self.2 fun g hg => by have := h g hg; simp; omega
  have e2 : [f].filter (fun f => decide (f.num ≠ n)) = [] := by simp [hf]
  rw [e1, e2, List.append_nil]
/-- The last segments are removed, as long as their numbers are n or more. -/
def lgDrop : Nat → Dk → List (Nat × Nat) → Nat → Dk × List (Nat × Nat) × Int
  | 0, D, l, _ => (D, l, 0)
  | k + 1, D, l, n =>
    match l.getLast? with
    | none => (D, l, 0)
    | some s => if n ≤ s.1 then (if (D.remove R s.1).2 ≠ 0 then ((D.remove R s.1).1, l, (D.remove R s.1).2) else lgDrop k (D.remove R s.1).1 l.dropLast n) else (D, l, 0)
def sizesQ (Q : List (Nat × List (List UInt8))) : List (Nat × Nat) := Q.map fun q => (q.1, (frms S q.2).length)
theorem drop_spec {f n : Nat} : ∀ (k : Nat) (D : Dk) (Q : List (Nat × List (List UInt8))) (j : Nat), Left S D f Q j → D.armed = 0 → D.dead = false → Q.length ≤ k →
    ∃ P T j' D', Q = P ++ T ∧ (∀ q, P.getLast? = some q → q.1 < n) ∧ (∀ q ∈ T, n ≤ q.1) ∧ lgDrop R k D (sizesQ S Q) n = (D', sizesQ S P, 0) ∧ Left S D' f P j' ∧ D'.armed = 0 ∧ D'.dead = false ∧ D'.lim = D.lim ∧ (T = [] → j' = j ∧ D' = D) ∧ (T ≠ [] → ∀ q, P.getLast? = some q → j' = q.2.length)
  | 0, D, Q, j, h, h1, h2, h3 => by
    have : Q = [] := List.eq_nil_of_length_eq_zero (by omega)
    subst this
    exact ⟨[], [], j, D, rfl, fun q hq => (by cases hq), fun q hq => (by cases hq), rfl, h, h1, h2, rfl, fun _ => ⟨rfl, rfl⟩, fun h => absurd rfl h⟩
  | k + 1, D, Q, j, h, h1, h2, h3 => by
    rcases last_cases Q with rfl | ⟨P, ⟨m, r⟩, rfl⟩
    · exact ⟨[], [], j, D, rfl, fun q hq => (by cases hq), fun q hq => (by cases hq), rfl, h, h1, h2, rfl, fun _ => ⟨rfl, rfl⟩, fun h => absurd rfl h⟩
    · obtain ⟨g1, g2, g3, g4, g5⟩ := h.get
      have hlast : (sizesQ S (P ++ [(m, r)])).getLast? = some (m, (frms S r).length) := by
        unfold sizesQ
        rw [List.map_append, List.map_singleton, List.getLast?_append, List.getLast?_singleton, Option.some_or]
      have hdl : (sizesQ S (P ++ [(m, r)])).dropLast = sizesQ S P := by
        unfold sizesQ
        rw [List.map_append, List.map_singleton, List.dropLast_concat]
      unfold lgDrop
      rw [hlast]
      dsimp only
      by_cases hn : n ≤ m
      · rw [if_pos hn]
        have hrm : D.remove R m = (⟨fullQ S P, D.lim, D.armed, D.dead⟩, 0) := by
          unfold Dk.remove
          rw [if_neg (by rw [h2]; simp), g1, getF_end g2]
          have e0 : getF [⟨m, frms S r, (frms S (r.take j)).length⟩] m = some ⟨m, frms S r, (frms S (r.take j)).length⟩ := by
            unfold getF
            simp
          rw [e0]
          dsimp only
          rw [act_calm h1, if_neg (by rw [h2]; simp), g1, delF_end g2 _ rfl]
        rw [hrm]
        dsimp only
        rw [if_neg (by simp), hdl]
        have hL : Left S ⟨fullQ S P, D.lim, D.armed, D.dead⟩ f P ((P.getLast?.map fun q => q.2.length).getD 0) := by
          refine ⟨g5, (filesQ_full S fun q hq => by rw [hq]; rfl).symm, fun q hq => by rw [hq]; exact Nat.le_refl _⟩
        obtain ⟨P1, T, j', D', a1, a2, a3, a4, a5, a6, a7, a8, a9, a10⟩ := drop_spec k _ P _ hL h1 h2 (by simpa using h3)
        refine ⟨P1, T ++ [(m, r)], j', D', by rw [a1, List.append_assoc], a2, fun q hq => ?_, a4, a5, a6, a7, a8, fun e => by simp at e, fun _ q hq => ?_⟩
        · rcases List.mem_append.1 hq with hq | hq
          · exact a3 q hq
          · rw [List.mem_singleton.1 hq]
            exact hn
        · by_cases hT : T = []
          · rw [hT, List.append_nil] at a1
            rw [(a9 hT).1, a1, hq]
            rfl
          · exact a10 hT q hq
      · rw [if_neg hn]
        refine ⟨P ++ [(m, r)], [], j, D, (List.append_nil _).symm, fun q hq => ?_, fun q hq => (by cases hq), rfl, h, h1, h2, rfl, fun _ => ⟨rfl, rfl⟩, fun h => absurd rfl h⟩
        rw [List.getLast?_append, List.getLast?_singleton, Option.some_or, Option.some.injEq] at hq
        rw [← hq]
        dsimp only
        omega
/-- Cut: all records from the number n on are taken away (first ≤ n < next). -/
def lgCut (D : Dk) (L : Lg) (n : Nat) : Dk × Lg × Int :=
  let d := lgDrop R L.segs.length D L.segs n
  if d.2.2 ≠ 0 then (d.1, { L with segs := d.2.1 }, d.2.2)
  else match d.2.1.getLast? with
  | none => (d.1, { L with segs := d.2.1, l := L.l.take (n - L.first) }, 0)
  | some s =>
    let z := (((L.l.take (n - L.first)).drop (s.1 - L.first)).map fun b => 8 + b.length).sum
    if z = s.2 then (d.1, { L with segs := d.2.1, l := L.l.take (n - L.first) }, 0)
    else ((d.1.truncate R s.1 z).1, { L with segs := d.2.1.dropLast ++ [(s.1, z)], l := L.l.take (n - L.first) }, (d.1.truncate R s.1 z).2)
theorem frms_sum (l : List (List UInt8)) : (l.map fun b => 8 + b.length).sum = (frms S l).length := by
  induction l with
  | nil => rfl
  | cons b l ih =>
    rw [List.map_cons, List.sum_cons, ih, frms_cons, List.length_append, frmB_length]
theorem frms_pre (r : List (List UInt8)) (i k : Nat) (h : i ≤ k) : (frms S (r.take i)).length ≤ (frms S (r.take k)).length := by
  have e : r.take k = r.take i ++ (r.drop i).take (k - i) := by
    have := List.take_append_drop i (r.take k)
    rw [List.take_take, Nat.min_eq_left h, List.drop_take] at this
    exact this.symm
  rw [e, frms_append, List.length_append]
  omega
/-- Behind a Cut: the records below its number. -/
theorem Rest.cut {D : Dk} {L : Lg} {Q : List (Nat × List (List UInt8))} {j : Nat} (h : Rest S D L Q j) (ha : D.armed = 0) {n : Nat} (h1 : L.first ≤ n) (h2 : n < L.first + L.l.length) :
    ∃ Q' j', (lgCut R D L n).2.2 = 0 ∧ Rest S (lgCut R D L n).1 (lgCut R D L n).2.1 Q' j' ∧ recs Q' = (recs Q).take (n - L.first) ∧ (lgCut R D L n).2.1.first = L.first ∧ (lgCut R D L n).2.1.size = L.size ∧ (lgCut R D L n).1.armed = 0 ∧ (lgCut R D L n).1.lim = D.lim := by
  have hsz : L.segs = sizesQ S Q := h.segs
  obtain ⟨P, T, j', D', a1, a2, a3, a4, a5, a6, a7, a8, a9, a10⟩ := drop_spec R S (n := n) L.segs.length D Q j h.left ha h.dead (by rw [h.segs, List.length_map]; exact Nat.le_refl _)
  have hnum := h.num
  rw [a1] at hnum
  obtain ⟨n1, n2⟩ := Num.append.1 hnum
  have hrec : recs Q = recs P ++ recs T := by
    rw [a1]
    exact List.flatMap_append ..
  have hlenP : n ≤ L.first + (recs P).length := by
    cases T with
    | nil =>
      rw [h.rl, hrec] at h2
      have : recs ([] : List (Nat × List (List UInt8))) = [] := rfl
      rw [this, List.append_nil] at h2
      omega
    | cons t T =>
      have := a3 t (List.mem_cons_self ..)
      have := n2.1
      omega
  have htk : (recs Q).take (n - L.first) = (recs P).take (n - L.first) := by
    rw [hrec, List.take_append_of_le_length (by omega)]
  unfold lgCut
  rw [hsz]
  rw [hsz] at a4
  rw [a4]
  dsimp only
  rw [if_neg (by simp)]
  rcases last_cases P with rfl | ⟨P1, ⟨m, r⟩, rfl⟩
  · refine ⟨[], j', rfl, ⟨trivial, a5.fs, rfl, ?_, fun q hq => (by cases hq), a7⟩, ?_, rfl, rfl, a6, a8⟩
    · show L.l.take (n - L.first) = []
      rw [h.rl, htk]
      exact List.take_nil
    · rw [htk]
      exact List.take_nil.symm
  · have hlast : (sizesQ S (P1 ++ [(m, r)])).getLast? = some (m, (frms S r).length) := by
      unfold sizesQ
      rw [List.map_append, List.map_singleton, List.getLast?_append, List.getLast?_singleton, Option.some_or]
    have hdl : (sizesQ S (P1 ++ [(m, r)])).dropLast = sizesQ S P1 := by
      unfold sizesQ
      rw [List.map_append, List.map_singleton, List.dropLast_concat]
    rw [hlast]
    dsimp only
    obtain ⟨g1, g2, g3, g4, g5⟩ := a5.get
    have hmn := a2 (m, r) (by rw [List.getLast?_append, List.getLast?_singleton, Option.some_or])
    dsimp only at hmn
    rw [recs_snoc] at hlenP htk
    rw [List.length_append] at hlenP
    have hj' := a5.j (m, r) (by rw [List.getLast?_append, List.getLast?_singleton, Option.some_or])
    dsimp only at hj'
    -- the records that stay of the last segment
    obtain ⟨k, hk⟩ : ∃ k, k = n - m := ⟨_, rfl⟩
    have hk1 : n - L.first = (recs P1).length + k := by omega
    have hk2 : k ≤ r.length := by omega
    have hk3 : 0 < k := by omega
    have htk2 : (recs Q).take (n - L.first) = recs P1 ++ r.take k := by
      rw [htk, hk1, List.take_append, Nat.add_sub_cancel_left, List.take_of_length_le (l := recs P1) (Nat.le_add_right ..)]
    have hz : (((L.l.take (n - L.first)).drop (m - L.first)).map fun b => 8 + b.length).sum = (frms S (r.take k)).length := by
      rw [h.rl, htk2, frms_sum S]
      rw [show m - L.first = (recs P1).length by omega, List.drop_left]
    rw [hz]
    have hrn : r.take k ≠ [] := fun e => by
      have h0 : (r.take k).length = 0 := by rw [e]; rfl
      have hr0 := List.length_pos_iff.2 g4
      rw [List.length_take] at h0
      omega
    have hnumK : Num L.first (P1 ++ [(m, r.take k)]) := Num.append.2 ⟨g5, g3, hrn, trivial⟩
    by_cases he : (frms S (r.take k)).length = (frms S r).length
    · rw [if_pos he]
      have hkr : k = r.length := by
        rcases Nat.lt_or_ge k r.length with hlt | hge
        · have e1 : r = r.take k ++ r.drop k := (List.take_append_drop k r).symm
          have e2 : (frms S r).length = (frms S (r.take k)).length + (frms S (r.drop k)).length := by rw [← List.length_append, ← frms_append, ← e1]
          have e3 : 0 < (frms S (r.drop k)).length := by
            cases hd : r.drop k with
            | nil =>
              have := congrArg List.length hd
              rw [List.length_drop] at this
              simp at this
              omega
            | cons b l => rw [frms_cons, List.length_append, frmB_length]; omega
          omega
        · omega
      have hrk : r.take k = r := List.take_of_length_le (by omega)
      rw [hrk] at htk2
      refine ⟨P1 ++ [(m, r)], j', rfl, ⟨a5.num, a5.fs, rfl, ?_, a5.j, a7⟩, by rw [recs_snoc]; exact htk2.symm, rfl, rfl, a6, a8⟩
      show L.l.take (n - L.first) = _
      rw [h.rl, htk2, recs_snoc]
    · rw [if_neg he]
      have htr : D'.truncate R m (frms S (r.take k)).length = (⟨fullQ S P1 ++ [⟨m, frms S (r.take k), (frms S ((r.take k).take (min j' k))).length⟩], D'.lim, D'.armed, D'.dead⟩, 0) := by
        unfold Dk.truncate
        rw [if_neg (by rw [a7]; simp), g1, getF_end g2]
        have e0 : getF [⟨m, frms S r, (frms S (r.take j')).length⟩] m = some ⟨m, frms S r, (frms S (r.take j')).length⟩ := by
          unfold getF
          simp
        rw [e0]
        dsimp only
        rw [act_calm a6, if_neg (by rw [a7]; simp), g1, putF_end (by exact g2)]
        have e1 : (frms S r).take (frms S (r.take k)).length = frms S (r.take k) := by
          have e : frms S r = frms S (r.take k) ++ frms S (r.drop k) := by rw [← frms_append, List.take_append_drop]
          rw [e]
          exact List.take_left' rfl
        have e2 : min (frms S (r.take j')).length (frms S (r.take k)).length = (frms S ((r.take k).take (min j' k))).length := by
          rw [List.take_take, show min (min j' k) k = min j' k by omega]
          rcases Nat.le_total j' k with hjk | hjk
          · rw [Nat.min_eq_left hjk, Nat.min_eq_left (frms_pre S r _ _ hjk)]
          · rw [Nat.min_eq_right hjk, Nat.min_eq_right (frms_pre S r _ _ hjk)]
        rw [e1, e2]
        congr 2
        unfold putF
        simp
      rw [htr]
      dsimp only
      refine ⟨P1 ++ [(m, r.take k)], min j' k, rfl, ⟨hnumK, ?_, ?_, ?_, fun q hq => ?_, a7⟩, by rw [recs_snoc]; exact htk2.symm, rfl, rfl, a6, a8⟩
      · rw [filesQ_last]
      · show (sizesQ S (P1 ++ [(m, r)])).dropLast ++ _ = _
        rw [hdl, List.map_append]
        rfl
      · show L.l.take (n - L.first) = _
        rw [h.rl, htk2, recs_snoc]
      · rw [List.getLast?_append, List.getLast?_singleton, Option.some_or, Option.some.injEq] at hq
        rw [← hq, List.length_take]
        omega
/-- What is opened again: the same records. -/
theorem Left.reopen (hS : ∀ b, S b < 4294967296) {D : Dk} {f : Nat} {Q : List (Nat × List (List UInt8))} {j : Nat} (h : Left S D f Q j) (hb : ∀ b ∈ recs Q, BodyOk b) : loadL S D.fs = some (sizesQ S Q, recs Q) := by
  rcases last_cases Q with rfl | ⟨P, ⟨n, r⟩, rfl⟩
  · rw [h.fs]
    rfl
  · obtain ⟨g1, g2, g3, g4, g5⟩ := h.get
    rw [recs_snoc] at hb ⊢
    have ha := allB_frms S hS (.inl rfl) r (fun b hb' => hb b (List.mem_append_right _ hb')) (t := [])
    rw [List.append_nil] at ha
    have hl := loadL_full S hS g5 (fun b hb' => hb b (List.mem_append_left _ hb')) ⟨n, frms S r, (frms S (r.take j)).length⟩ g3
    dsimp only at hl
    rw [ha] at hl
    rw [g1, hl]
    unfold sizesQ
    rw [List.map_append]
    rfl
/-- Purge: the first segments are removed, as long as the next one's number is n or less. -/
def lgPurge : Nat → Dk → Lg → Nat → Dk × Lg × Int
  | 0, D, L, _ => (D, L, 0)
  | k + 1, D, L, n =>
    match L.segs with
    | a :: b :: l => if b.1 ≤ n then (if (D.remove R a.1).2 ≠ 0 then ((D.remove R a.1).1, L, (D.remove R a.1).2) else lgPurge k (D.remove R a.1).1 ⟨L.size, b :: l, b.1, L.l.drop (b.1 - a.1)⟩ n) else (D, L, 0)
    | _ => (D, L, 0)
theorem filesQ_num {f : Nat} {Q : List (Nat × List (List UInt8))} (h : Num f Q) (j : Nat) : ∀ g ∈ filesQ S Q j, f ≤ g.num := by
  rcases last_cases Q with rfl | ⟨P, ⟨n, r⟩, rfl⟩
  · intro g hg
    cases hg
  · intro g hg
    obtain ⟨h1, h2, _⟩ := Num.append.1 h
    rw [filesQ_last] at hg
    rcases List.mem_append.1 hg with hg | hg
    · obtain ⟨q, hq, rfl⟩ := List.mem_map.1 hg
      exact (h1.lt q hq).1
    · rw [List.mem_singleton.1 hg]
      dsimp only
      omega
/-- Behind a Purge: a part of the records, from a number on that is n or less. -/
theorem Rest.purge {n : Nat} : ∀ (k : Nat) {D : Dk} {L : Lg} {Q : List (Nat × List (List UInt8))} {j : Nat}, Rest S D L Q j → D.armed = 0 → Q.length ≤ k →
    ∃ Q' j', (lgPurge R k D L n).2.2 = 0 ∧ Rest S (lgPurge R k D L n).1 (lgPurge R k D L n).2.1 Q' j' ∧ L.first ≤ (lgPurge R k D L n).2.1.first ∧ (lgPurge R k D L n).2.1.first ≤ max L.first n ∧ (lgPurge R k D L n).2.1.first ≤ L.first + (recs Q).length ∧ recs Q' = (recs Q).drop ((lgPurge R k D L n).2.1.first - L.first) ∧ (Q ≠ [] → Q' ≠ []) ∧ (lgPurge R k D L n).1.armed = 0
  | 0, D, L, Q, j, h, ha, hk => by
    have hq : Q = [] := List.eq_nil_of_length_eq_zero (by omega)
    subst hq
    exact ⟨[], j, rfl, h, Nat.le_refl _, Nat.le_max_left _ _, Nat.le_add_right .., by unfold lgPurge; rw [Nat.sub_self]; rfl, fun h => absurd rfl h, ha⟩
  | k + 1, D, L, Q, j, h, ha, hk => by
    have stay : lgPurge R (k + 1) D L n = (D, L, 0) → ∃ Q' j', (lgPurge R (k + 1) D L n).2.2 = 0 ∧ Rest S (lgPurge R (k + 1) D L n).1 (lgPurge R (k + 1) D L n).2.1 Q' j' ∧ L.first ≤ (lgPurge R (k + 1) D L n).2.1.first ∧ (lgPurge R (k + 1) D L n).2.1.first ≤ max L.first n ∧ (lgPurge R (k + 1) D L n).2.1.first ≤ L.first + (recs Q).length ∧ recs Q' = (recs Q).drop ((lgPurge R (k + 1) D L n).2.1.first - L.first) ∧ (Q ≠ [] → Q' ≠ []) ∧ (lgPurge R (k + 1) D L n).1.armed = 0 := fun e => by
      rw [e]
      exact ⟨Q, j, rfl, h, Nat.le_refl _, Nat.le_max_left _ _, Nat.le_add_right .., by rw [Nat.sub_self]; rfl, fun h => h, ha⟩
    have hsz := h.segs
    match Q, h, hk, hsz, stay with
    | [], h, hk, hsz, stay => exact stay (by unfold lgPurge; rw [hsz]; rfl)
    | [q], h, hk, hsz, stay => exact stay (by unfold lgPurge; rw [hsz]; rfl)
    | (m, r) :: (m2, r2) :: Q, h, hk, hsz, stay =>
      obtain ⟨e1, e2, e3⟩ := h.num
      have e4 := e3.1
      by_cases hn : m2 ≤ n
      · have hrm : D.remove R m = (⟨filesQ S ((m2, r2) :: Q) j, D.lim, D.armed, D.dead⟩, 0) := by
          unfold Dk.remove
          rw [if_neg (by rw [h.dead]; simp), h.fs]
          have e0 : getF (filesQ S ((m, r) :: (m2, r2) :: Q) j) m = some ⟨m, frms S r, (frms S r).length⟩ := by
            show getF (⟨m, frms S r, (frms S r).length⟩ :: filesQ S ((m2, r2) :: Q) j) m = _
            unfold getF
            simp
          rw [e0]
          dsimp only
          rw [act_calm ha, if_neg (by rw [h.dead]; simp), h.fs]
          congr 2
          show delF (⟨m, frms S r, (frms S r).length⟩ :: filesQ S ((m2, r2) :: Q) j) m = _
          unfold delF
          rw [List.filter_cons, if_neg (by simp)]
          refine List.filter_eq_self.2 fun g hg => ?_
          have := filesQ_num S e3 j g hg
          have hr0 := List.length_pos_iff.2 e2
          simp
          omega
        have hp : lgPurge R (k + 1) D L n = lgPurge R k ⟨filesQ S ((m2, r2) :: Q) j, D.lim, D.armed, D.dead⟩ ⟨L.size, sizesQ S ((m2, r2) :: Q), m2, L.l.drop (m2 - m)⟩ n := by
          conv => lhs; unfold lgPurge
          rw [hsz]
          show (if m2 ≤ n then _ else _) = _
          rw [if_pos hn]
          dsimp only
          rw [hrm, if_neg (by simp)]
          rfl
        have hrec : recs ((m, r) :: (m2, r2) :: Q) = r ++ recs ((m2, r2) :: Q) := List.flatMap_cons ..
        have hR : Rest S ⟨filesQ S ((m2, r2) :: Q) j, D.lim, D.armed, D.dead⟩ ⟨L.size, sizesQ S ((m2, r2) :: Q), m2, L.l.drop (m2 - m)⟩ ((m2, r2) :: Q) j := by
          refine ⟨by rw [e4]; exact e4 ▸ e3, rfl, rfl, ?_, fun q hq => h.j q (by rw [List.getLast?_cons_cons]; exact hq), h.dead⟩
          show L.l.drop (m2 - m) = _
          rw [h.rl, hrec, show m2 - m = r.length by omega, List.drop_left]
        obtain ⟨Q', j', p1, p2, p3, p4, p5, p6, p7, p8⟩ := Rest.purge k hR ha (by simp at hk ⊢; omega)
        dsimp only at p3 p4 p5 p6
        rw [hp]
        refine ⟨Q', j', p1, p2, by omega, by omega, ?_, ?_, fun _ => p7 (by simp), p8⟩
        · rw [hrec, List.length_append]
          omega
        · rw [p6, hrec]
          have e5 : (lgPurge R k ⟨filesQ S ((m2, r2) :: Q) j, D.lim, D.armed, D.dead⟩ ⟨L.size, sizesQ S ((m2, r2) :: Q), m2, L.l.drop (m2 - m)⟩ n).2.1.first - L.first = r.length + ((lgPurge R k ⟨filesQ S ((m2, r2) :: Q) j, D.lim, D.armed, D.dead⟩ ⟨L.size, sizesQ S ((m2, r2) :: Q), m2, L.l.drop (m2 - m)⟩ n).2.1.first - m2) := by omega
          rw [e5, List.drop_append]
          rw [List.drop_of_length_le (l := r) (Nat.le_add_right ..), List.nil_append, Nat.add_sub_cancel_left]
      · exact stay (by
          unfold lgPurge
          rw [hsz]
          show (if m2 ≤ n then _ else _) = _
          rw [if_neg hn])
end
end Go.Proofs.YtillejdjghlicaaGreatDoor
