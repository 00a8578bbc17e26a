/- WalLasts in plain terms: records are appended and synced until the disk dies; what is read behind the crash has all synced ones, and a beginning of the others. No program is run. -/
import Derived.Test.YtillejdjghlicaaGreatDoorLogM
namespace Go.Proofs.YtillejdjghlicaaGreatDoor
open Go Go.Proofs Go.RowKit

section
variable (R : Errs) (S : List UInt8 → Nat)
/-- What Open reads of the files: the segments (number, bytes) and the records; none where a segment is broken ahead of the last one. -/
def loadL : List Fi → Option (List (Nat × Nat) × List (List UInt8))
  | [] => some ([], [])
  | [f] => some ([(f.num, (allB S f.data).2.1)], (allB S f.data).1)
  | f :: g :: l =>
    if (allB S f.data).2.1 < f.data.length ∨ g.num ≠ f.num + (allB S f.data).1.length then none
    else match loadL (g :: l) with
    | none => none
    | some (s, r) => some ((f.num, (allB S f.data).2.1) :: s, (allB S f.data).1 ++ r)
theorem loadL_full (hS : ∀ b, S b < 4294967296) {f : Nat} {P : List (Nat × List (List UInt8))} (hP : Num f P) (hb : ∀ b ∈ recs P, BodyOk b) (g : Fi) (hg : g.num = f + (recs P).length) :
    loadL S (fullQ S P ++ [g]) = some (P.map (fun q => (q.1, (frms S q.2).length)) ++ [(g.num, (allB S g.data).2.1)], recs P ++ (allB S g.data).1) := by
  induction P generalizing f with
  | nil => rfl
  | cons p P ih =>
    obtain ⟨n, r⟩ := p
    obtain ⟨h1, h2, h3⟩ := hP
    have e : recs ((n, r) :: P) = r ++ recs P := List.flatMap_cons ..
    rw [e] at hb hg
    rw [List.length_append] at hg
    have ih2 := ih h3 (fun b hb' => hb b (List.mem_append_right _ hb')) (by omega)
    have ha := allB_frms S hS (.inl rfl) r (fun b hb' => hb b (List.mem_append_left _ hb')) (t := [])
    rw [List.append_nil] at ha
    have hne : ∃ g2 l2, fullQ S P ++ [g] = g2 :: l2 ∧ g2.num = n + r.length := by
      cases P with
      | nil =>
        refine ⟨g, [], rfl, ?_⟩
        have : (recs ([] : List (Nat × List (List UInt8)))).length = 0 := rfl
        omega
      | cons q P =>
        obtain ⟨m, s⟩ := q
        refine ⟨⟨m, frms S s, (frms S s).length⟩, fullQ S P ++ [g], rfl, ?_⟩
        have := h3.1
        dsimp only
        omega
    obtain ⟨g2, l2, e2, e3⟩ := hne
    show loadL S (⟨n, frms S r, (frms S r).length⟩ :: (fullQ S P ++ [g])) = _
    rw [e2] at ih2 ⊢
    unfold loadL
    rw [ih2]
    dsimp only
    rw [ha]
    dsimp only
    rw [if_neg (by omega), e, List.append_assoc]
    rfl
/-- What is read behind a crash. -/
theorem Left.crash (hS : ∀ b, S b < 4294967296) {D : Dk} {f : Nat} {Q : List (Nat × List (List UInt8))} {j : Nat} (h : Left S D f Q j) (hb : ∀ b ∈ recs Q, BodyOk b) (ks : List Int) :
    ∃ m segs, syncedQ Q j ≤ m ∧ m ≤ (recs Q).length ∧ loadL S (crashF D.fs ks) = some (segs, (recs Q).take m) ∧ (∀ s, segs.head? = some s → s.1 = f) := by
  rcases last_cases Q with rfl | ⟨P, ⟨n, r⟩, rfl⟩
  · rw [h.fs]
    exact ⟨0, [], Nat.le_refl _, Nat.le_refl _, rfl, fun s hs => by cases hs⟩
  · obtain ⟨g1, g2, g3, g4, g5⟩ := h.get
    have hj := h.j (n, r) (by rw [List.getLast?_append, List.getLast?_singleton, Option.some_or])
    dsimp only at hj
    rw [recs_snoc] at hb ⊢
    have hpre : (frms S (r.take j)).length ≤ (frms S r).length := by
      have e : frms S r = frms S (r.take j) ++ frms S (r.drop j) := by rw [← frms_append, List.take_append_drop]
      rw [e, List.length_append]
      omega
    obtain ⟨m, m1, m2, m3⟩ := crashF_last ⟨n, frms S r, (frms S (r.take j)).length⟩ hpre ks
    dsimp only at m1 m2 m3
    obtain ⟨k, t, k1, k2, k3, k4, k5⟩ := frms_take S r m fun b hb' => hb b (List.mem_append_right _ hb')
    have hk := k5 j hj m1
    have ha := allB_frms S hS k2 (r.take k) fun b hb' => hb b (List.mem_append_right _ (List.mem_of_mem_take hb'))
    rw [← k3] at ha
    have hl := loadL_full S hS g5 (fun b hb' => hb b (List.mem_append_left _ hb')) ⟨n, (frms S r).take m, m⟩ g3
    dsimp only at hl
    rw [ha] at hl
    refine ⟨(recs P).length + k, P.map (fun q => (q.1, (frms S q.2).length)) ++ [(n, (frms S (r.take k)).length)], ?_, ?_, ?_, ?_⟩
    · rw [syncedQ_last]
      omega
    · rw [List.length_append]
      omega
    · rw [g1, crashF_full, m3, hl]
      dsimp only
      have e : (recs P ++ r).take ((recs P).length + k) = recs P ++ r.take k := by
        rw [List.take_append, Nat.add_sub_cancel_left, List.take_of_length_le (l := recs P) (Nat.le_add_right ..)]
      rw [e]
    · intro s hs
      cases P with
      | nil =>
        simp at hs
        have : (recs ([] : List (Nat × List (List UInt8)))).length = 0 := rfl
        rw [← hs]
        dsimp only
        omega
      | cons p P =>
        simp at hs
        rw [← hs]
        exact g5.1
/-- Records appended one by one, each synced or not, until one is refused: the disk, how many were synced for sure. -/
def playW : List (List UInt8 × Bool) → Dk → Lg → Nat → Nat → Dk × Nat
  | [], D, _, _, y => (D, y)
  | (b, c) :: l, D, L, i, y =>
    if (lgPut R S D L b).2.2 ≠ 0 then ((lgPut R S D L b).1, y)
    else if c = true then
      if (lgSync R (lgPut R S D L b).1 (lgPut R S D L b).2.1).2 ≠ 0 then ((lgSync R (lgPut R S D L b).1 (lgPut R S D L b).2.1).1, y)
      else playW l (lgSync R (lgPut R S D L b).1 (lgPut R S D L b).2.1).1 (lgPut R S D L b).2.1 (i + 1) (i + 1)
    else playW l (lgPut R S D L b).1 (lgPut R S D L b).2.1 (i + 1) y
theorem playW_left {bodies : List (List UInt8)} : ∀ (l : List (List UInt8 × Bool)) (D : Dk) (L : Lg) (i y : Nat) (Q : List (Nat × List (List UInt8))) (j : Nat), Rest S D L Q j → recs Q = bodies.take i → bodies.drop i = l.map (·.1) → i ≤ bodies.length → y ≤ syncedQ Q j → (frms S bodies).length ≤ D.lim → L.first = 1 →
    ∃ Q' j', Left S (playW R S l D L i y).1 1 Q' j' ∧ (playW R S l D L i y).2 ≤ syncedQ Q' j' ∧ ∃ m, m ≤ bodies.length ∧ recs Q' = bodies.take m
  | [], D, L, i, y, Q, j, h, h1, h2, h3, h4, h5, h6 => ⟨Q, j, by rw [← h6]; exact h.left, h4, i, h3, h1⟩
  | (b, c) :: l, D, L, i, y, Q, j, h, h1, h2, h3, h4, h5, h6 => by
    have hi : i < bodies.length := by
      have := congrArg List.length h2
      rw [List.length_drop, List.length_map, List.length_cons] at this
      omega
    have hb : bodies[i]? = some b := by
      have := congrArg (fun x => x[0]?) h2
      simpa [List.getElem?_drop] using this
    have htk : bodies.take (i + 1) = bodies.take i ++ [b] := by
      rw [List.take_add_one, hb]
      rfl
    have hdr : bodies.drop (i + 1) = l.map (·.1) := by
      have := congrArg (List.drop 1) h2
      simpa [List.drop_drop, Nat.add_comm] using this
    have hroom : (frms S (L.l ++ [b])).length ≤ D.lim := by
      rw [h.rl, h1, ← htk]
      have e : frms S bodies = frms S (bodies.take (i + 1)) ++ frms S (bodies.drop (i + 1)) := by rw [← frms_append, List.take_append_drop]
      rw [e, List.length_append] at h5
      omega
    obtain ⟨Q1, j1, s0, hp⟩ := h.put R S b hroom
    unfold playW
    rcases hp with ⟨p1, p2, p3, p4, p5, p6, _⟩ | ⟨p1, p2, p3, _⟩
    · rw [if_neg (by simpa using p1)]
      rw [h1, ← htk] at p3
      rw [h6] at p4
      cases c with
      | false =>
        rw [if_neg (by simp)]
        exact playW_left l _ _ (i + 1) y Q1 j1 p2 p3 hdr hi (by omega) (by rw [p5]; exact h5) p4
      | true =>
        rw [if_pos rfl]
        rcases p2.sync R S with ⟨q1, q2, q3, q4, _⟩ | ⟨q1, q2, _⟩
        · rw [if_neg (by simpa using q1)]
          refine playW_left l _ _ (i + 1) (i + 1) Q1 _ q2 p3 hdr hi ?_ (by rw [q4, p5]; exact h5) p4
          rw [q3, p2.rl, p3, List.length_take]
          omega
        · rw [if_pos q1]
          rw [p4] at q2
          exact ⟨Q1, j1, q2, by dsimp only; omega, i + 1, hi, p3⟩
    · rw [if_pos p1]
      rw [h6] at p2
      refine ⟨Q1, j1, p2, by dsimp only; omega, ?_⟩
      rcases p3 with p3 | p3
      · exact ⟨i, h3, by rw [p3, h1]⟩
      · exact ⟨i + 1, hi, by rw [p3, h1, htk]⟩
/-- THE LAW: all that was synced is read behind the crash, and a beginning of what was appended behind it. -/
theorem lasts (hS : ∀ b, S b < 4294967296) {bodies : List (List UInt8)} (hb : ∀ b ∈ bodies, BodyOk b) (l : List (List UInt8 × Bool)) (hl : l.map (·.1) = bodies) {D : Dk} (hD : D.fs = []) (hd : D.dead = false) (hlim : (frms S bodies).length ≤ D.lim) (size : Nat) (ks : List Int) :
    ∃ m segs, (playW R S l D ⟨size, [], 1, []⟩ 0 0).2 ≤ m ∧ m ≤ bodies.length ∧ loadL S (crashF (playW R S l D ⟨size, [], 1, []⟩ 0 0).1.fs ks) = some (segs, bodies.take m) ∧ (∀ s, segs.head? = some s → s.1 = 1) := by
  have h0 : Rest S D ⟨size, [], 1, []⟩ [] 0 := ⟨trivial, hD, rfl, rfl, fun q hq => (by cases hq), hd⟩
  obtain ⟨Q, j, h1, h2, k, h3, h4⟩ := playW_left R S l D ⟨size, [], 1, []⟩ 0 0 [] 0 h0 rfl (by rw [List.drop_zero, hl]) (Nat.zero_le _) (Nat.zero_le _) hlim rfl
  obtain ⟨m, segs, m1, m2, m3, m4⟩ := h1.crash S hS (fun b hb' => by rw [h4] at hb'; exact hb b (List.mem_of_mem_take hb')) ks
  rw [h4, List.length_take] at m2
  refine ⟨m, segs, by omega, by omega, ?_, m4⟩
  rw [m3, h4, List.take_take, Nat.min_eq_left (by omega)]
end
end Go.Proofs.YtillejdjghlicaaGreatDoor
