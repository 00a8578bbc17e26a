/- WalCuts and WalTwice in plain terms: records are put, cut, purged, and read again. No program is run. -/
import Derived.Test.YtillejdjghlicaaGreatDoorLogO
namespace Go.Proofs.YtillejdjghlicaaGreatDoor
open Go Go.Proofs Go.RowKit

section
variable (R : Errs) (S : List UInt8 → Nat)
/-- Records put one behind the other, up to one that is refused. -/
def lgPuts : List (List UInt8) → Dk → Lg → Dk × Lg × Int
  | [], D, L => (D, L, 0)
  | b :: l, D, L => if (lgPut R S D L b).2.2 ≠ 0 then lgPut R S D L b else lgPuts l (lgPut R S D L b).1 (lgPut R S D L b).2.1
/-- On a disk that does not die, with room for all, all are put. -/
theorem Rest.puts : ∀ (l : List (List UInt8)) {D : Dk} {L : Lg} {Q : List (Nat × List (List UInt8))} {j : Nat}, Rest S D L Q j → D.armed = 0 → (frms S (L.l ++ l)).length ≤ D.lim →
    ∃ Q' j', (lgPuts R S l D L).2.2 = 0 ∧ Rest S (lgPuts R S l D L).1 (lgPuts R S l D L).2.1 Q' j' ∧ recs Q' = recs Q ++ l ∧ (lgPuts R S l D L).2.1.first = L.first ∧ (lgPuts R S l D L).2.1.size = L.size ∧ (lgPuts R S l D L).1.armed = 0 ∧ (lgPuts R S l D L).1.lim = D.lim
  | [], D, L, Q, j, h, ha, hr => ⟨Q, j, rfl, h, (List.append_nil _).symm, rfl, rfl, ha, rfl⟩
  | b :: l, D, L, Q, j, h, ha, hr => by
    have hr1 : (frms S (L.l ++ [b])).length ≤ D.lim := by
      have e : frms S (L.l ++ b :: l) = frms S (L.l ++ [b]) ++ frms S l := by
        rw [← frms_append, List.append_assoc]
        rfl
      rw [e, List.length_append] at hr
      omega
    obtain ⟨Q1, j1, _, hp⟩ := h.put R S b hr1
    rcases hp with ⟨p1, p2, p3, p4, p5, p6, p7⟩ | ⟨_, _, _, p4⟩
    · unfold lgPuts
      rw [if_neg (by simpa using p1)]
      obtain ⟨Q', j', q1, q2, q3, q4, q5, q6, q7⟩ := Rest.puts l p2 (by omega) (by rw [p2.rl, p3, ← h.rl, p5, List.append_assoc]; exact hr)
      exact ⟨Q', j', q1, q2, by rw [q3, p3, List.append_assoc]; rfl, by rw [q4, p4], by rw [q5, p6], q6, by rw [q7, p5]⟩
    · omega
/-- WalCuts: put all, cut at n, put one more, sync, purge at p. -/
theorem cuts_law {bodies : List (List UInt8)} {more : List UInt8} {D : Dk} (hD : D.fs = []) (hd : D.dead = false) (ha : D.armed = 0) (hlim : (frms S (bodies ++ [more])).length ≤ D.lim) (size : Nat) {n p : Nat} (hn : 1 ≤ n ∧ n ≤ bodies.length) (hp : 1 ≤ p ∧ p ≤ n) :
    let a := lgPuts R S bodies D ⟨size, [], 1, []⟩
    let b := lgCut R a.1 a.2.1 n
    let c := lgPut R S b.1 b.2.1 more
    let d := lgSync R c.1 c.2.1
    let e := lgPurge R c.2.1.segs.length d.1 c.2.1 p
    a.2.2 = 0 ∧ b.2.2 = 0 ∧ b.2.1.first + b.2.1.l.length = n ∧ c.2.2 = 0 ∧ d.2 = 0 ∧ e.2.2 = 0 ∧ 1 ≤ e.2.1.first ∧ e.2.1.first ≤ p ∧ ∃ Q j, Rest S e.1 e.2.1 Q j ∧ Q ≠ [] ∧ recs Q = (bodies.take (n - 1) ++ [more]).drop (e.2.1.first - 1) := by
  intro a b c d e
  have hfb : (frms S bodies).length ≤ D.lim := by
    rw [frms_append, List.length_append] at hlim
    omega
  have h0 : Rest S D ⟨size, [], 1, []⟩ [] 0 := ⟨trivial, hD, rfl, rfl, fun q hq => (by cases hq), hd⟩
  obtain ⟨Q1, j1, a1, a2, a3, a4, a5, a6, a7⟩ := Rest.puts R S bodies h0 ha (by rw [List.nil_append]; exact hfb)
  have ar : recs Q1 = bodies := a3
  have al : a.2.1.l = bodies := by rw [← ar]; exact a2.rl
  have af : a.2.1.first = 1 := a4
  obtain ⟨Q2, j2, b1, b2, b3, b4, b5, b6, b7⟩ := Rest.cut R S a2 a6 (n := n) (by rw [a4]; exact hn.1) (by rw [a4]; show n < 1 + a.2.1.l.length; rw [al]; omega)
  have br : recs Q2 = bodies.take (n - 1) := by rw [b3, ar, a4]
  have bl : b.2.1.l = bodies.take (n - 1) := by rw [← br]; exact b2.rl
  have bf : b.2.1.first = 1 := by rw [← af]; exact b4
  have hpre : (frms S (bodies.take (n - 1))).length ≤ (frms S bodies).length := by
    have e : frms S bodies = frms S (bodies.take (n - 1)) ++ frms S (bodies.drop (n - 1)) := by rw [← frms_append, List.take_append_drop]
    rw [e, List.length_append]
    omega
  have hblim : b.1.lim = D.lim := b7.trans a7
  obtain ⟨Q3, j3, _, hc⟩ := b2.put R S more (by
    show (frms S (b.2.1.l ++ [more])).length ≤ b.1.lim
    rw [bl, hblim, frms_append, List.length_append]
    rw [frms_append, List.length_append] at hlim
    omega)
  rcases hc with ⟨c1, c2, c3, c4, c5, c6, c7⟩ | ⟨_, _, _, c4⟩
  · have ca : c.1.armed = 0 := by have : c.1.armed ≤ b.1.armed := c7; have : b.1.armed = 0 := b6; omega
    have cr : recs Q3 = bodies.take (n - 1) ++ [more] := by rw [c3, br]
    have cf : c.2.1.first = 1 := by rw [← bf]; exact c4
    have hQ3 : Q3 ≠ [] := fun h => by
      rw [h] at cr
      have := congrArg List.length cr
      rw [List.length_append] at this
      have h0 : (recs ([] : List (Nat × List (List UInt8)))).length = 0 := rfl
      rw [h0] at this
      simp at this
    rcases c2.sync R S with ⟨d1, d2, _, _, d5⟩ | ⟨_, _, d3⟩
    · have da : d.1.armed = 0 := by have : d.1.armed ≤ c.1.armed := d5; omega
      obtain ⟨Q4, j4, e1, e2, e3, e4, e5, e6, e7, e8⟩ := Rest.purge R S (n := p) c.2.1.segs.length d2 da (by
        have : c.2.1.segs = _ := c2.segs
        rw [this, List.length_map]
        exact Nat.le_refl _)
      have e3' : c.2.1.first ≤ e.2.1.first := e3
      have e4' : e.2.1.first ≤ max c.2.1.first p := e4
      refine ⟨a1, b1, ?_, c1, d1, e1, by omega, by omega, Q4, j4, e2, e7 hQ3, ?_⟩
      · rw [bf, bl, List.length_take]
        omega
      · rw [e6, cr]
        show List.drop (e.2.1.first - c.2.1.first) _ = _
        rw [cf]
    · have : 0 < c.1.armed := d3
      omega
  · have : 0 < b.1.armed := c4
    have : b.1.armed = 0 := b6
    omega
end
end Go.Proofs.YtillejdjghlicaaGreatDoor
