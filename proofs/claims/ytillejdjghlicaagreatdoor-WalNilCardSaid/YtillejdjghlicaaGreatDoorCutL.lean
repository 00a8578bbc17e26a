/- What a Cut does in plain terms, as the code goes. No program is run. -/
import Derived.Test.YtillejdjghlicaaGreatDoorWalH
namespace Go.Proofs.YtillejdjghlicaaGreatDoor
open Go Go.Proofs Go.RowKit

theorem lgCut_none {D Di : Dk} {L : Lg} {n : Nat} (h : lgDrop RR L.segs.length D L.segs n = (Di, [], 0)) : lgCut RR D L n = (Di, { L with segs := [], l := L.l.take (n - L.first) }, 0) := by
  unfold lgCut
  rw [h]
  dsimp only
  rw [if_neg (by simp)]
  rfl
/-- How many bytes the last segment then has. -/
def cutZ (L : Lg) (n a : Nat) : Nat := (((L.l.take (n - L.first)).drop (a - L.first)).map fun b => 8 + b.length).sum
theorem lgCut_some {D Di : Dk} {L : Lg} {n : Nat} {T : List (Nat × Nat)} {s : Nat × Nat} (h : lgDrop RR L.segs.length D L.segs n = (Di, T ++ [s], 0)) :
    lgCut RR D L n = if cutZ L n s.1 = s.2 then (Di, { L with segs := T ++ [s], l := L.l.take (n - L.first) }, 0) else ((Di.truncate RR s.1 (cutZ L n s.1)).1, { L with segs := T ++ [(s.1, cutZ L n s.1)], l := L.l.take (n - L.first) }, (Di.truncate RR s.1 (cutZ L n s.1)).2) := by
  have hg : (T ++ [s]).getLast? = some s := by simp
  unfold lgCut
  rw [h]
  dsimp only
  rw [if_neg (by simp), hg]
  dsimp only
  rw [List.dropLast_concat]
  rfl
/-- What the code needs of the plain Cut. -/
theorem Rest.cutW {D : Dk} {L : Lg} {Q : List (Nat × List (List UInt8))} {j : Nat} (h : Rest sumS D L Q j) (ha : D.armed = 0) {n : Nat} (h1 : L.first ≤ n) (h2 : n < L.first + L.l.length) :
    ∃ D' SS, lgDrop RR L.segs.length D L.segs n = (D', SS, 0) ∧ (∀ T s, SS = T ++ [s] → s.1 < n ∧ L.first ≤ s.1 ∧ ∀ g, getF D'.fs s.1 = some g → cutZ L n s.1 ≤ g.data.length) ∧ (lgCut RR D L n).2.2 = 0 := by
  have hcut := h.cut RR sumS ha h1 h2
  obtain ⟨_, _, c1, _⟩ := hcut
  have hsz : L.segs = sizesQ sumS Q := h.segs
  obtain ⟨P, T, j', D', a1, a2, a3, a4, a5, a6, a7, a8, a9, a10⟩ := drop_spec RR sumS (n := n) L.segs.length D Q j h.left ha h.dead (by rw [h.segs, List.length_map]; exact Nat.le_refl _)
  refine ⟨D', sizesQ sumS P, by rw [← a4, hsz], fun T' s hs => ?_, c1⟩
  rcases last_cases P with rfl | ⟨P1, ⟨m, r⟩, rfl⟩
  · exact absurd hs (by simp [sizesQ])
  · have hs' : sizesQ sumS (P1 ++ [(m, r)]) = sizesQ sumS P1 ++ [(m, (frms sumS r).length)] := by
      unfold sizesQ
      rw [List.map_append]
      rfl
    rw [hs'] at hs
    obtain ⟨_, rfl⟩ : sizesQ sumS P1 = T' ∧ (m, (frms sumS r).length) = s := by
      have := List.append_inj' hs rfl
      exact ⟨this.1, by simpa using this.2⟩
    have hmn := a2 (m, r) (by simp)
    dsimp only at hmn ⊢
    obtain ⟨g1, g2, g3, g4, g5⟩ := a5.get
    refine ⟨hmn, by omega, fun g hg => ?_⟩
    rw [g1, getF_end g2] at hg
    have e0 : getF [⟨m, frms sumS r, (frms sumS (r.take j')).length⟩] m = some ⟨m, frms sumS r, (frms sumS (r.take j')).length⟩ := by
      unfold getF
      simp
    rw [e0] at hg
    cases hg
    dsimp only
    unfold cutZ
    rw [frms_sum sumS]
    have hrec : recs Q = recs P1 ++ r ++ recs T := by
      rw [a1]
      show (P1 ++ [(m, r)] ++ T).flatMap (·.2) = _
      rw [List.flatMap_append]
      show recs (P1 ++ [(m, r)]) ++ recs T = _
      rw [recs_snoc]
    have hk : n - L.first ≤ (recs P1).length + r.length := by
      cases T with
      | nil =>
        rw [h.rl, hrec] at h2
        have e : recs ([] : List (Nat × List (List UInt8))) = [] := rfl
        rw [e, List.append_nil, List.length_append] at h2
        omega
      | cons t T =>
        have q1 := a3 t (List.mem_cons_self ..)
        have hnum := h.num
        rw [a1] at hnum
        have q2 := (Num.append.1 hnum).2.1
        have q3 : (recs (P1 ++ [(m, r)])).length = (recs P1).length + r.length := by rw [recs_snoc, List.length_append]
        omega
    have hz : (L.l.take (n - L.first)).drop (m - L.first) = r.take (n - L.first - (recs P1).length) := by
      rw [h.rl, hrec, List.append_assoc, List.take_append, List.take_append, List.take_of_length_le (l := recs P1) (by omega), show m - L.first = (recs P1).length by omega, List.drop_left]
      rw [show n - L.first - (recs P1).length - r.length = 0 by omega, List.take_zero, List.append_nil]
    rw [hz]
    have e : frms sumS r = frms sumS (r.take (n - L.first - (recs P1).length)) ++ frms sumS (r.drop (n - L.first - (recs P1).length)) := by rw [← frms_append, List.take_append_drop]
    rw [e, List.length_append]
    omega
/-- One step of the removing. -/
theorem lgDrop_stop {D : Dk} {T : List (Nat × Nat)} {s : Nat × Nat} {n : Nat} (h : ¬ n ≤ s.1) : lgDrop RR (T ++ [s]).length D (T ++ [s]) n = (D, T ++ [s], 0) := by
  rw [List.length_append, List.length_singleton]
  unfold lgDrop
  rw [show (T ++ [s]).getLast? = some s by simp]
  dsimp only
  rw [if_neg h]
theorem lgDrop_step {D : Dk} {T : List (Nat × Nat)} {s : Nat × Nat} {n : Nat} (h : n ≤ s.1) (h0 : (lgDrop RR (T ++ [s]).length D (T ++ [s]) n).2.2 = 0) : (D.remove RR s.1).2 = 0 ∧ lgDrop RR (T ++ [s]).length D (T ++ [s]) n = lgDrop RR T.length (D.remove RR s.1).1 T n := by
  rw [List.length_append, List.length_singleton] at h0 ⊢
  unfold lgDrop at h0
  conv => rhs; lhs; unfold lgDrop
  rw [show (T ++ [s]).getLast? = some s by simp] at h0 ⊢
  dsimp only at h0 ⊢
  rw [if_pos h] at h0 ⊢
  by_cases he : (D.remove RR s.1).2 = 0
  · rw [if_neg (by simpa using he), List.dropLast_concat]
    exact ⟨he, rfl⟩
  · rw [if_pos he] at h0
    exact absurd h0 he
end Go.Proofs.YtillejdjghlicaaGreatDoor
