/- A log in memory: its records' list and its last segment's size stored anew; one record's append, case by case. No program is run. -/
import Derived.Test.YtillejdjghlicaaGreatDoorWalC
import Derived.Test.YtillejdjghlicaaGreatDoorFrD
namespace Go.Proofs.YtillejdjghlicaaGreatDoor
open Go Go.Proofs Go.RowKit Go.WideElems Go.ChangeMaps Go.WideMaps
set_option maxRecDepth 100000

theorem strB_one (s : ByteArray) : ∀ u ∈ strB s, u.oneCell' = true := by
  intro u hu
  simp [strB] at hu
  subst hu
  rfl
/-- The records' list is stored anew. -/
theorem LgM.recsTo {w w1 w2 : World} {b0 p d m : Nat} {L : Lg} {vs vl : Value} (h : LgM w b0 p d m L vs vl) (hb : b0 ≤ w.heap.size) (hd : d < w.heap.size ∧ m < w.heap.size) (hf : Fr (fun b => vl.ownBlock = some b) w w1) {a : Option Addr} {n c : Nat} {S : List (List UInt8)}
    (hS : SlF w1 9 1 strB (.slice a n c) (S.map toB)) (hg : ∀ k, (Value.slice a n c).ownBlock = some k → vl.ownBlock = some k ∨ w.heap.size ≤ k) (e : w2 = w1.setCell ⟨p, 4, none⟩ (.slice a n c)) :
    LgM w2 b0 p d m { L with l := S } vs (.slice a n c) ∧ Fr (fun b => b = p ∨ vl.ownBlock = some b) w w2 := by
  subst e
  have hpw := heap_lt h.obj
  have hsw : ∀ k, vs.ownBlock = some k → k < w.heap.size := h.segs.lt
  have hpo : ¬ vl.ownBlock = some p := fun e => (h.nel p e).2.2 rfl
  have hf2 : Fr (fun b => b = p ∨ vl.ownBlock = some b) w (w1.setCell ⟨p, 4, none⟩ (.slice a n c)) := (hf.mono fun _ _ e => .inr e).setCell (p := ⟨p, 4, none⟩) (.inl (.inl rfl)) _
  have hgp : ∀ k, (Value.slice a n c).ownBlock = some k → k ≠ d ∧ k ≠ m ∧ k ≠ p := fun k hk => (hg k hk).elim (fun e => h.nel k e) fun e => by omega
  refine ⟨⟨?_, ?_, ?_, ⟨h.lo.1, h.lo.2.1, fun k hk => ?_⟩, h.ne, h.nes, hgp, fun k hk e => ?_⟩, hf2⟩
  · exact (heap_setCell_same (hf.heap h.obj hpo) 4 _).trans rfl
  · exact h.segs.fr hf2 fun k hk e => e.elim (fun e => (h.nes k hk).2.2 e) fun e => h.nsl k hk e
  · exact hS.other ⟨p, 4, none⟩ _ fun e => (hgp p e).2.2 rfl
  · exact (hg k hk).elim (fun e => h.lo.2.2 k e) fun e => by omega
  · exact (hg k e).elim (fun e' => h.nsl k hk e') fun e' => by have := hsw k hk; omega
/-- The last segment's size is stored anew. -/
theorem LgM.setSeg {w : World} {b0 p d m : Nat} {L : Lg} {vl : Value} {g o c : Nat} {T : List (Nat × Nat)} {s : Nat × Nat} (h : LgM w b0 p d m L (.slice (some ⟨g, o, none⟩) L.segs.length c) vl) (hs : L.segs = T ++ [s]) (v : Nat) :
    LgM (w.setCell ⟨g, o + T.length * 2 + 1, none⟩ (.int .i64 v)) b0 p d m { L with segs := T ++ [(s.1, v)] } (.slice (some ⟨g, o, none⟩) L.segs.length c) vl := by
  have hset := SlF.set segC_length h.segs T.length 1 (by decide) s (s.1, v) (.int .i64 v) (by rw [hs]; simp) rfl
  have hl : L.segs.set T.length (s.1, v) = T ++ [(s.1, v)] := by rw [hs]; simp
  rw [hl] at hset
  have hf : Fr (fun b => b = g) w (w.setCell ⟨g, o + T.length * 2 + 1, none⟩ (.int .i64 v)) := (Fr.refl (fun b => b = g) w).setCell (p := ⟨g, o + T.length * 2 + 1, none⟩) (.inl rfl) _
  have hne := h.nes g rfl
  exact ⟨hf.heap h.obj fun e => hne.2.2 e.symm, hset, h.recs.fr hf (fun k hk e => h.nsl g rfl (e ▸ hk)), h.lo, h.ne, h.nes, h.nel, h.nsl⟩
section
variable {D : Dk} {L : Lg} {b : List UInt8}
theorem lgPut_room {E : Dk × Lg × Int} (hE : lgRoom RR D L = E) (h : E.2.2 ≠ 0) : lgPut RR sumS D L b = E := by
  unfold lgPut
  rw [hE]
  dsimp only
  rw [if_pos h]
theorem lgPut_app {E1 : Dk} {E2 : Lg} {T : List (Nat × Nat)} {s : Nat × Nat} {A : Dk × Int} (hE : lgRoom RR D L = (E1, E2, 0)) (hs : E2.segs = T ++ [s]) (hA : E1.append RR s.1 (frmB sumS b) = A) :
    lgPut RR sumS D L b = if A.2 ≠ 0 then (A.1, E2, A.2) else (A.1, { E2 with segs := T ++ [(s.1, s.2 + (frmB sumS b).length)], l := E2.l ++ [b] }, 0) := by
  have hg : E2.segs.getLast? = some s := by rw [hs]; simp
  unfold lgPut
  rw [hE]
  dsimp only
  rw [if_neg (by simp), hg]
  dsimp only
  rw [hA]
  unfold addLast
  rw [hg]
  dsimp only
  rw [hs, List.dropLast_concat]
theorem lgRoom_last (hE : (lgRoom RR D L).2.2 = 0) : ∃ T s, (lgRoom RR D L).2.1.segs = T ++ [s] ∧ (s ∈ L.segs ∨ s = (L.first + L.l.length, 0)) ∧ T.length ≤ L.segs.length ∧ (lgRoom RR D L).2.1.l = L.l ∧ (lgRoom RR D L).2.1.first = L.first ∧ (lgRoom RR D L).2.1.size = L.size := by
  have new : ∃ T s, (L.segs ++ [(L.first + L.l.length, 0)]) = T ++ [s] ∧ (s ∈ L.segs ∨ s = (L.first + L.l.length, 0)) ∧ T.length ≤ L.segs.length := ⟨_, _, rfl, .inr rfl, Nat.le_refl _⟩
  obtain ⟨T, s, n1, n2, n3⟩ := new
  unfold lgRoom at hE ⊢
  rcases List.eq_nil_or_concat L.segs with hs | ⟨S, x, hs⟩
  · have hg : L.segs.getLast? = none := by rw [hs]; rfl
    rw [hg] at hE ⊢
    dsimp only at hE ⊢
    by_cases h2 : (lgSync RR D L).2 = 0
    · rw [if_neg (by simpa using h2)]
      exact ⟨T, s, n1, n2, n3, rfl, rfl, rfl⟩
    · rw [if_pos (show (lgSync RR D L).2 ≠ 0 from h2)] at hE
      exact (h2 hE).elim
  · rw [List.concat_eq_append] at hs
    have hg : L.segs.getLast? = some x := by rw [hs]; simp
    rw [hg] at hE ⊢
    dsimp only at hE ⊢
    by_cases h1 : x.2 < L.size
    · rw [if_pos h1]
      exact ⟨S, x, hs, .inl (by rw [hs]; simp), by rw [hs, List.length_append]; omega, rfl, rfl, rfl⟩
    · rw [if_neg h1] at hE ⊢
      by_cases h2 : (lgSync RR D L).2 = 0
      · rw [if_neg (by simpa using h2)]
        exact ⟨T, s, n1, n2, n3, rfl, rfl, rfl⟩
      · rw [if_pos (show (lgSync RR D L).2 ≠ 0 from h2)] at hE
        exact (h2 hE).elim
end
/-- A log at rest has numbers of at most ten digits. -/
theorem Rest.ok {D : Dk} {L : Lg} {Q : List (Nat × List (List UInt8))} {j : Nat} (h : Rest sumS D L Q j) (hl : sizeF D.fs ≤ 1099511627776) (h1 : 1 ≤ L.first) (ht : L.first + L.l.length ≤ 1000000) (hz : L.size ≤ 1048576) : LgOk L := by
  have hlen : ∀ (Q : List (Nat × List (List UInt8))) (f : Nat), Num f Q → Q.length ≤ (recs Q).length := by
    intro Q
    induction Q with
    | nil => exact fun _ _ => Nat.le_refl _
    | cons q Q ih =>
      intro f hn
      obtain ⟨n, r⟩ := q
      obtain ⟨_, h2, h3⟩ := hn
      have := ih _ h3
      have := List.length_pos_iff.2 h2
      have e : recs ((n, r) :: Q) = r ++ recs Q := List.flatMap_cons ..
      rw [e, List.length_append, List.length_cons]
      omega
  have hrl := h.rl
  refine ⟨fun s hs => ?_, ?_, ht, hz⟩
  · rw [h.segs] at hs
    obtain ⟨q, hq, rfl⟩ := List.mem_map.1 hs
    have h2 := h.num.lt q hq
    have h3 : (frms sumS q.2).length ≤ (frms sumS (recs Q)).length := by
      obtain ⟨A, B, rfl⟩ := List.append_of_mem hq
      have e : recs (A ++ q :: B) = recs A ++ (q.2 ++ recs B) := by
        unfold recs
        rw [List.flatMap_append, List.flatMap_cons]
      rw [e, frms_append, frms_append, List.length_append, List.length_append]
      omega
    have h4 : sizeF D.fs = (frms sumS (recs Q)).length := by rw [h.fs]; exact sizeF_filesQ sumS
    dsimp only
    rw [hrl] at ht
    omega
  · rw [h.segs, List.length_map]
    have := hlen Q _ h.num
    rw [hrl] at ht
    omega
end Go.Proofs.YtillejdjghlicaaGreatDoor
