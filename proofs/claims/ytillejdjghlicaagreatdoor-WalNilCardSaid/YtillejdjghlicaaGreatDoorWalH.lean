/- A log in memory: drop. The condition: the last segment's file is removed. -/
import Derived.Test.YtillejdjghlicaaGreatDoorWalG
namespace Go.Proofs.YtillejdjghlicaaGreatDoor
open Go Go.Proofs Go.RowKit Go.WideElems Go.ChangeMaps Go.WideMaps
set_option maxRecDepth 100000

/-- The segments' list is stored anew, whatever list it is. -/
theorem LgM.segsAny {w w1 w2 : World} {b0 p d m : Nat} {L : Lg} {vs vl : Value} (h : LgM w b0 p d m L vs vl) (hb : b0 ≤ w.heap.size) (hd : d < w.heap.size ∧ m < w.heap.size) (hf : Fr (fun b => vs.ownBlock = some b) w w1) {a : Option Addr} {n c : Nat} {S : List (Nat × Nat)}
    (hS : SlF w1 54 2 segC (.slice a n c) S) (hg : ∀ k, (Value.slice a n c).ownBlock = some k → vs.ownBlock = some k ∨ w.heap.size ≤ k) (e : w2 = w1.setCell ⟨p, 2, none⟩ (.slice a n c)) :
    LgI w w2 b0 p d m { L with segs := S } vs vl (.slice a n c) vl := by
  subst e
  have hpw := heap_lt h.obj
  have hlw : ∀ k, vl.ownBlock = some k → k < w.heap.size := h.recs.lt
  have hpo : ¬ vs.ownBlock = some p := fun e => (h.nes p e).2.2 rfl
  have hf2 : Fr (fun b => b = p ∨ vs.ownBlock = some b) w (w1.setCell ⟨p, 2, none⟩ (.slice a n c)) := (hf.mono fun _ _ e => .inr e).setCell (p := ⟨p, 2, none⟩) (.inl (.inl rfl)) _
  have hgp : ∀ k, (Value.slice a n c).ownBlock = some k → k ≠ d ∧ k ≠ m ∧ k ≠ p := fun k hk => (hg k hk).elim (fun e => h.nes k e) fun e => by omega
  refine ⟨⟨?_, ?_, ?_, ⟨h.lo.1, fun k hk => ?_, h.lo.2.2⟩, h.ne, hgp, h.nel, fun k hk e => ?_⟩, hg, fun _ h => .inl h, hf2.mono fun _ _ e => e.elim .inl fun e => .inr (.inr (.inr (.inl e)))⟩
  · exact (heap_setCell_same (hf.heap h.obj hpo) 2 _).trans rfl
  · exact hS.other ⟨p, 2, none⟩ _ fun e => (hgp p e).2.2 rfl
  · exact h.recs.fr hf2 fun k hk e => e.elim (fun e => (h.nel k hk).2.2 e) fun e => h.nsl k e hk
  · exact (hg k hk).elim (fun e => h.lo.2.1 k e) fun e => by omega
  · exact (hg k hk).elim (fun e' => h.nsl k e' e) fun e' => by have := hlw k e; omega
section
variable {w : World} {b0 p d m : Nat} {L : Lg} {vs vl : Value}
set_option maxHeartbeats 2000000 in
theorem wdrop_calls {D : Dk} {S : List (Nat × Nat)} {s : Nat × Nat} (h : LgM w b0 p d m L vs vl) (a : DkM w d m D) (T : Tab w) (hs : L.segs = S ++ [s]) (hl : L.segs.length ≤ 1000000) (hn : s.1 < 10000000000) (he : (D.remove RR s.1).2 = 0) (hb4 : 4 < b0) (hbd : b0 ≤ d ∧ b0 ≤ m) :
    Calls Tryz.prog 31 #[.pointer (some ⟨p, 0, none⟩)] w fun e w' => e = .returned (.int .i64 0) ∧ DkM w' d m (D.remove RR s.1).1 ∧ ∃ vs', LgI w w' b0 p d m { L with segs := S } vs vl vs' vl := by
  have hlen : L.segs.length = S.length + 1 := by rw [hs, List.length_append, List.length_singleton]
  obtain ⟨ad, cap, rfl, hcp, _, h3⟩ := h.segs.shape
  obtain ⟨g, o, rfl⟩ := h3 (by omega)
  rw [hlen] at h
  have H := Lib.hid h
  have HLS := Lib.hid fun W (hW : Fr No w W) => wlast_some (h.fr0 hW) hs (by omega)
  have hseg := h.segs
  rw [← hlen] at hseg
  obtain ⟨q0, q1⟩ := SlF.cells2 segC_length hseg S.length (x := s) (by rw [hs]; simp) rfl
  have k0 : w.cell? ⟨p, 0, none⟩ = some (.pointer (some ⟨d, 0, none⟩)) := cellAt h.obj 0 rfl
  have HNM := Lib.hid fun W (hW : Fr No w W) => name_calls (T.fr0 hW) s.1 hn (s.2 : Int)
  have HRM := Lib.hid fun W (hW : Fr No w W) => (a.fr0 hW).remove s.1 hn
  have hdm := a.lts
  have HB := Lib.hid (show b0 ≤ w.heap.size by have := heap_lt h.obj; have := h.lo.1; omega)
  have HDM := Lib.hid hdm
  have HNE : Hid (p ≠ d ∧ p ≠ m ∧ g ≠ d ∧ g ≠ m) := Lib.hid ⟨h.ne.1, h.ne.2, (h.nes g rfl).1, (h.nes g rfl).2.1⟩
  have HTK : Hid (L.segs.take S.length = S) := Lib.hid (by rw [hs, List.take_left])
  have HLEN := Lib.hid hlen
  obtain ⟨s1, s2⟩ := s
  dsimp only at *
  obtain ⟨⟨E1, E2⟩, hE⟩ : ∃ E, D.remove RR s1 = E := ⟨_, rfl⟩
  rw [hE] at he HRM ⊢
  dsimp only at he HRM ⊢
  subst he
  rw [hlen]
  clear h a T hs hseg hlen hdm hE h3
  have hcap : (S.length : Int) ≤ (cap : Int) := by have := HLEN.out; omega
  have hSl : S.length ≤ 1000000 := by have := HLEN.out; omega
  generalize hSn : S.length = n at *
  have HSN := Lib.hid hSn
  clear hSn
  have hwr : IntKind.i64.wrap ((n : Int) + 1 - 1) = n := by rw [IntKind.wrap_i64]; omega
  have hwr2 : IntKind.i64.wrap (n : Int) = n := by rw [IntKind.wrap_i64]; omega
  have hn0 : (0 : Int) ≤ (n : Int) := by omega
  have hn1 : (n : Int) ≤ (n : Int) + 1 := by omega
  go_enter Tryz.func31, Tryz.ntmps31
  go_upto_region 1 with fail
  have q0' := (Fr.refl No w).drew.cell0 q0
  have q1' := (Fr.refl No w).drew.cell0 q1
  have k0' := (Fr.refl No w).drew.cell0 k0
  go_region_held3 (fun W => W.cell? ⟨p, 0, none⟩ = some (.pointer (some ⟨d, 0, none⟩)) ∧ W.cell? ⟨g, o + n * 2, none⟩ = some (.int .i64 s1) ∧ W.cell? ⟨g, o + n * 2 + 1, none⟩ = some (.int .i64 s2))
    (first | exact ⟨k0, q0, q1⟩ | exact ⟨k0', q0', q1'⟩ | exact ⟨r0, r1, r2⟩ | exact ⟨t0, t1, t2⟩ | exact ⟨z0, z1, z2⟩)
    (first
      | (go_at_call 29; (with_reducible refine (HLS.out _ (Fr.refl No w).drew).mono ?_); rintro e w4 ⟨rfl, hf4⟩; have hf34 := (Fr.refl No w).drew.trans0 hf4; have r0 := hf34.cell0 k0; have r1 := hf34.cell0 q0; have r2 := hf34.cell0 q1)
      | (go_at_call 30; (with_reducible refine (HNM.out _ hf34).mono ?_); rintro e w5 ⟨rfl, hf5⟩; have hf35 := hf34.trans0 hf5; have t0 := hf5.cell0 r0; have t1 := hf5.cell0 r1; have t2 := hf5.cell0 r2)
      | (go_at_call 38; (with_reducible refine (HRM.out _ hf35).mono ?_); rintro e w6 ⟨rfl, a6, hf6⟩; have z0 := hf6.cell t0 (fun e => e.elim HNE.out.1 HNE.out.2.1); have z1 := hf6.cell t1 (fun e => e.elim HNE.out.2.2.1 HNE.out.2.2.2); have z2 := hf6.cell t2 (fun e => e.elim HNE.out.2.2.1 HNE.out.2.2.2)))
  have hf36 : Fr (DM d m) w w6 := (hf35.mono fun _ _ h => h.elim).trans hf6 fun _ _ h => h
  have H6 := Lib.hid (H.out.frD hf36)
  have HF6 := Lib.hid hf36
  have HA6 := Lib.hid a6
  clear r0 r1 r2 t0 t1 t2 z0 z1 z2 q0 q1 k0 q0' q1' k0' hf34 hf4 hf5 hf35 hf6 hf36 a6
  have k2 : w6.cell? ⟨p, 2, none⟩ = some (.slice (some ⟨g, o, none⟩) (n + 1) cap) := cellAt H6.out.obj 2 rfl
  have kf := H6.out.free 2
  have kl := World.block_lt_of_cell? _ _ k2
  have k2' := (Fr.refl No w6).drew.cell0 k2
  have kf' := (Fr.refl No w6).drew.free0 k2 kf
  have kl' := World.block_lt_of_cell? _ _ k2'
  go_upto_region 3 with fail
  refine wp_region_still_tail 14 (by kernel_rfl) (by kernel_rfl) ?_
  simp only [List.take_succ_cons, List.take_zero, List.drop_succ_cons, List.drop_zero]
  change wpStill _ _ w6.drew _ _ _
  repeat (refine wpStill_step (fun K hK => ?_); go_simp; refine hK _ ?_; clear hK K)
  refine wpStill_nil ?_
  change wpList _ _ _ _ _ w6.drew
  have hsl := H6.out.segs
  have hsl2 : SlF w6.drew 54 2 segC (.slice (some ⟨g, o, none⟩) n cap) S := by
    have h1 : SlF w6.drew 54 2 segC (.slice (some ⟨g, o, none⟩) L.segs.length cap) L.segs := by rw [HLEN.out]; exact hsl.drew
    have h2 := h1.take segC_length n (by rw [HLEN.out]; omega)
    rwa [HTK.out] at h2
  have hsz := HF6.out.size
  have HI := Lib.hid ((LgI.disk (LgI.refl H.out) HF6.out).trans (H6.out.segsAny (w1 := w6.drew) (by have := HB.out; omega) (by have := HDM.out; omega) (Fr.refl _ w6).drew hsl2 (fun k hk => .inl hk) rfl))
  have HA := Lib.hid (HA6.out.fr (((Fr.refl (fun b => b = p) w6).drew).setCell (p := ⟨p, 2, none⟩) (.inl rfl) (.slice (some ⟨g, o, none⟩) n cap)) (fun e => HNE.out.1 e.symm) (fun e => HNE.out.2.1 e.symm))
  clear hsl hsl2 hsz
  go_wp2
  go_ret
  exact ⟨rfl, HA.out, _, HI.out⟩
end
end Go.Proofs.YtillejdjghlicaaGreatDoor
