/- A log in memory: room. The conditions: what LgM and LgOk say. -/
import Derived.Test.YtillejdjghlicaaGreatDoorWalB
import Derived.BigQuiet
namespace Go.Proofs.YtillejdjghlicaaGreatDoor
open Go Go.Proofs Go.RowKit Go.WideElems Go.ChangeMaps Go.WideMaps
set_option maxRecDepth 100000

/-- The blocks of a log and its disk. -/
abbrev LB (p d m : Nat) (vs vl : Value) : Nat → Prop := fun b => b = p ∨ b = d ∨ b = m ∨ vs.ownBlock = some b ∨ vl.ownBlock = some b
/-- Behind a call: the log, its blocks of old or new ones; what changed. -/
structure LgTo (w w' : World) (b0 p d m : Nat) (L' : Lg) (vs vl : Value) : Prop where
  lg : ∃ vs' vl', LgM w' b0 p d m L' vs' vl' ∧ (∀ k, vs'.ownBlock = some k → vs.ownBlock = some k ∨ w.heap.size ≤ k) ∧ (∀ k, vl'.ownBlock = some k → vl.ownBlock = some k ∨ w.heap.size ≤ k)
  fr : Fr (LB p d m vs vl) w w'
theorem LgM.same {w w' : World} {b0 p d m : Nat} {L : Lg} {vs vl : Value} (h : LgM w b0 p d m L vs vl) (hf : Fr (DM d m) w w') : LgTo w w' b0 p d m L vs vl :=
  ⟨⟨vs, vl, h.frD hf, fun _ h => .inl h, fun _ h => .inl h⟩, hf.mono fun _ _ e => e.elim (fun e => .inr (.inl e)) fun e => .inr (.inr (.inl e))⟩
theorem LgTo.trans {w w1 w2 : World} {b0 p d m : Nat} {L2 : Lg} {vs vl vs1 vl1 : Value} (o1 : ∀ k, vs1.ownBlock = some k → vs.ownBlock = some k ∨ w.heap.size ≤ k) (o2 : ∀ k, vl1.ownBlock = some k → vl.ownBlock = some k ∨ w.heap.size ≤ k) (hf : Fr (LB p d m vs vl) w w1) (k : LgTo w1 w2 b0 p d m L2 vs1 vl1) : LgTo w w2 b0 p d m L2 vs vl := by
  obtain ⟨⟨vs2, vl2, h1, h2, h3⟩, h4⟩ := k
  have hsz := hf.size
  refine ⟨⟨vs2, vl2, h1, fun k hk => ?_, fun k hk => ?_⟩, hf.trans h4 fun b hb e => ?_⟩
  · exact (h2 k hk).elim (o1 k) fun e => .inr (by omega)
  · exact (h3 k hk).elim (o2 k) fun e => .inr (by omega)
  · rcases e with e | e | e | e | e
    · exact .inl e
    · exact .inr (.inl e)
    · exact .inr (.inr (.inl e))
    · exact (o1 b e).elim (fun e => .inr (.inr (.inr (.inl e)))) fun e => by omega
    · exact (o2 b e).elim (fun e => .inr (.inr (.inr (.inr e)))) fun e => by omega
theorem own_slice {g o n c : Nat} : ∀ k, (Value.slice (some ⟨g, o, none⟩) n c).ownBlock = some k → k = g := fun k hk => by simp [Value.ownBlock] at hk; omega
theorem segC_one (s : Nat × Nat) : ∀ u ∈ segC s, u.oneCell' = true := by
  intro u hu
  simp [segC] at hu
  rcases hu with rfl | rfl <;> rfl
/-- A segment more: its list is stored anew. -/
theorem LgM.segsTo {w w1 w2 : World} {b0 p d m : Nat} {L : Lg} {vs vl : Value} (h : LgM w b0 p d m L vs vl) (hb : b0 ≤ w.heap.size) (hd : d < w.heap.size ∧ m < w.heap.size) (hf : Fr (fun b => vs.ownBlock = some b) w w1) {g o n c : Nat} {S : List (Nat × Nat)}
    (hS : SlF w1 54 2 segC (.slice (some ⟨g, o, none⟩) n c) S) (hg : vs.ownBlock = some g ∨ w.heap.size ≤ g) (e : w2 = w1.setCell ⟨p, 2, none⟩ (.slice (some ⟨g, o, none⟩) n c)) :
    LgM w2 b0 p d m { L with segs := S } (.slice (some ⟨g, o, none⟩) n c) vl ∧ Fr (fun b => b = p ∨ vs.ownBlock = some b) w w2 := by
  subst e
  have hpw := heap_lt h.obj
  have hlw : ∀ k, vl.ownBlock = some k → k < w.heap.size := h.recs.lt
  have hgp : g ≠ d ∧ g ≠ m ∧ g ≠ p := hg.elim (fun e => h.nes g e) fun e => by omega
  have hpo : ¬ vs.ownBlock = some p := fun e => (h.nes p e).2.2 rfl
  have hf2 : Fr (fun b => b = p ∨ vs.ownBlock = some b) w (w1.setCell ⟨p, 2, none⟩ (.slice (some ⟨g, o, none⟩) n c)) := (hf.mono fun _ _ e => .inr e).setCell (p := ⟨p, 2, none⟩) (.inl (.inl rfl)) _
  refine ⟨⟨?_, ?_, ?_, ⟨h.lo.1, fun k hk => ?_, h.lo.2.2⟩, h.ne, fun k hk => ?_, h.nel, fun k hk e => ?_⟩, hf2⟩
  · exact (heap_setCell_same (hf.heap h.obj hpo) 2 _).trans rfl
  · exact hS.other ⟨p, 2, none⟩ _ fun e => hgp.2.2 (by simpa [Value.ownBlock] using e)
  · exact h.recs.fr hf2 fun k hk e => e.elim (fun e => (h.nel k hk).2.2 e) fun e => h.nsl k e hk
  · have := own_slice k hk
    subst this
    exact hg.elim (fun e => h.lo.2.1 k e) fun e => by omega
  · have := own_slice k hk
    subst this
    exact hgp
  · have := own_slice k hk
    subst this
    exact hg.elim (fun e' => h.nsl k e' e) fun e' => by have := hlw k e; omega
section
variable {w : World} {b0 p d m : Nat} {L : Lg} {vs vl : Value}
set_option maxHeartbeats 2000000 in
theorem wroom_calls {D : Dk} (h : LgM w b0 p d m L vs vl) (a : DkM w d m D) (T : Tab w) (ok : LgOk L) (hb4 : 4 < b0) (hbd : b0 ≤ d ∧ b0 ≤ m) : Calls Tryz.prog 27 #[.pointer (some ⟨p, 0, none⟩)] w fun e w' => e = .returned (.int .i64 (lgRoom RR D L).2.2) ∧ DkM w' d m (lgRoom RR D L).1 ∧ LgTo w w' b0 p d m (lgRoom RR D L).2.1 vs vl := by
  obtain ⟨i0, hi0, hz0, hz1, hz2⟩ := info_parts infoSeg
  have H := Lib.hid h
  have A := Lib.hid a
  have HSY := Lib.hid fun W (hW : Fr No w W) => wsync_calls (h.fr0 hW) (a.fr0 hW) (T.fr0 hW) ok
  have HNX := Lib.hid fun W (hW : Fr (DM d m) w W) => wnext_calls (h.frD hW) (by have := ok.top; omega)
  have HB := Lib.hid (And.intro hb4 hbd)
  have hdm : d < w.heap.size ∧ m < w.heap.size := ⟨heap_lt a.mem.obj, a.mem.map.lt⟩
  have HDM := Lib.hid hdm
  have hpw := heap_lt h.obj
  have hbw : b0 ≤ w.heap.size := by have := h.lo.1; omega
  have HBW := Lib.hid hbw
  have HLEN : Hid (L.segs.length ≤ 1000000) := Lib.hid ok.len
  have HFS := Lib.hid h.segs
  unfold lgRoom
  rcases List.eq_nil_or_concat L.segs with hs | ⟨S, s, hs⟩
  · have HLN := Lib.hid (wlast_none h hs)
    have hgl : L.segs.getLast? = none := by rw [hs]; rfl
    rw [hgl]
    dsimp only
    obtain ⟨ad, cap, rfl, _, _, _⟩ := h.segs.shape
    have c2 : w.cell? ⟨p, 2, none⟩ = some (Value.slice ad L.segs.length cap) := cellAt h.obj 2 rfl
    have f2 := h.free 2
    have HNP : Hid (¬ DM d m p) := Lib.hid fun e => e.elim h.ne.1 h.ne.2
    have HNO : Hid (¬ (Value.slice ad L.segs.length cap).ownBlock = some p) := Lib.hid fun e => (h.nes p e).2.2 rfl
    have HNF : Hid (∀ k, (Value.slice ad L.segs.length cap).ownBlock = some k → ¬ DM d m k) := Lib.hid fun k hk e => e.elim (h.nes k hk).1 (h.nes k hk).2.1
    obtain ⟨⟨E1, E2⟩, hE⟩ : ∃ E, lgSync RR D L = E := ⟨_, rfl⟩
    rw [hE] at HSY ⊢
    dsimp only at HSY ⊢
    by_cases he : E2 = 0
    · subst he
      rw [if_neg (by simp)]
      clear h a T ok hb4 hbd hdm hbw hE hs hgl
      go_enter Tryz.func27, Tryz.ntmps27
      go_upto_region 2 with (go_at_call 29; (with_reducible refine HLN.out.mono ?_); rintro e w1 ⟨rfl, rfl⟩)
      go_quiet (fail)
      go_upto_region 5 with (go_at_call 17; (with_reducible refine (HSY.out _ (Fr.drewN No w _)).mono ?_); rintro e w5 ⟨rfl, a5, hfS⟩)
      replace hfS : Fr (DM d m) w w5 := (Fr.drewN _ w _).trans hfS fun _ _ h => h
      go_upto_region 7 with fail
      have HFF := Lib.hid hfS
      have q2 := hfS.cell c2 HNP.out
      have q2' : w5.drew.cell? ⟨p, 2, none⟩ = some (Value.slice ad L.segs.length cap) := q2
      have qf : w5.frozen? ⟨p, 2, none⟩ = false := hfS.free c2 f2 HNP.out
      have A5 := Lib.hid a5
      clear hfS a5
      go_region_held3 (fun W => True) (trivial)
        (first
          | (go_at_call 15; (with_reducible refine (HNX.out _ HFF.out.drew).mono ?_); rintro e w6 ⟨rfl, hf6⟩; have e2 := hf6.cell0 q2'; have ef := hf6.free0 q2' qf; have e2a := (fun o => ((Fr.refl No w6).alloc o).cell0 e2); have e2l := World.block_lt_of_cell? _ _ e2; have hnew := cells_new w6 (segC (L.first + L.l.length, 0)) 54 (0, 0))
          | (refine step_append_f rfl _ _ 49 rfl 54 i0 _ 2 16 Tryz.underlying49 hi0 hz0 hz1 hz2 rfl (by decide) _ L.segs rfl ((HFS.out.fr ((HFF.out.drew.trans0 hf6).alloc _) HNF.out)) w6.heap.size 1 (L.first + L.l.length, 0) rfl hnew rfl (segC_one _) (by have := HLEN.out; unfold maxLen; omega) (by have := HLEN.out; omega) ?_; intro g1 o1 cap1 w7 hs7 hg7 hb7 hlt7; have hf7 : Fr (fun k => (Value.slice ad L.segs.length cap).ownBlock = some k) w6 w7 := ((Fr.refl _ w6).alloc _).grown hg7 (fun k hk => .inl hk); have e3 := hf7.cell e2 HNO.out; have e4 := hf7.free e2 ef HNO.out; have e5 := World.block_lt_of_cell? _ _ e3))
      all_goals
        have hf56 : Fr (DM d m) w w6 := HFF.out.drew.trans0 hf6
        have H6 := H.out.frD hf56
        have hsz6 := hf56.size
        have hg1 : (Value.slice ad L.segs.length cap).ownBlock = some g1 ∨ w6.heap.size ≤ g1 := hb7.imp id fun e => by rw [e]; simp
        obtain ⟨M1, M2⟩ := H6.segsTo (by have := HBW.out; omega) ⟨by have := HDM.out.1; omega, by have := HDM.out.2; omega⟩ hf7 hs7 hg1 rfl
        have HM1 := Lib.hid M1
        have HG1 := Lib.hid hg1
        have HM2 := Lib.hid M2
        have HA6 := Lib.hid (A5.out.fr0 ((Fr.refl No w5).drew.trans0 hf6))
        have HF56 := Lib.hid hf56
        clear hs7 hg7 hb7 hf7 hf56 H6 hg1 M1 M2 hf6 e2 ef e2a e2l hnew e3 e4 e5
        go_wp2
        go_ret
        exact ⟨rfl, HA6.out.fr HM2.out (fun e => e.elim (fun e => H.out.ne.1 e.symm) fun e => (H.out.nes d e).1 rfl) (fun e => e.elim (fun e => H.out.ne.2 e.symm) fun e => (H.out.nes m e).2.1 rfl), LgTo.trans (fun _ h => .inl h) (fun _ h => .inl h) (H.out.same HF56.out).fr ⟨⟨_, _, HM1.out, fun k hk => by rw [own_slice k hk]; exact HG1.out, fun _ h => .inl h⟩, HM2.out.mono fun _ _ e => e.elim .inl fun e => .inr (.inr (.inr (.inl e)))⟩⟩
    · have he' : (E2 == 0) = false := by simpa using he
      have he2 : (E2 != 0) = true := by simpa using he
      rw [if_pos he]
      clear h a T ok hb4 hbd hdm hbw hE hs hgl
      go_enter Tryz.func27, Tryz.ntmps27
      go_upto_region 2 with (go_at_call 29; (with_reducible refine HLN.out.mono ?_); rintro e w1 ⟨rfl, rfl⟩)
      go_quiet (fail)
      go_upto_region 5 with (go_at_call 17; (with_reducible refine (HSY.out _ (Fr.drewN No w _)).mono ?_); rintro e w5 ⟨rfl, a5, hfS⟩)
      replace hfS : Fr (DM d m) w w5 := (Fr.drewN _ w _).trans hfS fun _ _ h => h
      go_wp2
      go_ret
      exact ⟨rfl, a5, H.out.same hfS⟩
  · rw [List.concat_eq_append] at hs
    have hlen : L.segs.length = S.length + 1 := by rw [hs, List.length_append, List.length_singleton]
    have hgl : L.segs.getLast? = some s := by rw [hs]; simp
    have hsok := ok.segs s (by rw [hs]; exact List.mem_append_right _ (List.mem_singleton_self _))
    have hLs := ok.size
    rw [hgl]
    dsimp only
    obtain ⟨ad, cap, rfl, _, _, h3⟩ := h.segs.shape
    obtain ⟨g, o, rfl⟩ := h3 (by omega)
    have h' := h
    rw [hlen] at h'
    have HLN := Lib.hid (wlast_some h' hs (by have := ok.len; omega))
    obtain ⟨hq0, hq1⟩ := SlF.cells2 segC_length h.segs S.length (x := s) (by rw [hs]; simp) rfl
    have c1 : w.cell? ⟨p, 1, none⟩ = some (.int .i64 L.size) := cellAt h.obj 1 rfl
    have c2 : w.cell? ⟨p, 2, none⟩ = some (Value.slice (some ⟨g, o, none⟩) L.segs.length cap) := cellAt h.obj 2 rfl
    have f2 := h.free 2
    have HNP : Hid (¬ DM d m p) := Lib.hid fun e => e.elim h.ne.1 h.ne.2
    have HNO : Hid (¬ (Value.slice (some ⟨g, o, none⟩) L.segs.length cap).ownBlock = some p) := Lib.hid fun e => (h.nes p e).2.2 rfl
    have HNF : Hid (∀ k, (Value.slice (some ⟨g, o, none⟩) L.segs.length cap).ownBlock = some k → ¬ DM d m k) := Lib.hid fun k hk e => e.elim (h.nes k hk).1 (h.nes k hk).2.1
    by_cases hsz : s.2 < L.size
    · have hsz' : (s.2 : Int) < (L.size : Int) := by omega
      rw [if_pos hsz]
      clear h h' a T ok hb4 hbd hdm hbw hs hgl HSY
      go_enter Tryz.func27, Tryz.ntmps27
      go_upto_region 2 with (go_at_call 29; (with_reducible refine HLN.out.mono ?_); rintro e w1 ⟨rfl, hf1⟩)
      have q1 := hf1.cell0 hq1
      have p1 := hf1.cell0 c1
      go_quiet (fail)
      have hff := hf1.trans0 (Fr.drewN No w1 nq)
      have HFF := Lib.hid hff
      clear hff hf1 q1 p1
      go_wp2
      go_ret
      exact ⟨rfl, A.out.fr0 HFF.out, H.out.same (HFF.out.mono fun _ _ h => h.elim)⟩
    · have hsz' : ¬ (s.2 : Int) < (L.size : Int) := by omega
      rw [if_neg hsz]
      clear h' hlen
      obtain ⟨⟨E1, E2⟩, hE⟩ : ∃ E, lgSync RR D L = E := ⟨_, rfl⟩
      rw [hE] at HSY ⊢
      dsimp only at HSY ⊢
      by_cases he : E2 = 0
      · subst he
        rw [if_neg (by simp)]
        clear h a T ok hb4 hbd hdm hbw hE hs hgl
        go_enter Tryz.func27, Tryz.ntmps27
        go_upto_region 2 with (go_at_call 29; (with_reducible refine HLN.out.mono ?_); rintro e w1 ⟨rfl, hf1⟩)
        have q1 := hf1.cell0 hq1
        have p1 := hf1.cell0 c1
        go_quiet (fail)
        clear q1 p1
        go_upto_region 5 with (go_at_call 17; (with_reducible refine (HSY.out _ (hf1.trans0 (Fr.drewN No w1 _))).mono ?_); rintro e w5 ⟨rfl, a5, hfS⟩)
        replace hfS : Fr (DM d m) w w5 := ((hf1.trans0 (Fr.drewN No w1 _)).mono fun _ _ h => h.elim).trans hfS fun _ _ h => h
        go_upto_region 7 with fail
        have HFF := Lib.hid hfS
        have q2 := hfS.cell c2 HNP.out
        have q2' : w5.drew.cell? ⟨p, 2, none⟩ = some (Value.slice (some ⟨g, o, none⟩) L.segs.length cap) := q2
        have qf : w5.frozen? ⟨p, 2, none⟩ = false := hfS.free c2 f2 HNP.out
        have A5 := Lib.hid a5
        clear hfS a5
        go_region_held3 (fun W => True) (trivial)
          (first
            | (go_at_call 15; (with_reducible refine (HNX.out _ HFF.out.drew).mono ?_); rintro e w6 ⟨rfl, hf6⟩; have e2 := hf6.cell0 q2'; have ef := hf6.free0 q2' qf; have e2a := (fun o => ((Fr.refl No w6).alloc o).cell0 e2); have e2l := World.block_lt_of_cell? _ _ e2; have hnew := cells_new w6 (segC (L.first + L.l.length, 0)) 54 (0, 0))
            | (refine step_append_f rfl _ _ 49 rfl 54 i0 _ 2 16 Tryz.underlying49 hi0 hz0 hz1 hz2 rfl (by decide) _ L.segs rfl ((HFS.out.fr ((HFF.out.drew.trans0 hf6).alloc _) HNF.out)) w6.heap.size 1 (L.first + L.l.length, 0) rfl hnew rfl (segC_one _) (by have := HLEN.out; unfold maxLen; omega) (by have := HLEN.out; omega) ?_; intro g1 o1 cap1 w7 hs7 hg7 hb7 hlt7; have hf7 : Fr (fun k => (Value.slice (some ⟨g, o, none⟩) L.segs.length cap).ownBlock = some k) w6 w7 := ((Fr.refl _ w6).alloc _).grown hg7 (fun k hk => .inl hk); have e3 := hf7.cell e2 HNO.out; have e4 := hf7.free e2 ef HNO.out; have e5 := World.block_lt_of_cell? _ _ e3))
        all_goals
          have hf56 : Fr (DM d m) w w6 := HFF.out.drew.trans0 hf6
          have H6 := H.out.frD hf56
          have hsz6 := hf56.size
          have hg1 : (Value.slice (some ⟨g, o, none⟩) L.segs.length cap).ownBlock = some g1 ∨ w6.heap.size ≤ g1 := hb7.imp id fun e => by rw [e]; simp
          obtain ⟨M1, M2⟩ := H6.segsTo (by have := HBW.out; omega) ⟨by have := HDM.out.1; omega, by have := HDM.out.2; omega⟩ hf7 hs7 hg1 rfl
          have HM1 := Lib.hid M1
          have HG1 := Lib.hid hg1
          have HM2 := Lib.hid M2
          have HA6 := Lib.hid (A5.out.fr0 ((Fr.refl No w5).drew.trans0 hf6))
          have HF56 := Lib.hid hf56
          clear hs7 hg7 hb7 hf7 hf56 H6 hg1 M1 M2 hf6 e2 ef e2a e2l hnew e3 e4 e5
          go_wp2
          go_ret
          exact ⟨rfl, HA6.out.fr HM2.out (fun e => e.elim (fun e => H.out.ne.1 e.symm) fun e => (H.out.nes d e).1 rfl) (fun e => e.elim (fun e => H.out.ne.2 e.symm) fun e => (H.out.nes m e).2.1 rfl), LgTo.trans (fun _ h => .inl h) (fun _ h => .inl h) (H.out.same HF56.out).fr ⟨⟨_, _, HM1.out, fun k hk => by rw [own_slice k hk]; exact HG1.out, fun _ h => .inl h⟩, HM2.out.mono fun _ _ e => e.elim .inl fun e => .inr (.inr (.inr (.inl e)))⟩⟩
      · have he' : (E2 == 0) = false := by simpa using he
        have he2 : (E2 != 0) = true := by simpa using he
        rw [if_pos he]
        clear h a T ok hb4 hbd hdm hbw hE hs hgl
        go_enter Tryz.func27, Tryz.ntmps27
        go_upto_region 2 with (go_at_call 29; (with_reducible refine HLN.out.mono ?_); rintro e w1 ⟨rfl, hf1⟩)
        have q1 := hf1.cell0 hq1
        have p1 := hf1.cell0 c1
        go_quiet (fail)
        clear q1 p1
        go_upto_region 5 with (go_at_call 17; (with_reducible refine (HSY.out _ (hf1.trans0 (Fr.drewN No w1 _))).mono ?_); rintro e w5 ⟨rfl, a5, hfS⟩)
        replace hfS : Fr (DM d m) w w5 := ((hf1.trans0 (Fr.drewN No w1 _)).mono fun _ _ h => h.elim).trans hfS fun _ _ h => h
        go_wp2
        go_ret
        exact ⟨rfl, a5, H.out.same hfS⟩
end
end Go.Proofs.YtillejdjghlicaaGreatDoor
