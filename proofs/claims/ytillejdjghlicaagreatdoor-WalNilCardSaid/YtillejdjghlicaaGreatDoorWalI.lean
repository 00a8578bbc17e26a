/- A log in memory: Cut. The conditions: the log is at rest on a disk that is not armed; the number is one of its records'. -/
import Derived.Test.YtillejdjghlicaaGreatDoorCutL
namespace Go.Proofs.YtillejdjghlicaaGreatDoor
open Go Go.Proofs Go.RowKit Go.WideElems Go.ChangeMaps Go.WideMaps
set_option maxRecDepth 100000

theorem sum_parts {α : Type} (f : α → Nat) (l : List α) (k : Nat) : ((l.take k).map f).sum + ((l.drop k).map f).sum = (l.map f).sum := by
  rw [← List.sum_append, ← List.map_append, List.take_append_drop]
/-- While segments are dropped. -/
structure CuI (D : Dk) (L : Lg) (n : Nat) (Di : Dk) (S : List (Nat × Nat)) : Prop where
  eq : lgDrop RR S.length Di S n = lgDrop RR L.segs.length D L.segs n
  sub : ∀ s ∈ S, s ∈ L.segs
  len : S.length ≤ L.segs.length
section
variable {w : World} {b0 p d m : Nat} {L : Lg} {vs vl : Value}
set_option maxHeartbeats 4000000 in
theorem wcut_calls {D : Dk} {Q : List (Nat × List (List UInt8))} {j : Nat} (h : LgM w b0 p d m L vs vl) (a : DkM w d m D) (T : Tab w) (hR : Rest sumS D L Q j) (ha : D.armed = 0) (h1 : 1 ≤ L.first) (hz : L.size ≤ 1048576) (ht : L.first + L.l.length ≤ 1000000) (n : Nat) (hn1 : L.first ≤ n) (hn2 : n < L.first + L.l.length) (h4 : 4 < b0) (hbd : b0 ≤ d ∧ b0 ≤ m) :
    Calls Tryz.prog 11 #[.pointer (some ⟨p, 0, none⟩), .int .i64 n] w fun e w' => e = .returned (.int .i64 0) ∧ DkM w' d m (lgCut RR D L n).1 ∧ ∃ vs' vl', LgI w w' b0 p d m (lgCut RR D L n).2.1 vs vl vs' vl' := by
  have ok : LgOk L := hR.ok (by have := a.sz; have := a.lim; omega) h1 ht hz
  obtain ⟨D', SS, x1, x2, x3⟩ := hR.cutW ha hn1 hn2
  have hbytes : (L.l.map fun b => 8 + b.length).sum ≤ 1073741824 := by
    have h5 : sizeF D.fs = (frms sumS (recs Q)).length := by rw [hR.fs]; exact sizeF_filesQ sumS
    rw [frms_sum sumS, hR.rl]
    have := a.sz
    have := a.lim
    omega
  have H := Lib.hid h
  have A := Lib.hid a
  have TT := Lib.hid T
  have OK := Lib.hid ok
  have HH := Lib.hid (And.intro h4 (And.intro hbd (And.intro hn1 hn2)))
  have HX1 := Lib.hid x1
  have HX2 := Lib.hid x2
  have HX3 := Lib.hid x3
  have HBY := Lib.hid hbytes
  have HST : Hid (CuI D L n D L.segs) := Lib.hid ⟨rfl, fun _ h => h, Nat.le_refl _⟩
  have HF1 := Lib.hid (wfirst_calls h)
  have HNX := Lib.hid fun W (hW : Fr No w W) => wnext_calls (h.fr0 hW) (by omega)
  have HLV := Lib.hid fun W (hW : Fr No w W) => wlives_calls (h.fr0 hW) (a.fr0 hW)
  rw [hR.dead] at HLV
  have hcast : ((L.first + L.l.length : Nat) : Int) = (L.first : Int) + (L.l.length : Int) := by omega
  rw [hcast] at HNX
  have g1 : ¬ ((n : Int) < (L.first : Int)) := by omega
  have g2 : ¬ ((n : Int) > (L.first : Int) + (L.l.length : Int)) := by omega
  have g3 : ((n : Int) == (L.first : Int) + (L.l.length : Int)) = false := by simp; omega
  have hnn : n ≤ 1000000 := by omega
  obtain ⟨k, hkk⟩ : ∃ k, n - L.first = k := ⟨_, rfl⟩
  have HK := Lib.hid hkk
  clear hkk
  clear h a T hR ha h1 hz ok x1 x2 x3 hbytes h4 hbd hcast hn1 hn2
  go_enter Tryz.func11, Tryz.ntmps11
  go_upto_region 8 with (first
    | (go_at_call 14; (with_reducible refine HF1.out.mono ?_); rintro e w1 ⟨rfl, rfl⟩)
    | (go_at_call 15; (with_reducible refine (HNX.out _ (Fr.refl No _)).mono ?_); rintro e w2 ⟨rfl, hf2⟩)
    | (go_at_call 26; (with_reducible refine (HLV.out _ hf2).mono ?_); rintro e w3 ⟨rfl, hf3⟩)
    | (go_at_call 15; (with_reducible refine (HNX.out _ (hf2.trans0 hf3)).mono ?_); rintro e w4 ⟨rfl, hf4⟩))
  have hf04 := (hf2.trans0 hf3).trans0 hf4
  have HF4 := Lib.hid hf04
  have HL4 := Lib.hid (LgI.quiet (LgI.refl H.out) hf04)
  have HA4 := Lib.hid (A.out.fr0 hf04)
  clear hf2 hf3 hf4 hf04
  go_loopg [6] L.segs.length (fun g s6 wr => ∃ (Di : Dk) (S : List (Nat × Nat)) (vsi : Value), g = S.length ∧ Hid (CuI D L n Di S) ∧ Hid (DkM wr d m Di) ∧ Hid (LgI w wr b0 p d m { L with segs := S } vs vl vsi vl))
  case atStart => exact ⟨D, L.segs, vs, rfl, HST, HA4, HL4⟩
  case round =>
    obtain ⟨Di, S, vsi, rfl, HI, HD, HL⟩ := hrel
    rcases List.eq_nil_or_concat S with hS | ⟨T', s, hS⟩
    · subst hS
      have HLN := Lib.hid (wlast_none HL.out.lg rfl)
      go_upto_region 12 with (go_at_call 29; (with_reducible refine HLN.out.mono ?_); rintro e w5 ⟨rfl, rfl⟩)
      have HQ := HL
      have HDQ := HD
      have HCU : Hid (lgCut RR D L n = (Di, { L with segs := [], l := L.l.take k }, 0)) := Lib.hid (by
        have h1 := HI.out.eq
        have h2 : lgDrop RR ([] : List (Nat × Nat)).length Di [] n = (Di, [], 0) := rfl
        rw [h2] at h1
        have h3 := lgCut_none h1.symm
        rw [← HK.out]
        exact h3)
      generalize wr = wq at *
      have HKN : Hid ((k : Nat) = n - L.first ∧ L.first + k = n ∧ k ≤ L.l.length) := Lib.hid ⟨HK.out.symm ▸ rfl, by have := HK.out; have := HH.out.2.2.1; omega, by have := HK.out; have := HH.out.2.2; omega⟩
      obtain ⟨a4, c4, hv4, hcc, _, h4g⟩ := HQ.out.lg.recs.shape
      have hrl : (List.map toB L.l).length = L.l.length := List.length_map ..
      obtain ⟨g4, o4, rfl⟩ := h4g (by show 0 < (List.map toB L.l).length; rw [hrl]; have := HH.out; omega)
      have hcc2 : L.l.length ≤ c4 := by rw [← hrl]; exact hcc
      have HCC := Lib.hid hcc2
      have hv5 : vl = .slice (some ⟨g4, o4, none⟩) L.l.length c4 := by rw [← hrl]; exact hv4
      have k4 : wq.drew.cell? ⟨p, 4, none⟩ = some (.slice (some ⟨g4, o4, none⟩) L.l.length c4) := by rw [← hv5]; exact cellAt HQ.out.lg.obj 4 rfl
      have k3 : wq.drew.cell? ⟨p, 3, none⟩ = some (.int .i64 L.first) := cellAt HQ.out.lg.obj 3 rfl
      have kf : wq.drew.frozen? ⟨p, 4, none⟩ = false := HQ.out.lg.free 4
      have kl := World.block_lt_of_cell? _ _ k4
      have hwr : IntKind.i64.wrap ((n : Int) - (L.first : Int)) = (k : Int) := by rw [IntKind.wrap_i64]; have := HKN.out; omega
      have hk0 : (0 : Int) ≤ (k : Int) := by omega
      have hk1 : (k : Int) ≤ (c4 : Int) := by have := HKN.out; omega
      have hsl : SlF wq.drew 9 1 strB (.slice (some ⟨g4, o4, none⟩) k c4) ((L.l.take k).map toB) := by
        have h1 := HQ.out.lg.recs
        rw [hv4] at h1
        have h2 := SlF.take strB_length h1.drew k (by show k ≤ (List.map toB L.l).length; rw [hrl]; exact HKN.out.2.2)
        rw [List.map_take]
        exact h2
      have hown : (Value.slice (some ⟨g4, o4, none⟩) L.l.length c4).ownBlock = (Value.slice (some ⟨g4, o4, none⟩) k c4).ownBlock := rfl
      have hb0 : b0 ≤ wq.heap.size := by have := heap_lt HQ.out.lg.obj; have := HQ.out.lg.lo.1; omega
      obtain ⟨M1, M2⟩ := HQ.out.lg.recsTo (w1 := wq.drew) (S := L.l.take k) hb0 HDQ.out.lts (Fr.refl _ wq).drew hsl (fun x hx => by rw [hv5, hown]; exact .inl hx) rfl
      have HM : Hid (LgI w ((wq.setCell ⟨p, 4, none⟩ (.slice (some ⟨g4, o4, none⟩) k c4)).drew) b0 p d m _ vs vl _ _) := Lib.hid (HQ.out.trans ⟨M1, fun _ h => .inl h, fun x hx => by rw [hv5, hown]; exact .inl hx, M2.mono fun _ _ e => e.elim .inl fun e => .inr (.inr (.inr (.inr e)))⟩)
      have HDM : Hid (DkM ((wq.setCell ⟨p, 4, none⟩ (.slice (some ⟨g4, o4, none⟩) k c4)).drew) d m _) := Lib.hid (HDQ.out.fr M2 (fun e => e.elim (fun e => H.out.ne.1 e.symm) fun e => (H.out.nel d e).1 rfl) (fun e => e.elim (fun e => H.out.ne.2 e.symm) fun e => (H.out.nel m e).2.1 rfl))
      clear hsl M1 M2 hv4 hcc hb0
      refine wp_region_still_tail 14 (by kernel_rfl) (by kernel_rfl) ?_
      simp only [List.take_succ_cons, List.take_zero, List.drop_succ_cons, List.drop_zero]
      change wpStill _ _ wq.drew _ _ _
      repeat (refine wpStill_step (fun K hK => ?_); go_simp; refine hK _ ?_; clear hK K)
      refine wpStill_nil ?_
      change wpList _ _ _ _ _ wq.drew
      go_upto_region 13 with fail
      clear k4 k3 kf kl hwr hk1 hcc2 hv5
      generalize (wq.setCell ⟨p, 4, none⟩ (.slice (some ⟨g4, o4, none⟩) k c4)).drew = w8 at *
      have HLN2 := Lib.hid (wlast_none HM.out.lg rfl)
      go_wp2_with (go_at_call 29; (with_reducible refine HLN2.out.mono ?_); rintro e w9 ⟨rfl, rfl⟩)
      go_ret
      exact ⟨rfl, by rw [HCU.out]; exact HDM.out, _, _, by rw [HCU.out]; exact HM.out⟩
    · rw [List.concat_eq_append] at hS
      subst hS
      have hsm := HI.out.sub s (List.mem_append_right _ (List.mem_singleton_self _))
      have hsok := OK.out.segs s hsm
      have hTl : T'.length + 1 ≤ 1000000 := by have h1 := HI.out.len; have h2 := OK.out.len; rw [List.length_append, List.length_singleton] at h1; omega
      obtain ⟨ad, cap, rfl, _, _, hg3⟩ := HL.out.lg.segs.shape
      have hlen : (T' ++ [s]).length = T'.length + 1 := by rw [List.length_append, List.length_singleton]
      obtain ⟨g, o, rfl⟩ := hg3 (by show 0 < (T' ++ [s]).length; omega)
      have HLg := HL.out.lg
      have HL2 : LgM wr b0 p d m { L with segs := T' ++ [s] } (.slice (some ⟨g, o, none⟩) (T'.length + 1) cap) vl := by rw [← hlen]; exact HLg
      have HLS := Lib.hid fun W (hW : Fr No wr W) => wlast_some (T := T') (s := s) (HL2.fr0 hW) rfl (by omega)
      obtain ⟨q0, q1⟩ := SlF.cells2 segC_length HLg.segs T'.length (x := s) (by show (T' ++ [s])[T'.length]? = _; simp) rfl
      have HSG := Lib.hid HL2
      have HLB : Hid (LgI w wr b0 p d m { L with segs := T' ++ [s] } vs vl (.slice (some ⟨g, o, none⟩) (T'.length + 1) cap) vl) := Lib.hid (by rw [← hlen]; exact HL.out)
      obtain ⟨s1, s2⟩ := s
      dsimp only at hsok q0 q1
      by_cases hns : n ≤ s1
      · have hge : (s1 : Int) ≥ (n : Int) := by omega
        have hst := HI.out.eq
        have h0 := HX1.out
        obtain ⟨he, hstep⟩ := lgDrop_step (D := Di) (T := T') (s := (s1, s2)) (n := n) hns (by rw [hst, h0])
        have HTR : Tab wr := TT.out.fr HL.out.fr fun e => by have := H.out.lb0 HH.out.2.1 e; have := HH.out.1; omega
        have HDR := Lib.hid fun W (hW : Fr No wr W) => wdrop_calls (S := T') (s := (s1, s2)) (HL2.fr0 hW) (HD.out.fr0 hW) (HTR.fr0 hW) rfl (by show (T' ++ [(s1, s2)]).length ≤ _; omega) hsok.2.1 he HH.out.1 HH.out.2.1
        have HNI : Hid (CuI D L n (Di.remove RR s1).1 T') := Lib.hid ⟨by rw [← hstep]; exact hst, fun x hx => HI.out.sub x (List.mem_append_left _ hx), by have := HI.out.len; rw [hlen] at this; omega⟩
        dsimp only at HDR
        generalize (Di.remove RR s1).1 = D2 at *
        clear he hstep hst h0 HTR HLg HL2 hlen
        go_wp2_with (first
          | (go_at_call 29; (with_reducible refine (HLS.out _ (Fr.refl No _)).mono ?_); rintro e w5 ⟨rfl, hf5⟩)
          | (go_at_call 29; (with_reducible refine (HLS.out _ hf5).mono ?_); rintro e w6 ⟨rfl, hf6⟩; have y0 := (hf5.trans0 hf6).cell0 q0)
          | (go_at_call 31; (with_reducible refine (HDR.out _ (hf5.trans0 hf6)).mono ?_); rintro e w7 ⟨rfl, a7, vs7, h7⟩))
        have HL7 := Lib.hid ((HLB.out.quiet (hf5.trans0 hf6)).trans h7)
        have HA7 := Lib.hid a7
        clear hf5 hf6 y0 h7 a7
        go_roundg T'.length
        case rel => exact ⟨D2, T', vs7, rfl, HNI, HA7, HL7⟩
        case measure => first | omega | (rw [List.length_append, List.length_singleton]; omega)
      · have hge : ¬ (s1 : Int) ≥ (n : Int) := by omega
        have hgd : decide ((n : Int) ≤ (s1 : Int)) = false := by simp; omega
        have hgd2 : decide (n ≤ s1) = false := by simp; omega
        have HXX : Hid (Di = D' ∧ T' ++ [(s1, s2)] = SS) := Lib.hid (by
          have h1 := HI.out.eq
          rw [lgDrop_stop (s := (s1, s2)) hns, HX1.out] at h1
          simp only [Prod.mk.injEq, and_true] at h1
          exact h1)
        have HNS := Lib.hid hns
        clear hns HLg HL2
        go_upto_region 12 with (first
          | (go_at_call 29; (with_reducible refine (HLS.out _ (Fr.refl No _)).mono ?_); rintro e w5 ⟨rfl, hf5⟩)
          | (go_at_call 29; (with_reducible refine (HLS.out _ hf5).mono ?_); rintro e w6 ⟨rfl, hf6⟩; have y0 := (hf5.trans0 hf6).cell0 q0))
        have HQ := Lib.hid (HLB.out.quiet (hf5.trans0 hf6))
        have HDQ := Lib.hid (HD.out.fr0 (hf5.trans0 hf6))
        clear y0 hf5 hf6 q0 q1
        generalize w6 = wq at *
        have HKN : Hid ((k : Nat) = n - L.first ∧ L.first + k = n ∧ k ≤ L.l.length) := Lib.hid ⟨HK.out.symm ▸ rfl, by have := HK.out; have := HH.out.2.2.1; omega, by have := HK.out; have := HH.out.2.2; omega⟩
        obtain ⟨a4, c4, hv4, hcc, _, h4g⟩ := HQ.out.lg.recs.shape
        have hrl : (List.map toB L.l).length = L.l.length := List.length_map ..
        obtain ⟨g4, o4, rfl⟩ := h4g (by show 0 < (List.map toB L.l).length; rw [hrl]; have := HH.out; omega)
        have hcc2 : L.l.length ≤ c4 := by rw [← hrl]; exact hcc
        have HCC := Lib.hid hcc2
        have hv5 : vl = .slice (some ⟨g4, o4, none⟩) L.l.length c4 := by rw [← hrl]; exact hv4
        have k4 : wq.drew.cell? ⟨p, 4, none⟩ = some (.slice (some ⟨g4, o4, none⟩) L.l.length c4) := by rw [← hv5]; exact cellAt HQ.out.lg.obj 4 rfl
        have k3 : wq.drew.cell? ⟨p, 3, none⟩ = some (.int .i64 L.first) := cellAt HQ.out.lg.obj 3 rfl
        have kf : wq.drew.frozen? ⟨p, 4, none⟩ = false := HQ.out.lg.free 4
        have kl := World.block_lt_of_cell? _ _ k4
        have hwr : IntKind.i64.wrap ((n : Int) - (L.first : Int)) = (k : Int) := by rw [IntKind.wrap_i64]; have := HKN.out; omega
        have hk0 : (0 : Int) ≤ (k : Int) := by omega
        have hk1 : (k : Int) ≤ (c4 : Int) := by have := HKN.out; omega
        have hsl : SlF wq.drew 9 1 strB (.slice (some ⟨g4, o4, none⟩) k c4) ((L.l.take k).map toB) := by
          have h1 := HQ.out.lg.recs
          rw [hv4] at h1
          have h2 := SlF.take strB_length h1.drew k (by show k ≤ (List.map toB L.l).length; rw [hrl]; exact HKN.out.2.2)
          rw [List.map_take]
          exact h2
        have hown : (Value.slice (some ⟨g4, o4, none⟩) L.l.length c4).ownBlock = (Value.slice (some ⟨g4, o4, none⟩) k c4).ownBlock := rfl
        have hb0 : b0 ≤ wq.heap.size := by have := heap_lt HQ.out.lg.obj; have := HQ.out.lg.lo.1; omega
        obtain ⟨M1, M2⟩ := HQ.out.lg.recsTo (w1 := wq.drew) (S := L.l.take k) hb0 HDQ.out.lts (Fr.refl _ wq).drew hsl (fun x hx => by rw [hv5, hown]; exact .inl hx) rfl
        have HM : Hid (LgI w ((wq.setCell ⟨p, 4, none⟩ (.slice (some ⟨g4, o4, none⟩) k c4)).drew) b0 p d m _ vs vl _ _) := Lib.hid (HQ.out.trans ⟨M1, fun _ h => .inl h, fun x hx => by rw [hv5, hown]; exact .inl hx, M2.mono fun _ _ e => e.elim .inl fun e => .inr (.inr (.inr (.inr e)))⟩)
        have HDM : Hid (DkM ((wq.setCell ⟨p, 4, none⟩ (.slice (some ⟨g4, o4, none⟩) k c4)).drew) d m _) := Lib.hid (HDQ.out.fr M2 (fun e => e.elim (fun e => H.out.ne.1 e.symm) fun e => (H.out.nel d e).1 rfl) (fun e => e.elim (fun e => H.out.ne.2 e.symm) fun e => (H.out.nel m e).2.1 rfl))
        clear hsl M1 M2 hv4 hcc hb0
        refine wp_region_still_tail 14 (by kernel_rfl) (by kernel_rfl) ?_
        simp only [List.take_succ_cons, List.take_zero, List.drop_succ_cons, List.drop_zero]
        change wpStill _ _ wq.drew _ _ _
        repeat (refine wpStill_step (fun K hK => ?_); go_simp; refine hK _ ?_; clear hK K)
        refine wpStill_nil ?_
        change wpList _ _ _ _ _ wq.drew
        go_upto_region 13 with fail
        clear k4 k3 kf kl hwr hk1 hcc2 hv5
        generalize (wq.setCell ⟨p, 4, none⟩ (.slice (some ⟨g4, o4, none⟩) k c4)).drew = w8 at *
        have HNB := Lib.hid (HX2.out T' (s1, s2) HXX.out.2.symm)
        have HLS8 := Lib.hid (wlast_some (T := T') (s := (s1, s2)) HM.out.lg rfl (by omega))
        obtain ⟨q0, q1⟩ := SlF.cells2 segC_length (show SlF w8 54 2 segC (.slice (some ⟨g, o, none⟩) (T' ++ [(s1, s2)]).length cap) (T' ++ [(s1, s2)]) from by rw [hlen]; exact HM.out.lg.segs) T'.length (x := (s1, s2)) (by simp) rfl
        go_upto_region 17 with (go_at_call 29; (with_reducible refine HLS8.out.mono ?_); rintro e w9 ⟨rfl, hf9⟩)
        have HM9 := Lib.hid (HM.out.quiet hf9)
        have HD9 := Lib.hid (HDM.out.fr0 hf9)
        have y0 := hf9.cell0 q0
        have y1 := hf9.cell0 q1
        clear hf9 q0 q1
        obtain ⟨e, he⟩ : ∃ e, s1 - L.first = e := ⟨_, rfl⟩
        have hsf : L.first ≤ s1 ∧ s1 < n := ⟨HNB.out.2.1, HNB.out.1⟩
        have hek : e ≤ k ∧ k < c4 := by have h1 := HKN.out; have h2 := HH.out; have h3 := HCC.out; omega
        have HE : Hid (s1 - L.first = e ∧ s1 = L.first + e) := Lib.hid ⟨he, by omega⟩
        have hwe : IntKind.i64.wrap ((s1 : Int) - (L.first : Int)) = (e : Int) := by rw [IntKind.wrap_i64]; omega
        have he0 : (0 : Int) ≤ (e : Int) := by omega
        have he1 : (e : Int) ≤ (k : Int) := by omega
        have hce : ¬ (c4 = e) := by omega
        have k4 : w9.drew.cell? ⟨p, 4, none⟩ = some (.slice (some ⟨g4, o4, none⟩) k c4) := by
          have h1 : w9.cell? ⟨p, 4, none⟩ = some (.slice (some ⟨g4, o4, none⟩) k c4) := cellAt HM9.out.lg.obj 4 rfl
          exact h1
        have k3 : w9.drew.cell? ⟨p, 3, none⟩ = some (.int .i64 L.first) := cellAt HM9.out.lg.obj 3 rfl
        have y0' : w9.drew.cell? ⟨g, o + T'.length * 2, none⟩ = some (.int .i64 s1) := y0
        refine wp_region_still_lit (by kernel_rfl) (by kernel_rfl) ?_
        change wpStill _ _ w9.drew _ _ _
        repeat (refine wpStill_step (fun K hK => ?_); go_simp; refine hK _ ?_; clear hK K)
        refine wpStill_nil ?_
        change Exit.then _ _ Exit.normal _ w9.drew
        have HMA := Lib.hid (HM9.out.quiet (Fr.refl No w9).drew)
        have HDA := Lib.hid (HD9.out.fr0 (Fr.refl No w9).drew)
        have y1' : w9.drew.cell? ⟨g, o + T'.length * 2 + 1, none⟩ = some (.int .i64 s2) := y1
        clear k4 k3 y0 y1 hwe
        generalize w9.drew = w10 at *
        obtain ⟨rs, hrs⟩ : ∃ rs, (L.l.take k).drop e = rs := ⟨_, rfl⟩
        have hrl : rs.length = k - e := by rw [← hrs, List.length_drop, List.length_take]; have := HKN.out.2.2; omega
        have HSR : Hid (SlF w10 9 1 strB (.slice (some ⟨g4, o4 + e, none⟩) (rs.map toB).length (c4 - e)) (rs.map toB)) := Lib.hid (by
          have h1 := HMA.out.lg.recs
          have h2 : ((L.l.take k).map toB).length = k := by rw [List.length_map, List.length_take]; have := HKN.out.2.2; omega
          have h3 : SlF w10 9 1 strB (.slice (some ⟨g4, o4, none⟩) ((L.l.take k).map toB).length c4) ((L.l.take k).map toB) := by rw [h2]; exact h1
          have h4 := h3.drop strB_length e (by rw [h2]; exact hek.1)
          rw [h2, ← List.map_drop, hrs, Nat.mul_one] at h4
          rw [List.length_map, hrl]
          exact h4)
        have HZ : Hid (cutZ L n s1 = (rs.map fun b => 8 + b.length).sum) := Lib.hid (by unfold cutZ; rw [HK.out, HE.out.1, hrs])
        have HZL : Hid ((rs.map fun b => 8 + b.length).sum ≤ 1073741824) := Lib.hid (by
          have h1 := HBY.out
          have h2 := sum_parts (fun b : List UInt8 => 8 + b.length) L.l k
          have h3 := sum_parts (fun b : List UInt8 => 8 + b.length) (L.l.take k) e
          rw [hrs] at h3
          omega)
        have hrb : rs.length ≤ 1000000 := by have := HKN.out; omega
        rw [← hrl]
        generalize hqq : k - e = qq at *
        clear hqq
        go_upto_region 18 with fail
        go_loopg [8, 86] rs.length (fun g8 s8 s86 wx => ∃ i : Nat, s8 = .int .i64 (((rs.take i).map fun b => 8 + b.length).sum : Nat) ∧ s86 = .int .i64 i ∧ i + g8 = rs.length ∧ wx = w10)
        case atStart => exact ⟨0, rfl, rfl, by omega, rfl⟩
        case round =>
          obtain ⟨i, rfl, rfl, hig, rfl⟩ := hrel
          cases gk with
          | zero =>
            have hin : i = rs.length := by omega
            subst hin
            rw [List.take_length]
            obtain ⟨z, hzz⟩ : ∃ z, (rs.map fun b => 8 + b.length).sum = z := ⟨_, rfl⟩
            rw [hzz] at HZ HZL ⊢
            have hnlt : ¬ ((rs.length : Int) < (rs.length : Int)) := by omega
            clear hzz
            by_cases hzs : z = s2
            · have hzs' : ((z : Int) == (s2 : Int)) = true := by rw [hzs]; simp
              have HCU := Lib.hid (lgCut_some (L := L) (n := n) (D := D) (Di := Di) (T := T') (s := (s1, s2)) (by rw [HX1.out, HXX.out.1, HXX.out.2]))
              have HZS := Lib.hid hzs
              clear hzs
              go_wp2
              go_ret
              have h1 := HCU.out
              rw [if_pos (by show cutZ L n s1 = s2; rw [HZ.out, HZS.out]), HK.out] at h1
              exact ⟨rfl, by rw [h1]; exact HDA.out, _, _, by rw [h1]; exact HMA.out⟩
            · have hzs' : ((z : Int) == (s2 : Int)) = false := by simp; omega
              have hzd : decide (z = s2) = false := by simpa using hzs
              have HCU := lgCut_some (L := L) (n := n) (D := D) (Di := Di) (T := T') (s := (s1, s2)) (by rw [HX1.out, HXX.out.1, HXX.out.2])
              dsimp only at HCU
              rw [if_neg (by rw [HZ.out]; exact hzs), HZ.out, HK.out] at HCU
              have htr := HX3.out
              rw [HCU] at htr
              dsimp only at htr
              have hkz : ∀ gg, getF Di.fs s1 = some gg → z ≤ gg.data.length := by
                have h1 := HNB.out.2.2
                rw [← HXX.out.1, HZ.out] at h1
                exact h1
              have HZS := Lib.hid hzs
              have qf : wr.frozen? ⟨g, o + T'.length * 2 + 1, none⟩ = false := (show SlF wr 54 2 segC (.slice (some ⟨g, o, none⟩) (T' ++ [(s1, s2)]).length cap) (T' ++ [(s1, s2)]) from by rw [hlen]; exact HMA.out.lg.segs).free _
              have ql := World.block_lt_of_cell? _ _ y1'
              have H11 : LgM (wr.setCell ⟨g, o + T'.length * 2 + 1, none⟩ (.int .i64 z)) b0 p d m { L with segs := T' ++ [(s1, z)], l := L.l.take k } (.slice (some ⟨g, o, none⟩) (T'.length + 1) cap) (.slice (some ⟨g4, o4, none⟩) k c4) := by
                have h1 := HMA.out.lg
                rw [← hlen] at h1 ⊢
                exact LgM.setSeg (T := T') (s := (s1, s2)) h1 rfl z
              have hf11 : Fr (fun b => b = g) wr (wr.setCell ⟨g, o + T'.length * 2 + 1, none⟩ (.int .i64 z)) := (Fr.refl (fun b => b = g) wr).setCell (p := ⟨g, o + T'.length * 2 + 1, none⟩) (.inl rfl) _
              have HMB := Lib.hid (HMA.out.trans ⟨H11, fun _ h => .inl h, fun _ h => .inl h, hf11.mono fun _ _ e => .inr (.inr (.inr (.inl (by rw [e]; rfl))))⟩)
              have HNE : Hid (p ≠ d ∧ p ≠ m ∧ g ≠ d ∧ g ≠ m) := Lib.hid ⟨H11.ne.1, H11.ne.2, (H11.nes g rfl).1, (H11.nes g rfl).2.1⟩
              have HDB := Lib.hid (HDA.out.fr hf11 (fun e => HNE.out.2.2.1 e.symm) (fun e => HNE.out.2.2.2 e.symm))
              clear hzs H11 hf11
              go_upto_region 25 with fail
              clear qf ql y0' y1'
              generalize wr.setCell ⟨g, o + T'.length * 2 + 1, none⟩ (.int .i64 z) = w11 at *
              obtain ⟨q0, q1⟩ := SlF.cells2 segC_length (show SlF w11 54 2 segC (.slice (some ⟨g, o, none⟩) (T' ++ [(s1, z)]).length cap) (T' ++ [(s1, z)]) from by rw [show (T' ++ [(s1, z)]).length = T'.length + 1 by rw [List.length_append, List.length_singleton]]; exact HMB.out.lg.segs) T'.length (x := (s1, z)) (by simp) rfl
              have k0 : w11.cell? ⟨p, 0, none⟩ = some (.pointer (some ⟨d, 0, none⟩)) := cellAt HMB.out.lg.obj 0 rfl
              have T11 : Tab w11 := TT.out.fr HMB.out.fr fun e => by have := H.out.lb0 HH.out.2.1 e; have := HH.out.1; omega
              have HNM := Lib.hid fun W (hW : Fr No w11 W) => name_calls (T11.fr0 hW) s1 hsok.2.1 (z : Int)
              have HTR := Lib.hid fun W (hW : Fr No w11 W) => (HDB.out.fr0 hW).truncate s1 hsok.2.1 z hkz
              rw [htr] at HTR
              have HCUT := Lib.hid HCU
              clear HCU htr hkz T11
              generalize (Di.truncate RR s1 z).1 = D9 at *
              have q0' := (Fr.refl No w11).drew.cell0 q0
              have q1' := (Fr.refl No w11).drew.cell0 q1
              have k0' := (Fr.refl No w11).drew.cell0 k0
              go_region_held3 (fun W => W.cell? ⟨p, 0, none⟩ = some (.pointer (some ⟨d, 0, none⟩)) ∧ W.cell? ⟨g, o + T'.length * 2, none⟩ = some (.int .i64 s1) ∧ W.cell? ⟨g, o + T'.length * 2 + 1, none⟩ = some (.int .i64 z))
                (first | exact ⟨k0, q0, q1⟩ | exact ⟨k0', q0', q1'⟩ | exact ⟨r0, r1, r2⟩ | exact ⟨t0, t1, t2⟩)
                (first
                  | (go_at_call 30; (with_reducible refine (HNM.out _ (Fr.refl No w11).drew).mono ?_); rintro e w12 ⟨rfl, hf12⟩; have hfa := (Fr.refl No w11).drew.trans0 hf12; have r0 := hfa.cell0 k0; have r1 := hfa.cell0 q0; have r2 := hfa.cell0 q1)
                  | (go_at_call 32; (with_reducible refine (HTR.out _ hfa).mono ?_); rintro e w13 ⟨rfl, a13, hf13⟩; have t0 := hf13.cell r0 (fun e => e.elim HNE.out.1 HNE.out.2.1); have t1 := hf13.cell r1 (fun e => e.elim HNE.out.2.2.1 HNE.out.2.2.2); have t2 := hf13.cell r2 (fun e => e.elim HNE.out.2.2.1 HNE.out.2.2.2)))
              have HE := Lib.hid ((HMB.out.quiet hfa).disk hf13)
              have HA13 := Lib.hid a13
              clear r0 r1 r2 t0 t1 t2 q0 q1 k0 q0' q1' k0' hfa hf12 hf13 a13
              go_wp2
              go_ret
              exact ⟨rfl, by rw [HCUT.out]; exact HA13.out, _, _, by rw [HCUT.out]; exact HE.out⟩
          | succ q8 =>
            obtain ⟨b, hbi⟩ : ∃ b, rs[i]? = some b := ⟨_, List.getElem?_eq_getElem (by omega)⟩
            have hcell := HSR.out.cell1 strB_length i (x := toB b) (u := .string (toB b)) (by rw [List.getElem?_map, hbi]; rfl) rfl
            have hlt : (i : Int) < (rs.length : Int) := by omega
            have hbz := toB_size b
            have hil : i ≤ 1000000 := by omega
            have HIG : Hid (i + 1 + q8 = rs.length) := Lib.hid (by omega)
            have HNXT : Hid (((rs.take (i + 1)).map fun b => 8 + b.length).sum = ((rs.take i).map fun b => 8 + b.length).sum + (8 + b.length)) := Lib.hid (by rw [List.take_add_one, hbi, List.map_append, List.sum_append]; simp)
            have hle : ((rs.take (i + 1)).map fun b => 8 + b.length).sum ≤ 1073741824 := by
              have h1 := HZL.out
              have h2 := sum_parts (fun b : List UInt8 => 8 + b.length) rs (i + 1)
              omega
            rw [HNXT.out] at hle
            generalize ((rs.take i).map fun b => 8 + b.length).sum = zi at *
            have hw1 : IntKind.i64.wrap (8 + (b.length : Int)) = 8 + (b.length : Int) := by rw [IntKind.wrap_i64]; omega
            have hw2 : IntKind.i64.wrap ((zi : Int) + (8 + (b.length : Int))) = (zi : Int) + (8 + (b.length : Int)) := by rw [IntKind.wrap_i64]; omega
            generalize toB b = Bb at *
            clear hbi
            go_wp2
            go_roundg q8
            case rel => exact ⟨i + 1, by rw [HNXT.out]; go_num, by go_num, HIG.out, rfl⟩
            case measure => omega
end
end Go.Proofs.YtillejdjghlicaaGreatDoor
