/- A log in memory: load. The conditions: the disk lives and is not armed; the file is whole, or it is the last one. -/
import Derived.Test.YtillejdjghlicaaGreatDoorLdL
import Derived.Test.YtillejdjghlicaaGreatDoorAppL
namespace Go.Proofs.YtillejdjghlicaaGreatDoor
open Go Go.Proofs Go.RowKit Go.WideElems Go.ChangeMaps Go.WideMaps
set_option maxRecDepth 100000

theorem LgM.setFirst {w : World} {b0 p d m : Nat} {L : Lg} {vs vl : Value} (h : LgM w b0 p d m L vs vl) (v : Nat) : LgM (w.setCell ⟨p, 3, none⟩ (.int .i64 v)) b0 p d m { L with first := v } vs vl := by
  have hf : Fr (fun b => b = p) w (w.setCell ⟨p, 3, none⟩ (.int .i64 v)) := (Fr.refl (fun b => b = p) w).setCell (p := ⟨p, 3, none⟩) (.inl rfl) _
  exact ⟨(heap_setCell_same h.obj 3 _).trans rfl, h.segs.fr hf fun k hk e => (h.nes k hk).2.2 e, h.recs.fr hf fun k hk e => (h.nel k hk).2.2 e, h.lo, h.ne, h.nes, h.nel, h.nsl⟩
theorem LgM.setSegAt {w : World} {b0 p d m : Nat} {L : Lg} {vl : Value} {g o c : Nat} (h : LgM w b0 p d m L (.slice (some ⟨g, o, none⟩) L.segs.length c) vl) {i : Nat} {s : Nat × Nat} (hs : L.segs[i]? = some s) (v : Nat) :
    LgM (w.setCell ⟨g, o + i * 2 + 1, none⟩ (.int .i64 v)) b0 p d m { L with segs := L.segs.set i (s.1, v) } (.slice (some ⟨g, o, none⟩) L.segs.length c) vl := by
  have hset := SlF.set segC_length h.segs i 1 (by decide) s (s.1, v) (.int .i64 v) hs rfl
  have hf : Fr (fun b => b = g) w (w.setCell ⟨g, o + i * 2 + 1, none⟩ (.int .i64 v)) := (Fr.refl (fun b => b = g) w).setCell (p := ⟨g, o + i * 2 + 1, none⟩) (.inl rfl) _
  have hne := h.nes g rfl
  exact ⟨hf.heap h.obj fun e => hne.2.2 e.symm, hset, h.recs.fr hf (fun k hk e => h.nsl g rfl (e ▸ hk)), h.lo, h.ne, h.nes, h.nel, h.nsl⟩
theorem LdOk.head {f : Fi} {R : List Fi} (h : LdOk (f :: R)) (hR : R ≠ []) : (allB sumS f.data).2.1 = f.data.length ∧ ∀ g, R.head? = some g → g.num = f.num + (allB sumS f.data).1.length := by
  cases R with
  | nil => exact absurd rfl hR
  | cons g R => exact ⟨h.1.1, fun x hx => by cases hx; exact h.1.2⟩
section
variable {w : World} {b0 p d m : Nat} {vs vl : Value}
set_option maxHeartbeats 4000000 in
theorem wload_calls {D : Dk} {size : Nat} {P R : List Fi} {f : Fi} (h : LgM w b0 p d m (LdS size P (f :: R)) vs vl) (a : DkM w d m D) (T : Tab w) (hfs : D.fs = P ++ f :: R) (hd : D.dead = false) (ha : D.armed = 0) (ok : LdOk (f :: R)) (h4 : 4 < b0) (hbd : b0 ≤ d ∧ b0 ≤ m) :
    Calls Tryz.prog 24 #[.pointer (some ⟨p, 0, none⟩), .int .i64 P.length] w fun e w' => e = .returned (.int .i64 0) ∧ (∃ vs' vl', LgI w w' b0 p d m (LdS size (P ++ [f]) R) vs vl vs' vl') ∧ ((allB sumS f.data).2.1 = f.data.length → DkM w' d m D) := by
  obtain ⟨i0, hi0, hz0, hz1, hz2⟩ := info_parts infoStr
  have hlen := LdS.segs_len size P (f :: R)
  rw [List.length_cons] at hlen
  have hseg := LdS.segs_at size P R f
  have hmem : f ∈ D.fs := by rw [hfs]; exact List.mem_append_right _ (List.mem_cons_self ..)
  have hrg := a.ok.rg f hmem
  have hget := a.ok.get hmem
  have hcnt := a.ok.len
  rw [hfs, List.length_append, List.length_cons] at hcnt
  have hdl := sizeF_get hget
  have hlim : sizeF D.fs ≤ 1073741824 := by have := a.sz; have := a.lim; omega
  obtain ⟨ads, cs, rfl, _, _, hgs⟩ := h.segs.shape
  obtain ⟨g, o, rfl⟩ := hgs (by omega)
  obtain ⟨q0, q1⟩ := SlF.cells2 segC_length h.segs P.length (x := (f.num, 0)) hseg rfl
  have c2 : w.cell? ⟨p, 2, none⟩ = some (.slice (some ⟨g, o, none⟩) (LdS size P (f :: R)).segs.length cs) := cellAt h.obj 2 rfl
  have c3 : w.cell? ⟨p, 3, none⟩ = some (.int .i64 (LdS size P (f :: R)).first) := cellAt h.obj 3 rfl
  have f3 := h.free 3
  rw [hlen] at c2
  have lp := heap_lt h.obj
  have H := Lib.hid h
  have A := Lib.hid a
  have HH := Lib.hid (And.intro h4 hbd)
  have HT := Lib.hid T
  have HRD := Lib.hid fun W (hW : Fr (fun b => b = p) w W) => (a.fr hW (fun e => h.ne.1 e.symm) (fun e => h.ne.2 e.symm)).read f.num hrg.2 hget hd
  have HNM := Lib.hid fun W (hW : Fr (fun b => b = p) w W) => name_calls (T.fr hW fun e => by have := h.lo.1; omega) f.num hrg.2 (0 : Int)
  have hi1 : (P.length : Int) < ((P.length + (R.length + 1) : Nat) : Int) := by omega
  have hi2 : (0 : Int) ≤ (P.length : Int) := by omega
  have hi3 : (P.length : Int) < (P.length : Int) + ((R.length : Int) + 1) := by omega
  clear h a T
  have HFI := Lib.hid (LdS.first_snoc size P R f)
  have hle := allB_le f.data
  have HALL := Lib.hid fun W => all_calls W f.data (by omega)
  have HSET := Lib.hid (LdS.segs_set size P R f)
  have HLSN := Lib.hid (LdS.l_snoc size P R f)
  have HLEN2 : Hid ((LdS size (P ++ [f]) R).segs.length = P.length + (R.length + 1)) := Lib.hid (by rw [LdS.segs_len, List.length_append, List.length_singleton]; omega)
  have HOK := Lib.hid fun hR => ok.head hR
  have hll := LdS.l_len size P (f :: R)
  have hszP : sizeF P ≤ 1073741824 := by
    have : sizeF (P ++ f :: R) = sizeF P + sizeF (f :: R) := sizeF_append ..
    rw [hfs] at hlim
    omega
  have hfz := toB_size f.data
  obtain ⟨⟨rc, n, er⟩, hX⟩ : ∃ X, allB sumS f.data = X := ⟨_, rfl⟩
  rw [hX] at HALL HSET HLSN HOK hle ⊢
  dsimp only at HALL HSET HLSN HOK hle ⊢
  clear hX ok
  by_cases hP : P.length = 0
  focus
    have hP1 : ((P.length : Int) == 0) = true := by simpa using List.eq_nil_of_length_eq_zero hP
    have HP := Lib.hid hP
    clear hP
    go_enter Tryz.func24, Tryz.ntmps24
    go_upto_region 4 with fail
    have H1 : Hid (LgM (w.setCell ⟨p, 3, none⟩ (.int .i64 f.num)) b0 p d m { LdS size P (f :: R) with first := (LdS size (P ++ [f]) R).first } (.slice (some ⟨g, o, none⟩) (LdS size P (f :: R)).segs.length cs) vl) := Lib.hid (by
      rw [HFI.out, if_pos HP.out]
      exact H.out.setFirst f.num)
    have hf1 : Fr (fun b => b = p) w (w.setCell ⟨p, 3, none⟩ (.int .i64 f.num)) := (Fr.refl (fun b => b = p) w).setCell (p := ⟨p, 3, none⟩) (.inl rfl) _
    have HF1 := Lib.hid hf1
    clear hf1 c2 q0 q1
    generalize w.setCell ⟨p, 3, none⟩ (.int .i64 f.num) = w1 at *
  rotate_left
  focus
    have hP1 : ((P.length : Int) == 0) = false := by simpa using fun e => hP (congrArg List.length e)
    have HP := Lib.hid hP
    clear hP
    go_enter Tryz.func24, Tryz.ntmps24
    go_upto_region 4 with fail
    have H1 : Hid (LgM w b0 p d m { LdS size P (f :: R) with first := (LdS size (P ++ [f]) R).first } (.slice (some ⟨g, o, none⟩) (LdS size P (f :: R)).segs.length cs) vl) := Lib.hid (by
      rw [HFI.out, if_neg HP.out]
      exact H.out)
    have HF1 := Lib.hid (Fr.refl (fun b => b = p) w)
    clear c2 q0 q1
  all_goals
    obtain ⟨q0, q1⟩ := SlF.cells2 segC_length H1.out.segs P.length (x := (f.num, 0)) hseg rfl
    have k0 := cellAt H1.out.obj 0 rfl
    have q0' := (Fr.refl No _).drew.cell0 q0
    have q1' := (Fr.refl No _).drew.cell0 q1
    have k0' := (Fr.refl No _).drew.cell0 k0
    go_region_held3 (fun W => W.cell? ⟨p, 0, none⟩ = some (.pointer (some ⟨d, 0, none⟩)) ∧ W.cell? ⟨g, o + P.length * 2, none⟩ = some (.int .i64 f.num) ∧ W.cell? ⟨g, o + P.length * 2 + 1, none⟩ = some (.int .i64 0))
      (first | exact ⟨k0, q0, q1⟩ | exact ⟨k0', q0', q1'⟩ | exact ⟨r0, r1, r2⟩ | exact ⟨t0, t1, t2⟩)
      (first
        | (go_at_call 30; (with_reducible refine (HNM.out _ HF1.out.drew).mono ?_); rintro e w4 ⟨rfl, hf4⟩; have hf14 := HF1.out.drew.trans0 hf4; have r0 := hf4.cell0 k0'; have r1 := hf4.cell0 q0'; have r2 := hf4.cell0 q1')
        | (go_at_call 22; (with_reducible refine (HRD.out _ hf14).mono ?_); rintro e w5 ⟨rfl, hf5⟩; have hf15 := hf14.trans0 hf5; have t0 := hf5.cell0 r0; have t1 := hf5.cell0 r1; have t2 := hf5.cell0 r2))
    have hf05 := ((Fr.refl No _).drew.trans0 hf4).trans0 hf5
    have HH5 := Lib.hid (H1.out.fr0 hf05)
    have HF5 := Lib.hid hf15
    clear r0 r1 r2 t0 t1 t2 q0 q1 k0 q0' q1' k0' hf4 hf14 hf5 hf15 hf05
    obtain ⟨a4, c4, hv4, _, _, _⟩ := HH5.out.recs.shape
    rw [List.length_map] at hv4
    have k4 := cellAt HH5.out.obj 4 rfl
    rw [hv4] at k4
    have kf := HH5.out.free 4
    have hs4 := HH5.out.recs
    rw [hv4] at hs4
    have HS4 := Lib.hid hs4
    have HNV : Hid (¬ vl.ownBlock = some p) := Lib.hid fun e => (HH5.out.nel p e).2.2 rfl
    rw [hv4] at HNV
    have HV4 := Lib.hid hv4
    have HLB : Hid ((List.map toB (LdS size P (f :: R)).l).length + (List.map toB rc).length ≤ 4294967296) := Lib.hid (by rw [List.length_map, List.length_map]; omega)
    clear hs4 hv4
    go_upto_region 9 with (first
      | (go_at_call 43; (with_reducible refine (HALL.out _).mono ?_); rintro e w6 ⟨vr, rfl, hs6, hn6, hf6⟩; obtain ⟨ar, cr, rfl, _, _, _⟩ := hs6.shape; rw [List.length_map] at hs6; have y4 := hf6.cell0 k4; have yf := hf6.free0 k4 kf)
      | (at_builtin; go_loud (refine wpList_allG rfl _ _ 22 rfl 9 i0 _ 1 16 Tryz.underlying22 hi0 hz0 hz1 hz2 rfl (by decide) strB_length _ _ (List.map toB (LdS size P (f :: R)).l) (List.map toB rc) (fun x _ => strB_one x) rfl rfl (HS4.out.fr0 hf6) hs6 (by have := HLB.out; unfold maxLen; omega) (by have := HLB.out; omega) ?_; intro b7 k7 c7 w7 hs7 hn7 hf7; have z4 := hf7.cell y4 HNV.out; have zf := hf7.free y4 yf HNV.out; have zl := World.block_lt_of_cell? _ _ z4)))
    have hsz6 := hf6.size
    have hp6 := heap_lt (HH5.out.fr0 hf6).obj
    have hb6 : b0 ≤ w6.heap.size := by have := HH5.out.lo.1; omega
    have hd6 : d < w6.heap.size ∧ m < w6.heap.size := by
      have h1 := A.out.lts
      have h2 := HF5.out.size
      omega
    obtain ⟨M1, M2⟩ := (HH5.out.fr0 hf6).recsTo hb6 hd6 (by rw [HV4.out]; exact hf7) (S := (LdS size P (f :: R)).l ++ rc) (by rw [List.map_append]; exact hs7) (by rw [HV4.out]; exact hn7) rfl
    have HM1 := Lib.hid M1
    have HI8 := Lib.hid (LgI.trans ⟨HH5.out, fun _ h => .inl h, fun _ h => .inl h, HF5.out.mono fun _ _ e => .inl e⟩ (LgI.trans (LgI.quiet (LgI.refl HH5.out) hf6) ⟨M1, fun _ h => .inl h, by rw [HV4.out]; exact hn7, M2.mono fun _ _ e => e.elim .inl fun e => .inr (.inr (.inr (.inr e)))⟩))
    have HA8 := Lib.hid ((A.out.fr HF5.out (fun e => H.out.ne.1 e.symm) fun e => H.out.ne.2 e.symm).fr ((hf6.mono (T := fun b => b = p ∨ vl.ownBlock = some b) fun _ _ h => h.elim).trans M2 fun _ _ e => e) (fun e => e.elim (fun e => H.out.ne.1 e.symm) fun e => (HH5.out.nel d e).1 rfl) (fun e => e.elim (fun e => H.out.ne.2 e.symm) fun e => (HH5.out.nel m e).2.1 rfl))
    clear hs6 hn6 y4 yf hs7 hn7 hf7 z4 zf zl M1 M2 k4 kf hsz6 hp6 hb6 hd6 hf6
    generalize w7.setCell ⟨p, 4, none⟩ (.slice b7 k7 c7) = w8 at *
    obtain ⟨q0, q1⟩ := SlF.cells2 segC_length HM1.out.segs P.length (x := (f.num, 0)) hseg rfl
    have qf : w8.frozen? ⟨g, o + P.length * 2 + 1, none⟩ = false := HM1.out.segs.free _
    have ql := World.block_lt_of_cell? _ _ q1
    have H9 : LgM (w8.setCell ⟨g, o + P.length * 2 + 1, none⟩ (.int .i64 n)) b0 p d m (LdS size (P ++ [f]) R) (.slice (some ⟨g, o, none⟩) (LdS size P (f :: R)).segs.length cs) (.slice b7 k7 c7) := by
      have h1 := HM1.out.setSegAt hseg n
      dsimp only at h1
      rw [HSET.out, ← HLSN.out] at h1
      exact h1
    have hf9 : Fr (fun b => b = g) w8 (w8.setCell ⟨g, o + P.length * 2 + 1, none⟩ (.int .i64 n)) := (Fr.refl (fun b => b = g) w8).setCell (p := ⟨g, o + P.length * 2 + 1, none⟩) (.inl rfl) _
    have HI9 := Lib.hid (HI8.out.trans ⟨H9, fun _ h => .inl h, fun _ h => .inl h, hf9.mono fun _ _ e => .inr (.inr (.inr (.inl (by rw [e]; rfl))))⟩)
    rw [hlen] at HI9
    have HA9 := Lib.hid (HA8.out.fr hf9 (fun e => (HM1.out.nes g rfl).1 e.symm) (fun e => (HM1.out.nes g rfl).2.1 e.symm))
    go_upto_region 10 with fail
    clear q0 q1 qf ql hf9 H9
    generalize w8.setCell ⟨g, o + P.length * 2 + 1, none⟩ (.int .i64 n) = w9 at *
    have c2 : w9.cell? ⟨p, 2, none⟩ = some (.slice (some ⟨g, o, none⟩) (P.length + (R.length + 1)) cs) := cellAt HI9.out.lg.obj 2 rfl
    have hwl : IntKind.i64.wrap ((P.length : Int) + ((R.length : Int) + 1) - 1) = (P.length : Int) + (R.length : Int) := by rw [IntKind.wrap_i64]; omega
    go_upto_region 11 with fail
    by_cases hR : R = []
    · have heq : ((P.length : Int) == (P.length : Int) + (R.length : Int)) = true := by rw [hR]; simp
      have HR := Lib.hid hR
      clear hR
      rw [heq]
      go_quiet (fail)
      have HQ := Lib.hid (Fr.drewN No w9 nq)
      generalize w9.drewN nq = wq at *
      by_cases hw : n = f.data.length
      · have hw' : ((n : Int) == (f.data.length : Int)) = true := by rw [hw]; simp
        have HW := Lib.hid hw
        clear hw
        go_wp2
        go_ret
        exact ⟨rfl, (by first | exact ⟨_, _, HI9.out.quiet HQ.out⟩ | (rw [hlen]; exact ⟨_, _, HI9.out.quiet HQ.out⟩)), fun _ => HA9.out.fr0 HQ.out⟩
      · have hw' : ((n : Int) == (f.data.length : Int)) = false := by simp; omega
        have htr : (D.truncate RR f.num n).2 = 0 ∧ ((D.truncate RR f.num n).1.sync RR f.num).2 = 0 := by
          have e1 : D.truncate RR f.num n = (⟨putF D.fs ⟨f.num, f.data.take n, min f.syn n⟩, D.lim, D.armed, D.dead⟩, 0) := by
            unfold Dk.truncate
            rw [if_neg (by rw [hd]; simp), hget]
            dsimp only
            rw [act_calm ha, if_neg (by rw [hd]; simp)]
          rw [e1]
          refine ⟨rfl, ?_⟩
          unfold Dk.sync
          dsimp only
          rw [if_neg (by rw [hd]; simp), getF_put, if_pos rfl]
          dsimp only
          rw [act_calm (by exact ha), if_neg (by rw [hd]; simp)]
        have T9 : Tab wq := (HT.out.fr HI9.out.fr fun e => by have := H.out.lb0 HH.out.2 e; have := HH.out.1; omega).fr0 HQ.out
        have HNM2 := Lib.hid fun W (hW : Fr (DM d m) wq W) => name_calls (T9.fr hW fun e => by have := HH.out; rcases e with e | e <;> omega) f.num hrg.2 (n : Int)
        have HTR := Lib.hid fun W (hW : Fr No wq W) => ((HA9.out.fr0 HQ.out).fr0 hW).truncate f.num hrg.2 n fun g' hg' => by rw [hget] at hg'; cases hg'; exact hle.2
        obtain ⟨⟨D1, e1⟩, hD1⟩ : ∃ X, D.truncate RR f.num n = X := ⟨_, rfl⟩
        rw [hD1] at htr HTR
        obtain ⟨htr1, htr2⟩ := htr
        dsimp only at htr1
        subst htr1
        have HSY := Lib.hid fun W (aW : DkM W d m D1) => aW.sync f.num hrg.2
        dsimp only at htr2
        rw [htr2] at HSY
        have HW := Lib.hid hw
        clear hw hD1 htr2 T9
        have hsl := (HI9.out.quiet HQ.out).lg.segs
        rw [← HLEN2.out] at hsl
        obtain ⟨q0, q1⟩ := SlF.cells2 segC_length hsl P.length (x := (f.num, n)) (by rw [← HSET.out, List.getElem?_set_self (by rw [hlen]; omega)]) rfl
        have k0 := cellAt (HI9.out.quiet HQ.out).lg.obj 0 rfl
        have HNE : Hid (p ≠ d ∧ p ≠ m ∧ g ≠ d ∧ g ≠ m) := Lib.hid ⟨H.out.ne.1, H.out.ne.2, (H.out.nes g rfl).1, (H.out.nes g rfl).2.1⟩
        clear hsl c2
        go_upto_region 15 with fail
        have q0' := (Fr.refl No _).drew.cell0 q0
        have q1' := (Fr.refl No _).drew.cell0 q1
        have k0' := (Fr.refl No _).drew.cell0 k0
        go_region_held3 (fun W => W.cell? ⟨p, 0, none⟩ = some (.pointer (some ⟨d, 0, none⟩)) ∧ W.cell? ⟨g, o + P.length * 2, none⟩ = some (.int .i64 f.num) ∧ W.cell? ⟨g, o + P.length * 2 + 1, none⟩ = some (.int .i64 n))
          (first | exact ⟨k0, q0, q1⟩ | exact ⟨k0', q0', q1'⟩ | exact ⟨r0, r1, r2⟩ | exact ⟨t0, t1, t2⟩)
          (first
            | (go_at_call 30; (with_reducible refine (HNM2.out _ (Fr.refl (DM d m) _).drew).mono ?_); rintro e w10 ⟨rfl, hf10⟩; have hfa := (Fr.refl No wq).drew.trans0 hf10; have r0 := hfa.cell0 k0; have r1 := hfa.cell0 q0; have r2 := hfa.cell0 q1)
            | (go_at_call 32; (with_reducible refine (HTR.out _ hfa).mono ?_); rintro e w11 ⟨rfl, a11, hf11⟩; have hfb := (hfa.mono (T := DM d m) fun _ _ h => h.elim).trans hf11 fun _ _ h => h; have t0 := hf11.cell r0 (fun e => e.elim HNE.out.1 HNE.out.2.1); have t1 := hf11.cell r1 (fun e => e.elim HNE.out.2.2.1 HNE.out.2.2.2); have t2 := hf11.cell r2 (fun e => e.elim HNE.out.2.2.1 HNE.out.2.2.2)))
        have HB := Lib.hid hfb
        have A11 := Lib.hid a11
        clear r0 r1 r2 q0 q1 k0 q0' q1' k0' hfa hf10 hf11 a11 hfb
        go_upto_region 18 with fail
        have t0' := (Fr.refl No _).drew.cell0 t0
        have t1' := (Fr.refl No _).drew.cell0 t1
        have t2' := (Fr.refl No _).drew.cell0 t2
        go_region_held3 (fun W => W.cell? ⟨p, 0, none⟩ = some (.pointer (some ⟨d, 0, none⟩)) ∧ W.cell? ⟨g, o + P.length * 2, none⟩ = some (.int .i64 f.num) ∧ W.cell? ⟨g, o + P.length * 2 + 1, none⟩ = some (.int .i64 n))
          (first | exact ⟨t0, t1, t2⟩ | exact ⟨t0', t1', t2'⟩ | exact ⟨r0, r1, r2⟩ | exact ⟨z0, z1, z2⟩)
          (first
            | (go_at_call 30; (with_reducible refine (HNM2.out _ HB.out.drew).mono ?_); rintro e w12 ⟨rfl, hf12⟩; have hfa := (Fr.refl No w11).drew.trans0 hf12; have r0 := hfa.cell0 t0; have r1 := hfa.cell0 t1; have r2 := hfa.cell0 t2)
            | (go_at_call 37; (with_reducible refine (HSY.out _ (A11.out.fr0 hfa)).mono ?_); rintro e w13 ⟨rfl, a13, hf13⟩; have z0 := hf13.cell r0 (fun e => e.elim HNE.out.1 HNE.out.2.1); have z1 := hf13.cell r1 (fun e => e.elim HNE.out.2.2.1 HNE.out.2.2.2); have z2 := hf13.cell r2 (fun e => e.elim HNE.out.2.2.1 HNE.out.2.2.2)))
        have HE := Lib.hid (((HI9.out.quiet HQ.out).disk HB.out).disk ((hfa.mono (T := DM d m) fun _ _ h => h.elim).trans hf13 fun _ _ h => h))
        clear t0 t1 t2 t0' t1' t2' r0 r1 r2 z0 z1 z2 hfa hf12 hf13
        go_wp2
        go_ret
        exact ⟨rfl, (by first | exact ⟨_, _, HE.out⟩ | (rw [hlen]; exact ⟨_, _, HE.out⟩)), fun h => absurd h HW.out⟩
    · obtain ⟨hn, hnx⟩ := HOK.out hR
      obtain ⟨g2, R2, rfl⟩ := List.exists_cons_of_ne_nil hR
      have hg2 := hnx g2 rfl
      have heq : ((P.length : Int) == (P.length : Int) + ((g2 :: R2).length : Int)) = false := by rw [List.length_cons]; simp; omega
      have hsl := HI9.out.lg.segs
      rw [← HLEN2.out] at hsl
      obtain ⟨q0, q1⟩ := SlF.cells2 segC_length hsl P.length (x := (f.num, n)) (by rw [← HSET.out, List.getElem?_set_self (by rw [hlen]; omega)]) rfl
      obtain ⟨q2, q3⟩ := SlF.cells2 segC_length hsl (P.length + 1) (x := (g2.num, 0)) (by
        have := LdS.segs_at size (P ++ [f]) R2 g2
        rwa [List.length_append, List.length_singleton] at this) rfl
      have hd1 : decide ((n : Int) < (f.data.length : Int)) = false := by simp; omega
      have hd2 : decide (n < f.data.length) = false := by simp; omega
      have hwi : IntKind.i64.wrap ((P.length : Int) + 1) = (P.length : Int) + 1 := by rw [IntKind.wrap_i64]; omega
      have hi4 : (0 : Int) ≤ (P.length : Int) + 1 := by omega
      have hi5 : (P.length : Int) + 1 < (P.length : Int) + (((g2 :: R2).length : Int) + 1) := by rw [List.length_cons]; omega
      have htn : ((P.length : Int) + 1).toNat = P.length + 1 := by omega
      have hwn : IntKind.i64.wrap ((f.num : Int) + (rc.length : Int)) = (f.num : Int) + (rc.length : Int) := by rw [IntKind.wrap_i64]; omega
      have hne : ((g2.num : Int) != (f.num : Int) + (rc.length : Int)) = false := by rw [hg2]; simp
      have hw' : ((n : Int) == (f.data.length : Int)) = true := by rw [hn]; simp
      have HNN := Lib.hid hn
      generalize hRR : (g2 :: R2).length = RL at *
      clear hR hnx hsl hn hg2 hRR
      rw [heq]
      go_quiet (fail)
      have HQ := Lib.hid (Fr.drewN No w9 nq)
      go_wp2
      go_ret
      exact ⟨rfl, (by first | exact ⟨_, _, HI9.out.quiet HQ.out⟩ | (rw [hlen]; exact ⟨_, _, HI9.out.quiet HQ.out⟩)), fun _ => HA9.out.fr0 HQ.out⟩
end
end Go.Proofs.YtillejdjghlicaaGreatDoor
