/- A log in memory: Open. The conditions: the disk lives and is not armed; all files but the last one are whole; the size is one to 2^20. -/
import Derived.Test.YtillejdjghlicaaGreatDoorWalF
namespace Go.Proofs.YtillejdjghlicaaGreatDoor
open Go Go.Proofs Go.RowKit Go.WideElems Go.ChangeMaps Go.WideMaps
set_option maxRecDepth 100000

/-- A log whose segments are named, none loaded. -/
def NmS (size : Nat) (fs : List Fi) (i : Nat) : Lg := ⟨size, (fs.take i).map fun g => (g.num, 0), 1, []⟩
theorem NmS.all (size : Nat) (fs : List Fi) : NmS size fs fs.length = LdS size [] fs := by
  unfold NmS LdS
  rw [List.take_length]
  rfl
theorem LdOk.whole : ∀ {P R : List Fi}, LdOk (P ++ R) → R ≠ [] → ∀ f ∈ P, (allB sumS f.data).2.1 = f.data.length
  | [], _, _, _, f, hf => by cases hf
  | f :: P, R, h, hR, g, hg => by
    have hne : P ++ R ≠ [] := fun e => hR (List.append_eq_nil_iff.1 e).2
    rcases List.mem_cons.1 hg with rfl | hg
    · exact (LdOk.head (show LdOk (g :: (P ++ R)) from h) hne).1
    · refine LdOk.whole (P := P) (R := R) ?_ hR g hg
      exact LdOk.tail (P := [f]) h
section
variable {w : World} {d m : Nat}
set_option maxHeartbeats 4000000 in
theorem wopen_calls {D : Dk} (a : DkM w d m D) (T : Tab w) (hd : D.dead = false) (ha : D.armed = 0) (size : Nat) (hz : 1 ≤ size ∧ size ≤ 1048576) (ok : LdOk D.fs) (b0 : Nat) (hb : b0 ≤ w.heap.size) (h4 : 4 < b0) (hbd : b0 ≤ d ∧ b0 ≤ m) :
    Calls Tryz.prog 9 #[.pointer (some ⟨d, 0, none⟩), .int .i64 size] w fun e w' => ∃ p, e = .returned (.tuple #[.pointer (some ⟨p, 0, none⟩), .int .i64 0]) ∧ (∃ vs vl, LgM w' b0 p d m (LdS size D.fs []) vs vl) ∧ w.heap.size ≤ p ∧ Fr (DM d m) w w' ∧ ((∀ f ∈ D.fs, (allB sumS f.data).2.1 = f.data.length) → DkM w' d m D) := by
  obtain ⟨i0, hi0, hz0, hz1, hz2⟩ := info_parts infoSeg
  have hp := a.pre
  rw [hd] at hp
  have hdm := a.lts
  have hfl := a.ok.len
  have e1 : ¬ (size : Int) < 1 := by omega
  have e2 : ¬ (size : Int) > 1048576 := by omega
  have HP := Lib.hid hp
  have A := Lib.hid a
  have TT := Lib.hid T
  have HNM := Lib.hid fun W (hW : Fr No w W) => (a.fr0 hW).names hd
  have HH := Lib.hid (And.intro hb (And.intro h4 (And.intro hbd (And.intro hdm hd))))
  have HRG := Lib.hid a.ok.rg
  have OK := Lib.hid ok
  have HA := Lib.hid ha
  clear hp a T hd ha hz ok hb h4 hbd hdm
  go_enter Tryz.func9, Tryz.ntmps9
  go_upto_region 9 with (go_at_call 22; (with_reducible refine HP.out.mono ?_); rintro e w1 ⟨rfl, hf1⟩)
  have hf2 : Fr No w (w1.alloc (.cells #[.pointer (some ⟨d, 0, none⟩), .int .i64 size, .slice none 0 0, .int .i64 1, .slice none 0 0] 51)) := hf1.alloc _
  have hp1 : w.heap.size ≤ w1.heap.size := hf1.size
  have H2 : LgM (w1.alloc (.cells #[.pointer (some ⟨d, 0, none⟩), .int .i64 size, .slice none 0 0, .int .i64 1, .slice none 0 0] 51)) b0 w1.heap.size d m (NmS size D.fs 0) (.slice none 0 0) (.slice none 0 0) :=
    ⟨alloc_at w1 _ _ rfl, SlF.nil _ _ _ _, SlF.nil _ _ _ _, ⟨by have := HH.out.1; omega, fun k hk => by simp [Value.ownBlock] at hk, fun k hk => by simp [Value.ownBlock] at hk⟩, by have := HH.out.2.2.2.1; omega, fun k hk => by simp [Value.ownBlock] at hk, fun k hk => by simp [Value.ownBlock] at hk, fun k hk => by simp [Value.ownBlock] at hk⟩
  have hsz2 : (w1.alloc (.cells #[.pointer (some ⟨d, 0, none⟩), .int .i64 size, .slice none 0 0, .int .i64 1, .slice none 0 0] 51)).heap.size = w1.heap.size + 1 := alloc_size _ _
  generalize w1.alloc (.cells #[.pointer (some ⟨d, 0, none⟩), .int .i64 size, .slice none 0 0, .int .i64 1, .slice none 0 0] 51) = w2 at *
  generalize w1.heap.size = p at *
  have HPP := Lib.hid hp1
  have HP2 := Lib.hid hsz2
  have HM2 := Lib.hid H2
  have HF2 := Lib.hid hf2
  clear hf1 hf2 H2 hsz2
  go_upto_region 10 with (go_at_call 13; (with_reducible refine (HNM.out _ HF2.out).mono ?_); rintro e w3 ⟨vn, rfl, hs3, hf3, hn3⟩; obtain ⟨an, cn, rfl, _, _, hgn⟩ := hs3.shape; rw [List.length_map] at hs3 hgn)
  have HS3 := Lib.hid hs3
  have HN3 := Lib.hid hn3
  have HF3 := Lib.hid (HF2.out.trans0 hf3)
  have HM3 := Lib.hid (HM2.out.fr0 hf3)
  have HFZ : Hid (w2.heap.size ≤ w3.heap.size) := Lib.hid hf3.size
  clear hs3 hn3 hf3
  go_loopg [39] D.fs.length (fun g s39 wr => ∃ (i : Nat) (vsi : Value), s39 = .int .i64 i ∧ i + g = D.fs.length ∧ Hid (DkM wr d m D) ∧ Hid (LgI w3 wr b0 p d m (NmS size D.fs i) (.slice none 0 0) (.slice none 0 0) vsi (.slice none 0 0)))
  case atStart => exact ⟨0, _, rfl, by omega, Lib.hid (A.out.fr0 HF3.out), Lib.hid (LgI.refl HM3.out)⟩
  case round =>
    obtain ⟨i, vsi, rfl, hig, HD, HL⟩ := hrel
    cases gk with
    | zero =>
      have hin : i = D.fs.length := by omega
      subst hin
      rw [NmS.all] at HL
      obtain ⟨av, cv, rfl, _, _, _⟩ := HL.out.lg.segs.shape
      have c2 := cellAt HL.out.lg.obj 2 rfl
      rw [LdS.segs_len, List.length_nil, Nat.zero_add] at c2
      go_upto_region 17 with fail
      clear c2
      go_loopg [64] D.fs.length (fun g s64 wx => ∃ (P R : List Fi) (vsi vli : Value), s64 = .int .i64 P.length ∧ g = R.length ∧ P.length + R.length = D.fs.length ∧ Hid (D.fs = P ++ R) ∧ Hid (LgI w3 wx b0 p d m (LdS size P R) (.slice none 0 0) (.slice none 0 0) vsi vli) ∧ Hid ((∀ f ∈ P, (allB sumS f.data).2.1 = f.data.length) → DkM wx d m D))
      case atStart => exact ⟨[], D.fs, _, _, rfl, rfl, by simp, Lib.hid rfl, HL, Lib.hid fun _ => HD.out⟩
      case round =>
        obtain ⟨P, R, vsi, vli, rfl, rfl, hPR, HE, HL2, HD2⟩ := hrel
        cases R with
        | nil =>
          have hPl : P.length = D.fs.length := by simpa using hPR
          have HPD : Hid (P = D.fs) := Lib.hid (by rw [HE.out, List.append_nil])
          have hPI : ¬ ((P.length : Int) < (D.fs.length : Int)) := by omega
          go_wp2
          go_ret2
          have HFF : Fr (DM d m) w wr := (HF3.out.mono (T := DM d m) fun _ _ h => h.elim).trans HL2.out.fr fun k hk e => by
            have h3 := HPP.out
            rcases e with e | e | e | e | e
            · omega
            · exact .inl e
            · exact .inr e
            · simp [Value.ownBlock] at e
            · simp [Value.ownBlock] at e
          refine ⟨p, rfl, ⟨vsi, vli, ?_⟩, HPP.out, HFF, fun h => HD2.out fun f hf => h f (by rw [← HPD.out]; exact hf)⟩
          have h1 := HL2.out.lg
          rw [HPD.out] at h1
          exact h1
        | cons f R =>
          have hlt : (P.length : Int) < (D.fs.length : Int) := by rw [List.length_cons] at hPR; omega
          have hok : LdOk (P ++ f :: R) := by rw [← HE.out]; exact OK.out
          have TR : Tab wr := (TT.out.fr0 HF3.out).fr HL2.out.fr fun e => by
            have h1 := HH.out
            have h3 := HPP.out
            rcases e with e | e | e | e | e
            · omega
            · omega
            · omega
            · simp [Value.ownBlock] at e
            · simp [Value.ownBlock] at e
          have HLO := Lib.hid (wload_calls HL2.out.lg (HD2.out (LdOk.whole hok (by simp))) TR HE.out HH.out.2.2.2.2 HA.out (LdOk.tail hok) HH.out.2.1 HH.out.2.2.1)
          clear hok TR
          go_wp2_with (go_at_call 24; (with_reducible refine HLO.out.mono ?_); rintro e w6 ⟨rfl, ⟨vs6, vl6, h6⟩, hd6⟩)
          have HL6 := Lib.hid (HL2.out.trans h6)
          have HD6 := Lib.hid hd6
          clear h6 hd6
          go_roundg R.length
          case rel => exact ⟨P ++ [f], R, vs6, vl6, by rw [List.length_append, List.length_singleton]; go_num, rfl, by simp at hPR ⊢; omega, Lib.hid (by rw [HE.out, List.append_assoc]; rfl), HL6, Lib.hid fun h => HD6.out (h f (by simp))⟩
          case measure => first | omega | (rw [List.length_cons]; omega)
    | succ q =>
      obtain ⟨f, hfi⟩ : ∃ f, D.fs[i]? = some f := ⟨_, List.getElem?_eq_getElem (by omega)⟩
      have hrg := HRG.out f (List.mem_of_getElem? hfi)
      obtain ⟨gn, on, rfl⟩ := hgn (by omega)
      have hn3 := HN3.out gn rfl
      have hgnl := HS3.out.lt gn rfl
      have hnc : w3.cell? ⟨gn, on + i, none⟩ = some (.string (segB f.num)) := (show SlF w3 9 1 strB (.slice (some ⟨gn, on, none⟩) (D.fs.map fun g => segB g.num).length cn) (D.fs.map fun g => segB g.num) from by rw [List.length_map]; exact HS3.out).cell1 strB_length i (by rw [List.getElem?_map, hfi]; rfl) rfl
      have hLB : ¬ LB p d m (.slice none 0 0) (.slice none 0 0) gn := fun e => by
        have h1 := HP2.out
        have h2 := HH.out.2.2.2.1
        have h3 := HPP.out
        rcases e with e | e | e | e | e
        · omega
        · omega
        · omega
        · simp [Value.ownBlock] at e
        · simp [Value.ownBlock] at e
      have hncr := HL.out.fr.cell hnc hLB
      have hlt : (i : Int) < (D.fs.length : Int) := by omega
      have hpos : (f.num : Int) > 0 := by omega
      have HNU := Lib.hid fun W => numbered_calls W f.num hrg.2
      have HTK : Hid (NmS size D.fs (i + 1) = { NmS size D.fs i with segs := (NmS size D.fs i).segs ++ [(f.num, 0)] }) := Lib.hid (by
        unfold NmS
        rw [List.take_add_one, hfi]
        simp)
      have hsl : (NmS size D.fs i).segs.length ≤ 10000000000 := by
        show ((D.fs.take i).map _).length ≤ _
        rw [List.length_map, List.length_take]
        omega
      obtain ⟨av, cv, rfl, _, _, _⟩ := HL.out.lg.segs.shape
      have HSL := Lib.hid hsl
      have c2 := cellAt HL.out.lg.obj 2 rfl
      have cf := HL.out.lg.free 2
      have HNO : Hid (¬ (Value.slice av (NmS size D.fs i).segs.length cv).ownBlock = some p) := Lib.hid fun e => (HL.out.lg.nes p e).2.2 rfl
      clear hnc hLB hfi hsl hn3 hgnl
      generalize segB f.num = nf at *
      go_upto_region 14 with (go_at_call 23; (with_reducible refine (HNU.out _).mono ?_); rintro e w5 ⟨rfl, hf5⟩)
      have HL5 := Lib.hid (HL.out.quiet hf5)
      have HD5 := Lib.hid (HD.out.fr0 hf5)
      have k2 := hf5.cell0 c2
      have kf := hf5.free0 c2 cf
      have hnew := cells_new w5 (segC (f.num, 0)) 54 (0, 0)
      clear c2 cf hf5 hncr
      go_upto_region 15 with (at_builtin; (refine wpList_append_f rfl _ _ 49 rfl 54 i0 _ 2 16 Tryz.underlying49 hi0 hz0 hz1 hz2 rfl (by decide) _ (NmS size D.fs i).segs rfl (HL5.out.lg.segs.alloc _) w5.heap.size 1 (f.num, 0) rfl hnew rfl (segC_one _) (by have := HSL.out; unfold maxLen; omega) (by have := HSL.out; omega) ?_; intro g7 o7 c7 w7 hs7 hg7 hb7 hlt7; have hf7 : Fr (fun k => (Value.slice av (NmS size D.fs i).segs.length cv).ownBlock = some k) w5 w7 := ((Fr.refl _ w5).alloc _).grown hg7 (fun k hk => .inl hk); have e3 := hf7.cell k2 HNO.out; have e4 := hf7.free k2 kf HNO.out; have e5 := World.block_lt_of_cell? _ _ e3))
      have hg7' : (Value.slice av (NmS size D.fs i).segs.length cv).ownBlock = some g7 ∨ w5.heap.size ≤ g7 := hb7.imp id fun e => by rw [e, alloc_size]; omega
      have hb5 : b0 ≤ w5.heap.size := by have := heap_lt HL5.out.lg.obj; have := HL5.out.lg.lo.1; omega
      obtain ⟨M1, M2⟩ := HL5.out.lg.segsTo hb5 HD5.out.lts hf7 hs7 hg7' rfl
      rw [← HTK.out] at M1
      have HL7 := Lib.hid (HL5.out.trans ⟨M1, fun k hk => by rw [own_slice k hk]; exact hg7', fun _ h => .inl h, M2.mono fun _ _ e => e.elim .inl fun e => .inr (.inr (.inr (.inl e)))⟩)
      have HD7 := Lib.hid (HD5.out.fr M2 (fun e => e.elim (fun e => HL5.out.lg.ne.1 e.symm) fun e => (HL5.out.lg.nes d e).1 rfl) (fun e => e.elim (fun e => HL5.out.lg.ne.2 e.symm) fun e => (HL5.out.lg.nes m e).2.1 rfl))
      clear hs7 hg7 hb7 hlt7 hf7 e3 e4 e5 M1 M2 hg7' k2 kf hnew
      go_wp2
      go_roundg q
      case rel => exact ⟨i + 1, _, by go_num, by omega, HD7, HL7⟩
      case measure => omega
end
end Go.Proofs.YtillejdjghlicaaGreatDoor
