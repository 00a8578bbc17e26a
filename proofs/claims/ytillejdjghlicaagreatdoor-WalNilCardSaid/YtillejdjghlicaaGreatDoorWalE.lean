/- A log in memory: Append. The conditions: the log is at rest, with room on its disk for all records; fewer than a million records. -/
import Derived.Test.YtillejdjghlicaaGreatDoorWalD
namespace Go.Proofs.YtillejdjghlicaaGreatDoor
open Go Go.Proofs Go.RowKit Go.WideElems Go.ChangeMaps Go.WideMaps
set_option maxRecDepth 100000

/-- The same with the lists' values named. -/
structure LgI (w w' : World) (b0 p d m : Nat) (L' : Lg) (vs vl vs' vl' : Value) : Prop where
  lg : LgM w' b0 p d m L' vs' vl'
  os : ∀ k, vs'.ownBlock = some k → vs.ownBlock = some k ∨ w.heap.size ≤ k
  ol : ∀ k, vl'.ownBlock = some k → vl.ownBlock = some k ∨ w.heap.size ≤ k
  fr : Fr (LB p d m vs vl) w w'
theorem LgI.to {w w' : World} {b0 p d m : Nat} {L' : Lg} {vs vl vs' vl' : Value} (h : LgI w w' b0 p d m L' vs vl vs' vl') : LgTo w w' b0 p d m L' vs vl := ⟨⟨vs', vl', h.lg, h.os, h.ol⟩, h.fr⟩
theorem LgI.refl {w : World} {b0 p d m : Nat} {L : Lg} {vs vl : Value} (h : LgM w b0 p d m L vs vl) : LgI w w b0 p d m L vs vl vs vl := ⟨h, fun _ h => .inl h, fun _ h => .inl h, Fr.refl _ _⟩
theorem LgI.ofFr {w w' : World} {b0 p d m : Nat} {L' : Lg} {vs vl vs' vl' : Value} (h : LgM w' b0 p d m L' vs' vl') (o1 : ∀ k, vs'.ownBlock = some k → vs.ownBlock = some k ∨ w.heap.size ≤ k) (o2 : ∀ k, vl'.ownBlock = some k → vl.ownBlock = some k ∨ w.heap.size ≤ k) (hf : Fr (LB p d m vs vl) w w') : LgI w w' b0 p d m L' vs vl vs' vl' := ⟨h, o1, o2, hf⟩
theorem LgI.trans {w w1 w2 : World} {b0 p d m : Nat} {L1 L2 : Lg} {vs vl vs1 vl1 vs2 vl2 : Value} (h : LgI w w1 b0 p d m L1 vs vl vs1 vl1) (k : LgI w1 w2 b0 p d m L2 vs1 vl1 vs2 vl2) : LgI w w2 b0 p d m L2 vs vl vs2 vl2 := by
  have hsz := h.fr.size
  refine ⟨k.lg, fun b hb => ?_, fun b hb => ?_, h.fr.trans k.fr fun b hb e => ?_⟩
  · exact (k.os b hb).elim (h.os b) fun e => .inr (by omega)
  · exact (k.ol b hb).elim (h.ol b) fun e => .inr (by omega)
  · rcases e with e | e | e | e | e
    · exact .inl e
    · exact .inr (.inl e)
    · exact .inr (.inr (.inl e))
    · exact (h.os b e).elim (fun e => .inr (.inr (.inr (.inl e)))) fun e => by omega
    · exact (h.ol b e).elim (fun e => .inr (.inr (.inr (.inr e)))) fun e => by omega
theorem LgI.disk {w w1 w2 : World} {b0 p d m : Nat} {L1 : Lg} {vs vl vs1 vl1 : Value} (h : LgI w w1 b0 p d m L1 vs vl vs1 vl1) (hf : Fr (DM d m) w1 w2) : LgI w w2 b0 p d m L1 vs vl vs1 vl1 :=
  h.trans ⟨h.lg.frD hf, fun _ h => .inl h, fun _ h => .inl h, hf.mono fun _ _ e => e.elim (fun e => .inr (.inl e)) fun e => .inr (.inr (.inl e))⟩
theorem LgI.quiet {w w1 w2 : World} {b0 p d m : Nat} {L1 : Lg} {vs vl vs1 vl1 : Value} (h : LgI w w1 b0 p d m L1 vs vl vs1 vl1) (hf : Fr No w1 w2) : LgI w w2 b0 p d m L1 vs vl vs1 vl1 := h.disk (hf.mono fun _ _ h => h.elim)
theorem LgI.ahead {w0 w w1 : World} {b0 p d m : Nat} {L1 : Lg} {vs vl vs1 vl1 : Value} (hf : Fr No w0 w) (h : LgI w w1 b0 p d m L1 vs vl vs1 vl1) : LgI w0 w1 b0 p d m L1 vs vl vs1 vl1 := by
  have hsz := hf.size
  exact ⟨h.lg, fun b hb => (h.os b hb).imp id fun e => by omega, fun b hb => (h.ol b hb).imp id fun e => by omega, (hf.mono fun _ _ h => h.elim).trans h.fr fun _ _ e => e⟩
theorem LgM.lb {w : World} {b0 p d m : Nat} {L : Lg} {vs vl : Value} (h : LgM w b0 p d m L vs vl) (hd : d < w.heap.size ∧ m < w.heap.size) {k : Nat} (hk : LB p d m vs vl k) : k < w.heap.size := by
  rcases hk with e | e | e | e | e
  · rw [e]; exact heap_lt h.obj
  · rw [e]; exact hd.1
  · rw [e]; exact hd.2
  · exact h.segs.lt k e
  · exact h.recs.lt k e
theorem LgM.lb0 {w : World} {b0 p d m : Nat} {L : Lg} {vs vl : Value} (h : LgM w b0 p d m L vs vl) (hbd : b0 ≤ d ∧ b0 ≤ m) {k : Nat} (hk : LB p d m vs vl k) : b0 ≤ k := by
  rcases hk with e | e | e | e | e
  · rw [e]; exact h.lo.1
  · rw [e]; exact hbd.1
  · rw [e]; exact hbd.2
  · exact h.lo.2.1 k e
  · exact h.lo.2.2 k e
theorem DkM.lts {w : World} {d m : Nat} {D : Dk} (a : DkM w d m D) : d < w.heap.size ∧ m < w.heap.size := ⟨heap_lt a.mem.obj, a.mem.map.lt⟩
theorem alloc_size (w : World) (o : Obj) : (w.alloc o).heap.size = w.heap.size + 1 := by simp
/-- Behind some records: the disk and the log that there are, what is to come. -/
structure ApI (D : Dk) (L : Lg) (bs : List (List UInt8)) (i : Nat) (Di : Dk) (Li : Lg) : Prop where
  rest : ∃ Q j, Rest sumS Di Li Q j
  puts : lgPuts RR sumS (bs.drop i) Di Li = lgPuts RR sumS bs D L
  first : Li.first = L.first
  size : Li.size = L.size
  len : Li.l.length = L.l.length + i
  room : (frms sumS (Li.l ++ bs.drop i)).length ≤ Di.lim
theorem ApI.start {D : Dk} {L : Lg} {bs : List (List UInt8)} {Q : List (Nat × List (List UInt8))} {j : Nat} (h : Rest sumS D L Q j) (hr : (frms sumS (L.l ++ bs)).length ≤ D.lim) : ApI D L bs 0 D L := ⟨⟨Q, j, h⟩, rfl, rfl, rfl, rfl, hr⟩
theorem ApI.next {D : Dk} {L : Lg} {bs : List (List UInt8)} {i : Nat} {Di : Dk} {Li : Lg} (h : ApI D L bs i Di Li) {b : List UInt8} (hb : bs[i]? = some b) (he : (lgPut RR sumS Di Li b).2.2 = 0) : ApI D L bs (i + 1) (lgPut RR sumS Di Li b).1 (lgPut RR sumS Di Li b).2.1 := by
  obtain ⟨⟨Q, j, hR⟩, h2, h3, h4, h5, h6⟩ := h
  have hl := (List.getElem?_eq_some_iff.1 hb).1
  have hd : bs.drop i = b :: bs.drop (i + 1) := by rw [List.drop_eq_getElem_cons hl, (List.getElem?_eq_some_iff.1 hb).2]
  rw [hd] at h2 h6
  have h6' : (frms sumS (Li.l ++ [b])).length ≤ Di.lim := by
    have e : frms sumS (Li.l ++ b :: bs.drop (i + 1)) = frms sumS (Li.l ++ [b]) ++ frms sumS (bs.drop (i + 1)) := by
      rw [← frms_append, List.append_assoc]
      rfl
    rw [e, List.length_append] at h6
    omega
  obtain ⟨Q', j', _, hp⟩ := hR.put RR sumS b h6'
  rcases hp with ⟨p1, p2, p3, p4, p5, p6, p7⟩ | ⟨p1, _⟩
  · have hl2 : (lgPut RR sumS Di Li b).2.1.l = Li.l ++ [b] := by rw [p2.rl, p3, ← hR.rl]
    refine ⟨⟨Q', j', p2⟩, ?_, p4.trans h3, p6.trans h4, ?_, ?_⟩
    · rw [← h2]
      conv => rhs; unfold lgPuts
      rw [if_neg (by simpa using he)]
    · rw [hl2, List.length_append, List.length_singleton, h5]
      omega
    · rw [hl2, p5, List.append_assoc]
      exact h6
  · exact absurd he p1
theorem ApI.stop {D : Dk} {L : Lg} {bs : List (List UInt8)} {i : Nat} {Di : Dk} {Li : Lg} (h : ApI D L bs i Di Li) {b : List UInt8} (hb : bs[i]? = some b) (he : (lgPut RR sumS Di Li b).2.2 ≠ 0) : lgPuts RR sumS bs D L = lgPut RR sumS Di Li b := by
  have hl := (List.getElem?_eq_some_iff.1 hb).1
  have hd : bs.drop i = b :: bs.drop (i + 1) := by rw [List.drop_eq_getElem_cons hl, (List.getElem?_eq_some_iff.1 hb).2]
  rw [← h.puts, hd]
  conv => lhs; unfold lgPuts
  rw [if_pos he]
theorem ApI.done {D : Dk} {L : Lg} {bs : List (List UInt8)} {Di : Dk} {Li : Lg} (h : ApI D L bs bs.length Di Li) : lgPuts RR sumS bs D L = (Di, Li, 0) := by
  rw [← h.puts, List.drop_length]
  rfl
section
variable {w : World} {b0 p d m : Nat} {L : Lg} {vs vl : Value}
set_option maxHeartbeats 4000000 in
theorem wappend_calls {D : Dk} {Q : List (Nat × List (List UInt8))} {j : Nat} (h : LgM w b0 p d m L vs vl) (a : DkM w d m D) (T : Tab w) (hR : Rest sumS D L Q j) (h1 : 1 ≤ L.first) (hz : L.size ≤ 1048576) (v : Value) (bs : List (List UInt8)) (hne : bs ≠ [])
    (hv : SlR w 1 strB v (bs.map toB)) (hvo : ∀ k, v.ownBlock = some k → k < w.heap.size ∧ ¬ LB p d m vs vl k) (hb : ∀ b ∈ bs, BodyOk b) (ht : L.first + L.l.length + bs.length ≤ 1000000) (hroom : (frms sumS (L.l ++ bs)).length ≤ D.lim) (h4 : 4 < b0) (hbd : b0 ≤ d ∧ b0 ≤ m) :
    Calls Tryz.prog 10 #[.pointer (some ⟨p, 0, none⟩), v] w fun e w' => e = .returned (.int .i64 (lgPuts RR sumS bs D L).2.2) ∧ DkM w' d m (lgPuts RR sumS bs D L).1 ∧ LgTo w w' b0 p d m (lgPuts RR sumS bs D L).2.1 vs vl := by
  obtain ⟨i0, hi0, hz0, hz1, hz2⟩ := info_parts infoStr
  obtain ⟨av, cv, rfl, hcv, hcm, hgv⟩ := hv.shape
  rw [List.length_map] at hcv hgv
  have hn0 := List.length_pos_iff.2 hne
  obtain ⟨gv, ov, rfl⟩ := hgv hn0
  have HV : Hid (∀ i b, bs[i]? = some b → w.cell? ⟨gv, ov + i, none⟩ = some (.string (toB b))) := Lib.hid fun i b hib => by
    have := hv.cell0 strB_length i (x := toB b) (u := .string (toB b)) (by rw [List.getElem?_map, hib]; rfl) rfl
    rwa [Nat.mul_one] at this
  have HVO := Lib.hid (hvo gv rfl)
  rw [show (bs.map toB).length = bs.length from List.length_map ..]
  have H := Lib.hid h
  have A := Lib.hid a
  have TT := Lib.hid T
  have HRR := Lib.hid hR
  have HB := Lib.hid hb
  have HH := Lib.hid (And.intro h1 (And.intro hz (And.intro ht (And.intro hroom (And.intro h4 hbd)))))
  have HFR := Lib.hid fun W b (hb' : BodyOk b) => frame_calls W b hb'
  have HNX := Lib.hid fun W (hW : Fr No w W) => wnext_calls (h.fr0 hW) (by omega)
  have HLV := Lib.hid fun W (hW : Fr No w W) => wlives_calls (h.fr0 hW) (a.fr0 hW)
  rw [hR.dead] at HLV
  have hgt1 : (0 : Int) < (bs.length : Int) := by omega
  have hgt2 : ¬ ((L.first : Int) + (L.l.length : Int) > 10000000000 - (bs.length : Int)) := by omega
  have hcast : ((L.first + L.l.length : Nat) : Int) = (L.first : Int) + (L.l.length : Int) := by omega
  rw [hcast] at HNX
  have hwr1 : IntKind.i64.wrap (10000000000 - (bs.length : Int)) = 10000000000 - (bs.length : Int) := by rw [IntKind.wrap_i64]; omega
  have HNE : Hid (bs ≠ []) := Lib.hid hne
  clear h a T hR h1 hz hv hvo hb hroom h4 hbd hcast hgv hne
  obtain ⟨x, hx⟩ : ∃ x, L.first = x := ⟨_, rfl⟩
  obtain ⟨y, hy⟩ : ∃ y, L.l.length = y := ⟨_, rfl⟩
  rw [hx, hy] at HNX hgt2
  clear hx hy
  go_enter Tryz.func10, Tryz.ntmps10
  go_upto_region 5 with fail
  go_loopg [5, 19] bs.length (fun g s5 s19 wr => ∃ i : Nat, s19 = .int .i64 i ∧ i + g = bs.length ∧ Hid (SlF wr 9 1 strB s5 ((bs.take i).map fun b => toB (frmB sumS b))) ∧ Hid (∀ k, s5.ownBlock = some k → w.heap.size ≤ k) ∧ Hid (Fr No w wr))
  case atStart => exact ⟨0, rfl, by omega, Lib.hid (SlF.nil _ _ _ _), Lib.hid (by intro k hk; simp [Value.ownBlock] at hk), Lib.hid (Fr.refl _ _)⟩
  case round =>
    obtain ⟨i, rfl, hig, HO, HN, HF⟩ := hrel
    cases gk with
    | zero =>
      have hin : i = bs.length := by omega
      subst hin
      rw [List.take_length] at HO
      obtain ⟨af, cf, rfl, hcf, hcm2, hgf⟩ := HO.out.shape
      rw [List.length_map] at hcf hgf HO
      obtain ⟨gf, of, rfl⟩ := hgf hn0
      have hltn : ¬ ((bs.length : Int) < (bs.length : Int)) := by omega
      have hgfw := HN.out gf rfl
      have hgfl := HO.out.lt gf rfl
      go_upto_region 18 with (first
        | (go_at_call 15; (with_reducible refine (HNX.out _ HF.out).mono ?_); rintro e w1 ⟨rfl, hf1⟩)
        | (go_at_call 26; (with_reducible refine (HLV.out _ (HF.out.trans0 hf1)).mono ?_); rintro e w2 ⟨rfl, hf2⟩))
      have hfw2 := (HF.out.trans0 hf1).trans0 hf2
      have HW2 := Lib.hid hfw2
      have HO2 := Lib.hid (HO.out.fr0 (hf1.trans0 hf2))
      have HGF : Hid (¬ LB p d m vs vl gf) := Lib.hid fun e => by have := H.out.lb A.out.lts e; omega
      have HGB : Hid (gf < w2.heap.size ∧ gv < w2.heap.size) := Lib.hid ⟨by have := (hf1.trans0 hf2).size; omega, by have := HVO.out.1; have := hfw2.size; omega⟩
      clear hf1 hf2 hfw2 hgf hgfw
      go_loopg [54] bs.length (fun g s54 wx => ∃ (i : Nat) (Di : Dk) (Li : Lg) (vsi vli : Value), s54 = .int .i64 i ∧ i + g = bs.length ∧ Hid (ApI D L bs i Di Li) ∧ Hid (DkM wx d m Di) ∧ Hid (LgI w2 wx b0 p d m Li vs vl vsi vli))
      case atStart => exact ⟨0, D, L, vs, vl, rfl, by omega, Lib.hid (ApI.start HRR.out HH.out.2.2.2.1), Lib.hid (A.out.fr0 HW2.out), Lib.hid (LgI.refl (H.out.fr0 HW2.out))⟩
      case round =>
        obtain ⟨i, Di, Li, vsi, vli, rfl, hig2, HI, HD, HL⟩ := hrel
        cases gk with
        | zero =>
          have hin : i = bs.length := by omega
          subst hin
          have HE := Lib.hid (ApI.done HI.out)
          go_wp2
          go_ret
          exact ⟨by rw [HE.out]; rfl, by rw [HE.out]; exact HD.out, by rw [HE.out]; exact (LgI.ahead HW2.out HL.out).to⟩
        | succ q =>
          obtain ⟨b, hbi⟩ : ∃ b, bs[i]? = some b := ⟨_, List.getElem?_eq_getElem (by omega)⟩
          have HBO : Hid (BodyOk b) := Lib.hid (HB.out b (List.mem_of_getElem? hbi))
          have hvc : w2.cell? ⟨gv, ov + i, none⟩ = some (.string (toB b)) := HW2.out.cell0 (HV.out i b hbi)
          have hfc : w2.cell? ⟨gf, of + i, none⟩ = some (.string (toB (frmB sumS b))) := (show SlF w2 9 1 strB (.slice (some ⟨gf, of, none⟩) (bs.map fun b => toB (frmB sumS b)).length cf) (bs.map fun b => toB (frmB sumS b)) from by rw [List.length_map]; exact HO2.out).cell1 strB_length i (by rw [List.getElem?_map, hbi]; rfl) rfl
          have hvx := HL.out.fr.cell hvc HVO.out.2
          have hfx := HL.out.fr.cell hfc HGF.out
          have hlt : (i : Int) < (bs.length : Int) := by omega
          have HBI := Lib.hid hbi
          obtain ⟨QI, jI, hRI⟩ := HI.out.rest
          have okI : LgOk Li := hRI.ok (by have := HD.out.sz; have := HD.out.lim; omega) (by rw [HI.out.first]; exact HH.out.1) (by rw [HI.out.first, HI.out.len]; have := HH.out.2.2.1; omega) (by rw [HI.out.size]; exact HH.out.2.1)
          have TI : Tab wr := (TT.out.fr0 HW2.out).fr HL.out.fr fun e => by have := H.out.lb0 HH.out.2.2.2.2.2 e; have := HH.out.2.2.2.2.1; omega
          have HRM := Lib.hid (wroom_calls HL.out.lg HD.out TI okI HH.out.2.2.2.2.1 HH.out.2.2.2.2.2)
          obtain ⟨⟨E1, E2, er⟩, hE⟩ : ∃ E, lgRoom RR Di Li = E := ⟨_, rfl⟩
          rw [hE] at HRM
          dsimp only at HRM
          have HE := Lib.hid hE
          obtain ⟨Y, hY⟩ : ∃ Y, toB (frmB sumS b) = Y := ⟨_, rfl⟩
          rw [hY] at hfx
          have HY := Lib.hid hY
          clear hvc hfc hbi hE hY
          by_cases her : er = 0
          · subst her
            obtain ⟨T', s, l1, l2, l3, l4, l5, l6⟩ := lgRoom_last (D := Di) (L := Li) (by rw [HE.out])
            rw [HE.out] at l1 l4 l5 l6
            dsimp only at l1 l4 l5 l6
            have hs1 : 1 ≤ s.1 ∧ s.1 < 10000000000 ∧ s.2 ≤ 1099511627776 := by
              rcases l2 with l2 | l2
              · exact okI.segs s l2
              · have h1 := okI.top
                have h2 := HI.out.first
                have h3 := HH.out.1
                rw [l2]
                dsimp only
                omega
            have hT1 : T'.length ≤ 1000000 := by have := okI.len; omega
            have TW := Lib.hid TI
            clear okI TI hRI l2 l3
            go_upto_region 23 with (go_at_call 27; (with_reducible refine HRM.out.mono ?_); rintro e w3 ⟨rfl, a3, lt3⟩)
            obtain ⟨⟨vs3, vl3, H3, o3s, o3l⟩, f3⟩ := lt3
            have HL3 := Lib.hid (HL.out.trans ⟨H3, o3s, o3l, f3⟩)
            have T3 : Tab w3 := TW.out.fr f3 fun e => by have := HL.out.lg.lb0 HH.out.2.2.2.2.2 e; have := HH.out.2.2.2.2.1; omega
            have hvx3 := HL3.out.fr.cell (HW2.out.cell0 (HV.out i b HBI.out)) HVO.out.2
            have hlen3 : E2.segs.length = T'.length + 1 := by rw [l1, List.length_append, List.length_singleton]
            obtain ⟨ad3, c3, rfl, _, _, h3g⟩ := H3.segs.shape
            obtain ⟨g3, o3, rfl⟩ := h3g (by omega)
            have H3' := H3
            rw [hlen3] at H3'
            obtain ⟨q0, q1⟩ := SlF.cells2 segC_length H3.segs T'.length (x := s) (by rw [l1]; simp) rfl
            have c30 : w3.cell? ⟨p, 0, none⟩ = some (.pointer (some ⟨d, 0, none⟩)) := cellAt H3.obj 0 rfl
            have HLS3 := Lib.hid fun W (hW : Fr No w3 W) => wlast_some (H3'.fr0 hW) l1 (by omega)
            have HNM3 := Lib.hid fun W (hW : Fr No w3 W) => name_calls (T3.fr0 hW) s.1 hs1.2.1 (s.2 : Int)
            have hYl := frmB_length sumS b
            have HAP3 := Lib.hid fun W (hW : Fr No w3 W) => (a3.fr0 hW).append s.1 ⟨hs1.1, hs1.2.1⟩ (frmB sumS b) (by have := HBO.out.2; omega)
            rw [HY.out] at HAP3
            obtain ⟨⟨A1, A2⟩, hA⟩ : ∃ A, E1.append RR s.1 (frmB sumS b) = A := ⟨_, rfl⟩
            rw [hA] at HAP3
            dsimp only at HAP3
            have HPUT := Lib.hid (lgPut_app HE.out l1 hA)
            have HNE3 : Hid (p ≠ d ∧ p ≠ m ∧ g3 ≠ d ∧ g3 ≠ m ∧ g3 ≠ p) := Lib.hid ⟨H3.ne.1, H3.ne.2, (H3.nes g3 rfl).1, (H3.nes g3 rfl).2.1, (H3.nes g3 rfl).2.2⟩
            have HL1 := Lib.hid l1
            have HL4 := Lib.hid l4
            clear a3 H3 H3' T3 o3s o3l f3 hA l1 l4 l5 l6 h3g
            obtain ⟨s1, s2⟩ := s
            dsimp only at *
            have q0' : w3.drew.cell? ⟨g3, o3 + T'.length * 2, none⟩ = some (.int .i64 s1) := q0
            have q1' : w3.drew.cell? ⟨g3, o3 + T'.length * 2 + 1, none⟩ = some (.int .i64 s2) := q1
            have c30' : w3.drew.cell? ⟨p, 0, none⟩ = some (.pointer (some ⟨d, 0, none⟩)) := c30
            go_region_held3 (fun W => W.cell? ⟨p, 0, none⟩ = some (.pointer (some ⟨d, 0, none⟩)) ∧ W.cell? ⟨g3, o3 + T'.length * 2, none⟩ = some (.int .i64 s1) ∧ W.cell? ⟨g3, o3 + T'.length * 2 + 1, none⟩ = some (.int .i64 s2))
              (first | exact ⟨c30, q0, q1⟩ | exact ⟨c30', q0', q1'⟩ | exact ⟨r0, r1, r2⟩ | exact ⟨t0, t1, t2⟩ | exact ⟨z0, z1, z2⟩)
              (first
                | (go_at_call 29; (with_reducible refine (HLS3.out _ (Fr.refl No w3).drew).mono ?_); rintro e w4 ⟨rfl, hf4⟩; have hf34 := (Fr.refl No w3).drew.trans0 hf4; have r0 := hf34.cell0 c30; have r1 := hf34.cell0 q0; have r2 := hf34.cell0 q1)
                | (go_at_call 30; (with_reducible refine (HNM3.out _ hf34).mono ?_); rintro e w5 ⟨rfl, hf5⟩; have hf35 := hf34.trans0 hf5; have t0 := hf5.cell0 r0; have t1 := hf5.cell0 r1; have t2 := hf5.cell0 r2)
                | (go_at_call 28; (with_reducible refine (HAP3.out _ hf35).mono ?_); rintro e w6 ⟨rfl, a6, hf6⟩; have z0 := hf6.cell t0 (fun e => e.elim HNE3.out.1 HNE3.out.2.1); have z1 := hf6.cell t1 (fun e => e.elim HNE3.out.2.2.1 HNE3.out.2.2.2.1); have z2 := hf6.cell t2 (fun e => e.elim HNE3.out.2.2.1 HNE3.out.2.2.2.1)))
            have hf36 : Fr (DM d m) w3 w6 := (hf35.mono fun _ _ h => h.elim).trans hf6 fun _ _ h => h
            have HA6 := Lib.hid a6
            have HL6 := Lib.hid (HL3.out.disk hf36)
            have hvx6 := hf36.cell hvx3 fun e => HVO.out.2 (e.elim (fun e => .inr (.inl e)) fun e => .inr (.inr (.inl e)))
            clear r0 r1 r2 t0 t1 t2 z0 z1 q0 q1 c30 q0' q1' c30' hf34 hf4 hf5 hf35 hf6 hf36 a6 hvx3
            by_cases hA2 : A2 = 0
            · subst hA2
              have hlen6 : E2.segs.length = T'.length + 1 := by rw [HL1.out, List.length_append, List.length_singleton]
              have H6' := HL6.out.lg
              rw [hlen6] at H6'
              have HLS6 := Lib.hid (wlast_some H6' HL1.out (by omega))
              obtain ⟨q0, q1⟩ := SlF.cells2 segC_length HL6.out.lg.segs T'.length (x := (s1, s2)) (by rw [HL1.out]; simp) rfl
              have qf : w6.frozen? ⟨g3, o3 + T'.length * 2 + 1, none⟩ = false := HL6.out.lg.segs.free _
              have hYz : Y.size = (frmB sumS b).length := by rw [← HY.out, toB_size]
              have hflb : (frmB sumS b).length ≤ 70000 := by have := HBO.out.2; omega
              have HPU := HPUT.out
              rw [if_neg (by simp)] at HPU
              obtain ⟨fl, hfl⟩ : ∃ fl, (frmB sumS b).length = fl := ⟨_, rfl⟩
              rw [hfl] at hYz hflb HPU
              have HPUT2 := Lib.hid HPU
              have hwr : IntKind.i64.wrap ((s2 : Int) + (fl : Int)) = (s2 : Int) + fl := by rw [IntKind.wrap_i64]; have := hs1.2.2; omega
              clear H6' hlen6 hfl HPU hYl z2
              go_upto_region 27 with (go_at_call 29; (with_reducible refine HLS6.out.mono ?_); rintro e w7 ⟨rfl, hf7⟩; have y1 := hf7.cell0 q1; have yf := hf7.free0 q1 qf; have yl := World.block_lt_of_cell? _ _ y1)
              have H8 : LgM (w7.setCell ⟨g3, o3 + T'.length * 2 + 1, none⟩ (.int .i64 ((s2 : Int) + (fl : Int)))) b0 p d m { E2 with segs := T' ++ [(s1, s2 + fl)] } (.slice (some ⟨g3, o3, none⟩) E2.segs.length c3) vl3 := by
                have := (HL6.out.lg.fr0 hf7).setSeg HL1.out (s2 + fl)
                rwa [show ((s2 + fl : Nat) : Int) = (s2 : Int) + (fl : Int) by omega] at this
              have hf8 : Fr (fun k => k = g3) w6 (w7.setCell ⟨g3, o3 + T'.length * 2 + 1, none⟩ (.int .i64 ((s2 : Int) + (fl : Int)))) := (hf7.mono (T := fun k => k = g3) fun _ _ h => h.elim).setCell (p := ⟨g3, o3 + T'.length * 2 + 1, none⟩) (.inl rfl) _
              have HL8 := Lib.hid (HL6.out.trans ⟨H8, fun _ h => .inl h, fun _ h => .inl h, hf8.mono fun k _ e => .inr (.inr (.inr (.inl (by rw [e]; rfl))))⟩)
              have HA8 := Lib.hid (HA6.out.fr hf8 (fun e => HNE3.out.2.2.1 e.symm) (fun e => HNE3.out.2.2.2.1 e.symm))
              have hvx8 := HL8.out.fr.cell (HW2.out.cell0 (HV.out i b HBI.out)) HVO.out.2
              generalize w7.setCell ⟨g3, o3 + T'.length * 2 + 1, none⟩ (.int .i64 ((s2 : Int) + (fl : Int))) = w8 at *
              clear q0 q1 qf y1 yf yl hf7 hf8 H8 hvx6
              obtain ⟨a4, c4, rfl, hc4, _, h4g⟩ := HL8.out.lg.recs.shape
              rw [List.length_map] at hc4 h4g
              have HL9 : Hid (LgI w2 w8 b0 p d m { E2 with segs := T' ++ [(s1, s2 + fl)] } vs vl (.slice (some ⟨g3, o3, none⟩) E2.segs.length c3) (.slice a4 E2.l.length c4)) := Lib.hid (by have := HL8.out; simp only [List.length_map] at this; exact this)
              have HSL8 : Hid (SlF w8 9 1 strB (.slice a4 E2.l.length c4) (E2.l.map toB)) := Lib.hid (by have := HL8.out.lg.recs; rwa [List.length_map] at this)
              have hE2l : E2.l.length ≤ 1000000 := by rw [HL4.out, HI.out.len]; have := HH.out.2.2.1; omega
              have HE2L : Hid ((E2.l.map toB).length ≤ 1000000) := Lib.hid (by rw [List.length_map]; exact hE2l)
              have k4 : w8.cell? ⟨p, 4, none⟩ = some (.slice a4 E2.l.length c4) := by rw [show E2.l.length = (E2.l.map toB).length from (List.length_map ..).symm]; exact cellAt HL8.out.lg.obj 4 rfl
              have k4' : w8.drew.cell? ⟨p, 4, none⟩ = some (.slice a4 E2.l.length c4) := k4
              have kf : w8.frozen? ⟨p, 4, none⟩ = false := HL8.out.lg.free 4
              have kfd : w8.drew.frozen? ⟨p, 4, none⟩ = false := kf
              have kl := World.block_lt_of_cell? _ _ k4
              have hvx8' : w8.drew.cell? ⟨gv, ov + i, none⟩ = some (.string (toB b)) := hvx8
              have HNO : Hid (¬ (Value.slice a4 E2.l.length c4).ownBlock = some p ∧ ¬ (Value.slice a4 E2.l.length c4).ownBlock = some gv ∧ gv ≠ p) := Lib.hid ⟨fun e => (HL9.out.lg.nel p e).2.2 rfl, fun e => (HL9.out.ol gv e).elim (fun e => HVO.out.2 (.inr (.inr (.inr (.inr e))))) (fun e => by have := HGB.out.2; omega), fun e => HVO.out.2 (.inl e)⟩
              obtain ⟨Bb, hBb⟩ : ∃ Bb, toB b = Bb := ⟨_, rfl⟩
              rw [hBb] at hvx8 hvx8'
              have HBb := Lib.hid hBb
              have hnew := cells_new w8.drew (strB Bb) 9 (0, 0)
              have k4a := (fun o => ((Fr.refl No w8).drew.alloc o).cell0 k4)
              have hil : (i : Int) < (bs.length : Int) := by omega
              have hi0' : (0 : Int) ≤ (i : Int) := by omega
              clear hBb hE2l h4g hc4
              go_region_held3 (fun W => W.cell? ⟨gv, ov + i, none⟩ = some (.string Bb))
                (first | exact hvx8 | exact hvx8' | exact ((Fr.refl No w8).drew.alloc _).cell0 hvx8 | exact e10 | exact e11 _)
                (first
                  | (refine step_append_f rfl _ _ 22 rfl 9 i0 _ 1 16 Tryz.underlying22 hi0 hz0 hz1 hz2 rfl (by decide) _ (E2.l.map toB) rfl (HSL8.out.fr0 ((Fr.refl No w8).drew.alloc _)) w8.heap.size 1 Bb rfl hnew rfl (strB_one Bb) (by have := HE2L.out; unfold maxLen; omega) (by have := HE2L.out; omega) ?_; intro g9 o9 c9 w9 hs9 hg9 hb9 hlt9; have hf9 : Fr (fun k => (Value.slice a4 E2.l.length c4).ownBlock = some k) w8 w9 := ((Fr.refl _ w8).drew.alloc _).grown hg9 (fun k hk => .inl hk); have e3 := hf9.cell k4 HNO.out.1; have e4 := hf9.free k4 kf HNO.out.1; have e5 := World.block_lt_of_cell? _ _ e3; have e10 := hf9.cell hvx8 HNO.out.2.1; have e11 := (fun u => ((Fr.refl (fun b => b = p) w9).setCell (p := ⟨p, 4, none⟩) (.inl rfl) u).cell e10 HNO.out.2.2)))
              all_goals
                have hg9' : ∀ k, (Value.slice (some ⟨g9, o9, none⟩) (E2.l.length + 1) c9).ownBlock = some k → (Value.slice a4 E2.l.length c4).ownBlock = some k ∨ w8.heap.size ≤ k := fun k hk => by
                  rw [own_slice k hk]
                  refine hb9.imp id fun e => ?_
                  have h2 : g9 = (w8.alloc (.cells #[.string Bb] 9)).heap.size := e
                  rw [alloc_size] at h2
                  omega
                rw [List.length_map, ← HBb.out, show E2.l.map toB ++ [toB b] = (E2.l ++ [b]).map toB by rw [List.map_append]; rfl] at hs9
                have hb8 : b0 ≤ w8.heap.size := by have := heap_lt HL9.out.lg.obj; have := HL9.out.lg.lo.1; omega
                obtain ⟨M1, M2⟩ := HL9.out.lg.recsTo hb8 HA8.out.lts hf9 hs9 hg9' rfl
                have HL10 := Lib.hid (HL9.out.trans ⟨M1, fun _ h => .inl h, hg9', M2.mono fun k _ e => e.elim .inl fun e => .inr (.inr (.inr (.inr e)))⟩)
                have HA10 := Lib.hid (HA8.out.fr M2 (fun e => e.elim (fun e => HNE3.out.1 e.symm) fun e => (HL9.out.lg.nel d e).1 rfl) (fun e => e.elim (fun e => HNE3.out.2.1 e.symm) fun e => (HL9.out.lg.nel m e).2.1 rfl))
                have HNXT := Lib.hid (ApI.next HI.out HBI.out (by rw [HPUT2.out]))
                rw [HPUT2.out] at HNXT
                clear hs9 hg9 hb9 hlt9 hf9 e3 e4 e5 e10 e11 M1 M2 hg9' k4 k4' kf kfd kl k4a hnew hvx8 hvx8'
                go_wp2
                go_roundg q
                case rel => exact ⟨i + 1, A1, _, _, _, by go_num, by omega, HNXT, HA10, HL10⟩
                case measure => omega
            · have hA21 : (A2 == 0) = false := by simpa using hA2
              have hA22 : (A2 != 0) = true := by simpa using hA2
              have HX : Hid (lgPuts RR sumS bs D L = (A1, E2, A2)) := Lib.hid (by
                have h1 := HPUT.out
                rw [if_pos hA2] at h1
                rw [HI.out.stop HBI.out (by rw [h1]; exact hA2), h1])
              clear z2 hvx6
              go_wp2
              go_ret
              exact ⟨by rw [HX.out]; rfl, by rw [HX.out]; exact HA6.out, by rw [HX.out]; exact (LgI.ahead HW2.out HL6.out).to⟩
          · have her1 : (er == 0) = false := by simpa using her
            have her2 : (er != 0) = true := by simpa using her
            have HX : Hid (lgPuts RR sumS bs D L = (E1, E2, er)) := Lib.hid (by
              have h1 : lgPut RR sumS Di Li b = (E1, E2, er) := lgPut_room HE.out her
              rw [HI.out.stop HBI.out (by rw [h1]; exact her), h1])
            clear okI TI hRI hvx
            go_wp2_with (go_at_call 27; (with_reducible refine HRM.out.mono ?_); rintro e w3 ⟨rfl, a3, lt3⟩)
            go_ret
            obtain ⟨⟨vs3, vl3, H3, o3s, o3l⟩, f3⟩ := lt3
            exact ⟨by rw [HX.out]; rfl, by rw [HX.out]; exact a3, by rw [HX.out]; exact (LgI.ahead HW2.out (HL.out.trans ⟨H3, o3s, o3l, f3⟩)).to⟩
    | succ q =>
      obtain ⟨b, hbi⟩ : ∃ b, bs[i]? = some b := ⟨_, List.getElem?_eq_getElem (by omega)⟩
      have HBO : Hid (BodyOk b) := Lib.hid (HB.out b (List.mem_of_getElem? hbi))
      have hcell := HF.out.cell0 (HV.out i b hbi)
      have HTK : Hid ((bs.take (i + 1)).map (fun b => toB (frmB sumS b)) = (bs.take i).map (fun b => toB (frmB sumS b)) ++ [toB (frmB sumS b)]) := Lib.hid (by rw [List.take_add_one, hbi, List.map_append]; rfl)
      have hlt : (i : Int) < (bs.length : Int) := by omega
      have HOL : Hid (((bs.take i).map fun b => toB (frmB sumS b)).length ≤ 1000000) := Lib.hid (by rw [List.length_map, List.length_take]; omega)
      obtain ⟨Y, hY⟩ : ∃ Y, toB (frmB sumS b) = Y := ⟨_, rfl⟩
      have HFB := Lib.hid fun W => HFR.out W b HBO.out
      rw [hY] at HTK HFB
      clear hY
      generalize ((bs.take i).map fun b => toB (frmB sumS b)) = O at *
      generalize toB b = Bb at *
      clear hbi
      go_upto_region 10 with (go_at_call 25; (with_reducible refine (HFB.out _).mono ?_); rintro e w2 ⟨rfl, hf2⟩)
      have HO2 := Lib.hid (HO.out.fr0 hf2)
      have HF2 := Lib.hid (HF.out.trans0 hf2)
      have hnew := cells_new w2 (strB Y) 9 (0, 0)
      clear hf2 hcell
      go_wp2_with (at_builtin; refine wpList_app rfl _ _ 22 rfl 9 i0 _ 1 16 Tryz.underlying22 hi0 hz0 hz1 hz2 rfl (by decide) _ O rfl (HO2.out.alloc _) w No (fun k hk => .inr (HN.out k hk)) (HF2.out.alloc _) w2.heap.size 1 Y rfl hnew rfl (strB_one Y) (by have := HOL.out; unfold maxLen; omega) (by have := HOL.out; omega) ?_; intro g1 o1 cap1 w3 hs3 hb3 hf3 hf3' hlt3)
      have hg1 : w.heap.size ≤ g1 := hb3.elim (fun h => HN.out g1 h) fun h => by
        have h2 := HF2.out.size
        rw [alloc_size] at h
        omega
      rw [← HTK.out] at hs3
      have HS3 := Lib.hid hs3
      have HF3 := Lib.hid hf3
      clear hs3 hb3 hf3 hf3' hlt3 hnew
      go_roundg q
      case rel => exact ⟨i + 1, by go_num, by omega, Lib.hid HS3.out, Lib.hid (by intro k hk; rw [own_slice k hk]; exact hg1), HF3⟩
      case measure => omega
end
end Go.Proofs.YtillejdjghlicaaGreatDoor
