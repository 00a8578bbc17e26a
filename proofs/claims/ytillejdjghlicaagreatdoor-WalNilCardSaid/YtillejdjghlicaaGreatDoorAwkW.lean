/- The chapter's example in memory: awake answers true. The condition: the table of Go's library is there. -/
import Derived.Test.YtillejdjghlicaaGreatDoorAwkK
namespace Go.Proofs.YtillejdjghlicaaGreatDoor
open Go Go.Proofs Go.RowKit Go.WideElems Go.ChangeMaps Go.WideMaps
set_option maxRecDepth 100000

theorem map_seg (l : List Fi) : (l.map fun g => segB g.num) = (l.map (·.num)).map segB := by rw [List.map_map]; rfl
set_option maxHeartbeats 4000000 in
theorem awake_calls (w : World) (T : Tab w) : Calls Tryz.prog 7 #[] w fun e w' => e = .returned (.bool true) ∧ Fr No w w' := by
  obtain ⟨p1, p2, p3, p4, p5, p6, p7⟩ := aw_puts
  obtain ⟨c1, c2⟩ := aw_cut
  obtain ⟨QX, jX, _, r2, _⟩ := Rest.puts RR sumS awB aw_rest0 rfl aw_room
  have hx3 := (r2.cut RR sumS p7 (n := 3) (by rw [p3]; decide) (by rw [p3, p4]; decide))
  obtain ⟨_, _, x3, _⟩ := hx3
  have hb4 := T.lt
  have HNEW := Lib.hid (show Calls Tryz.prog 8 #[.int .i64 1000] w _ from DkM.new w 1000 (by decide) (by decide))
  have HOP := Lib.hid fun W (hW : Fr No w W) (d m : Nat) (a : DkM W d m awD) (hd : w.heap.size ≤ d ∧ w.heap.size ≤ m) => show Calls Tryz.prog 9 #[.pointer (some ⟨d, 0, none⟩), .int .i64 20] W _ from wopen_calls a (T.fr0 hW) rfl rfl 20 (by decide) trivial w.heap.size hW.size hb4 hd
  have HAP := Lib.hid fun W p d m vs vl v (h : LgM W w.heap.size p d m awL vs vl) (a : DkM W d m awD) (hT : Tab W) (hv : SlR W 1 strB v (awB.map toB)) (hvo : ∀ k, v.ownBlock = some k → k < W.heap.size ∧ ¬ LB p d m vs vl k) (hd : w.heap.size ≤ d ∧ w.heap.size ≤ m) => wappend_calls h a hT aw_rest0 (by decide) (by decide) v awB (by decide) hv hvo aw_body (by decide) aw_room hb4 hd
  have HCU := Lib.hid fun W p d m vs vl (h : LgM W w.heap.size p d m (lgPuts RR sumS awB awD awL).2.1 vs vl) (a : DkM W d m (lgPuts RR sumS awB awD awL).1) (hT : Tab W) (hd : w.heap.size ≤ d ∧ w.heap.size ≤ m) => show Calls Tryz.prog 11 #[.pointer (some ⟨p, 0, none⟩), .int .i64 3] W _ from wcut_calls h a hT r2 p7 (by rw [p3]; decide) (by rw [p5]; decide) (by rw [p3, p4]; decide) 3 (by rw [p3]; decide) (by rw [p3, p4]; decide) hb4 hd
  rw [p1] at HAP
  have HS := Lib.hid aw_seg
  have HT := Lib.hid T
  have HB4 := Lib.hid hb4
  have HL0 : Hid (LdS 20 awD.fs [] = awL) := Lib.hid rfl
  generalize lgPuts RR sumS awB awD awL = X at *
  obtain ⟨X1, X2, X3⟩ := X
  dsimp only at *
  generalize lgCut RR X1 X2 3 = Y at *
  obtain ⟨Y1, Y2, Y3⟩ := Y
  dsimp only at *
  have HN1 : Hid ((X1.fs.map fun g => segB g.num) = [⟨#[119, 97, 108, 45, 48, 48, 48, 48, 48, 48, 48, 48, 48, 49]⟩, ⟨#[119, 97, 108, 45, 48, 48, 48, 48, 48, 48, 48, 48, 48, 51]⟩]) := Lib.hid (by rw [map_seg, p2, List.map_cons, List.map_cons, aw_seg.1, aw_seg.2]; rfl)
  have HN2 : Hid ((Y1.fs.map fun g => segB g.num) = [⟨#[119, 97, 108, 45, 48, 48, 48, 48, 48, 48, 48, 48, 48, 49]⟩]) := Lib.hid (by rw [map_seg, c1, List.map_cons, aw_seg.1]; rfl)
  have HDD := Lib.hid (And.intro p6 c2)
  clear r2 p1 p2 p3 p4 p5 p6 p7 c1 c2 x3 T hb4
  go_enter Tryz.func7, Tryz.ntmps7
  go_upto_region 5 with (first
    | (go_at_call 8; (with_reducible refine HNEW.out.mono ?_); rintro e w1 ⟨d, m, rfl, a1, hf1, hd1, hm1⟩; replace a1 : DkM w1 d m awD := a1)
    | (go_at_call 9; (with_reducible refine (HOP.out _ hf1 d m a1 ⟨hd1, hm1⟩).mono ?_); rintro e w2 ⟨p, rfl, ⟨vs, vl, h2⟩, hp2, hf2, ha2⟩))
  have hdm := a1.lts
  have A2 := Lib.hid (ha2 fun f hf => by cases hf)
  rw [HL0.out] at h2
  have hf12 := hf1.mono (T := DM d m) fun _ _ h => h.elim
  have HF2 := Lib.hid (hf12.trans hf2 fun _ _ h => h)
  have H2 := Lib.hid h2
  have HDM := Lib.hid (And.intro hd1 hm1)
  have F2 := Lib.hid (HF2.out.mono (T := No) fun k hk e => by have := HDM.out; rcases e with e | e <;> omega)
  have T2 := Lib.hid (HT.out.fr HF2.out fun e => by rcases e with e | e <;> (have := HB4.out; omega))
  clear h2 hf12 hf2 ha2 hf1 a1 hdm hd1 hm1
  have hsl : SlR (w2.alloc (.cells #[.string ⟨#[97, 97, 97, 97]⟩, .string ⟨#[98, 98, 98, 98]⟩, .string ⟨#[99, 99, 99, 99]⟩] 9)) 1 strB (.slice (some ⟨w2.heap.size, 0, none⟩) 3 3) (awB.map toB) := by
    refine ⟨some ⟨w2.heap.size, 0, none⟩, 3, rfl, by decide, by decide, fun _ => ⟨w2.heap.size, 0, rfl, fun i x hx j u hu => ?_⟩⟩
    have hb := alloc_at w2 (.cells #[.string ⟨#[97, 97, 97, 97]⟩, .string ⟨#[98, 98, 98, 98]⟩, .string ⟨#[99, 99, 99, 99]⟩] 9) _ rfl
    match i, hx, j, hu with
    | 0, hx, 0, hu => cases hx; cases hu; exact cellAt hb 0 rfl
    | 1, hx, 0, hu => cases hx; cases hu; exact cellAt hb 1 rfl
    | 2, hx, 0, hu => cases hx; cases hu; exact cellAt hb 2 rfl
    | n + 3, hx, _, _ => cases hx
  have hfa : Fr No w2 (w2.alloc (.cells #[.string ⟨#[97, 97, 97, 97]⟩, .string ⟨#[98, 98, 98, 98]⟩, .string ⟨#[99, 99, 99, 99]⟩] 9)) := (Fr.refl No w2).alloc _
  have HAPP := Lib.hid (HAP.out _ p d m vs vl _ (H2.out.fr0 hfa) (A2.out.fr0 hfa) (T2.out.fr0 hfa) hsl (fun k hk => by
    rw [own_slice k hk, alloc_size]
    exact ⟨by omega, fun e => by have := H2.out.lb A2.out.lts e; omega⟩) HDM.out)
  have HFA := Lib.hid hfa
  clear hsl hfa
  go_upto_region 6 with (go_at_call 10; (with_reducible refine HAPP.out.mono ?_); rintro e w3 ⟨rfl, a3, ⟨⟨vs3, vl3, h3, o3s, o3l⟩, hf3⟩⟩)
  have A3 := Lib.hid a3
  have H3 := Lib.hid h3
  have T3 := Lib.hid ((T2.out.fr0 HFA.out).fr hf3 fun e => by have := H2.out.lb0 HDM.out e; have := HB4.out; omega)
  have F3 := Lib.hid ((F2.out.trans0 HFA.out).trans hf3 fun j hj e => by have := H2.out.lb0 HDM.out e; omega)
  clear a3 h3 o3s o3l hf3
  have HNA := Lib.hid (A3.out.names HDD.out.1)
  rw [HN1.out] at HNA
  go_upto_region 7 with (go_at_call 13; (with_reducible refine HNA.out.mono ?_); rintro e w4 ⟨v4, rfl, hs4, hf4, hn4⟩; obtain ⟨a4, c4, rfl, _, _, hg4⟩ := hs4.shape; obtain ⟨g4, o4, rfl⟩ := hg4 (by decide))
  have HCC := Lib.hid (HCU.out _ p d m _ _ (H3.out.fr0 hf4) (A3.out.fr0 hf4) (T3.out.fr0 hf4) HDM.out)
  have hx0 : w4.cell? ⟨g4, o4, none⟩ = some (.string ⟨#[119, 97, 108, 45, 48, 48, 48, 48, 48, 48, 48, 48, 48, 49]⟩) := hs4.cell1 strB_length 0 rfl rfl
  have hx1 : w4.cell? ⟨g4, o4 + 1, none⟩ = some (.string ⟨#[119, 97, 108, 45, 48, 48, 48, 48, 48, 48, 48, 48, 48, 51]⟩) := hs4.cell1 strB_length 1 rfl rfl
  have HX := Lib.hid (And.intro hx0 hx1)
  have HG4 : Hid (¬ LB p d m vs3 vl3 g4) := Lib.hid fun e => by
    have h1 := H3.out.lb A3.out.lts e
    have h2 := hn4 g4 rfl
    omega
  have H4 := Lib.hid (H3.out.fr0 hf4)
  have A4 := Lib.hid (A3.out.fr0 hf4)
  have F4 := Lib.hid (F3.out.trans0 hf4)
  clear hs4 hf4 hn4 hx0 hx1 hg4
  go_upto_region 8 with (go_at_call 11; (with_reducible refine HCC.out.mono ?_); rintro e w5 ⟨rfl, a5, vs5, vl5, h5⟩)
  have hy0 := h5.fr.cell HX.out.1 HG4.out
  have hy1 := h5.fr.cell HX.out.2 HG4.out
  have HNB := Lib.hid (a5.names HDD.out.2)
  rw [HN2.out] at HNB
  have F5 := Lib.hid (F4.out.trans h5.fr fun j hj e => by have := H4.out.lb0 HDM.out e; omega)
  clear h5
  go_upto_region 9 with (go_at_call 13; (with_reducible refine HNB.out.mono ?_); rintro e w6 ⟨v6, rfl, hs6, hf6, hn6⟩; obtain ⟨a6, c6, rfl, _, _, _⟩ := hs6.shape)
  have F6 := Lib.hid (F5.out.trans0 hf6)
  have hz0 := hf6.cell0 hy0
  have hz1 := hf6.cell0 hy1
  clear hs6 hf6 hn6 hy0 hy1
  go_wp2
  go_ret
  exact ⟨rfl, F6.out⟩
end Go.Proofs.YtillejdjghlicaaGreatDoor
