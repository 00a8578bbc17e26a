/- A log in memory: Get, Sync. The conditions: what LgM and LgOk say. -/
import Derived.Test.YtillejdjghlicaaGreatDoorWalA
namespace Go.Proofs.YtillejdjghlicaaGreatDoor
open Go Go.Proofs Go.RowKit Go.WideElems Go.ChangeMaps Go.WideMaps
set_option maxRecDepth 100000

section
variable {w : World} {b0 p d m : Nat} {L : Lg} {vs vl : Value}
theorem wget_calls (h : LgM w b0 p d m L vs vl) (hk : L.first + L.l.length ≤ 1099511627776) (n : Nat) (b : List UInt8) (hn : L.first ≤ n) (hb : L.l[n - L.first]? = some b) : Calls Tryz.prog 16 #[.pointer (some ⟨p, 0, none⟩), .int .i64 n] w fun e w' => e = .returned (.tuple #[.string (toB b), .int .i64 0]) ∧ Fr No w w' := by
  have hl := (List.getElem?_eq_some_iff.1 hb).1
  obtain ⟨a, cap, rfl, h1, h2, h3⟩ := h.recs.shape
  rw [List.length_map] at h1 h3
  obtain ⟨g, o, rfl⟩ := h3 (by omega)
  have HF1 := Lib.hid (wfirst_calls h)
  have HF2 := Lib.hid (wnext_calls h hk)
  have H := Lib.hid h
  have hcell : w.cell? ⟨g, o + (n - L.first), none⟩ = some (.string (toB b)) := h.recs.cell1 strB_length (n - L.first) (by rw [List.getElem?_map, hb]; rfl) rfl
  have c3 : w.cell? ⟨p, 3, none⟩ = some (.int .i64 L.first) := cellAt h.obj 3 rfl
  have c4 : w.cell? ⟨p, 4, none⟩ = some (.slice (some ⟨g, o, none⟩) (L.l.map toB).length cap) := cellAt h.obj 4 rfl
  rw [List.length_map] at c4
  have lp := heap_lt h.obj
  clear h h1 h2 h3 hb
  obtain ⟨k, rfl⟩ : ∃ k, n = L.first + k := ⟨n - L.first, by omega⟩
  rw [show L.first + k - L.first = k by omega] at hl hcell
  generalize L.first = x at *
  generalize L.l.length = y at *
  have e1 : ((x + k : Nat) : Int) = (x : Int) + k := by omega
  have e2 : ((x + y : Nat) : Int) = (x : Int) + y := by omega
  rw [e2] at HF2
  rw [e1]
  have g1 : ¬ ((x : Int) + k < x) := by omega
  have g2 : ¬ ((x : Int) + k ≥ (x : Int) + y) := by omega
  have hwr : IntKind.i64.wrap ((x : Int) + k - x) = k := by rw [IntKind.wrap_i64]; omega
  have hwr2 : IntKind.i64.wrap (k : Int) = k := by rw [IntKind.wrap_i64]; omega
  have hk0 : (0 : Int) ≤ (k : Int) := by omega
  have hky : (k : Int) < (y : Int) := by omega
  go_enter Tryz.func16, Tryz.ntmps16
  go_upto_region 5 with (first
    | (go_at_call 14; (with_reducible refine HF1.out.mono ?_); rintro e w1 ⟨rfl, rfl⟩)
    | (go_at_call 15; (with_reducible refine HF2.out.mono ?_); rintro e w2 ⟨rfl, hf2⟩))
  have d3 := hf2.cell0 c3
  have d4 := hf2.cell0 c4
  have dc := hf2.cell0 hcell
  have d3' : w2.drew.cell? ⟨p, 3, none⟩ = some (.int .i64 x) := d3
  have d4' : w2.drew.cell? ⟨p, 4, none⟩ = some (.slice (some ⟨g, o, none⟩) y cap) := d4
  have dc' : w2.drew.cell? ⟨g, o + k, none⟩ = some (.string (toB b)) := dc
  go_region_held3 (fun W => W.cell? ⟨p, 3, none⟩ = some (.int .i64 x) ∧ W.cell? ⟨p, 4, none⟩ = some (.slice (some ⟨g, o, none⟩) y cap) ∧ W.cell? ⟨g, o + k, none⟩ = some (.string (toB b))) (first | exact ⟨d3, d4, dc⟩ | exact ⟨d3', d4', dc'⟩) (fail)
  go_wp2
  go_ret2
  exact ⟨rfl, hf2.drew⟩
/-- What is told behind a call: the answer, the disk, the log as it was. -/
theorem wsync_calls {D : Dk} (h : LgM w b0 p d m L vs vl) (a : DkM w d m D) (T : Tab w) (ok : LgOk L) : Calls Tryz.prog 17 #[.pointer (some ⟨p, 0, none⟩)] w fun e w' => e = .returned (.int .i64 (lgSync RR D L).2) ∧ DkM w' d m (lgSync RR D L).1 ∧ Fr (DM d m) w w' := by
  have HLV := Lib.hid (wlives_calls h a)
  have H := Lib.hid h
  have A := Lib.hid a
  have TT := Lib.hid T
  have OK := Lib.hid ok
  unfold lgSync
  cases hd : D.dead with
  | true =>
    rw [hd] at HLV
    rw [if_pos rfl]
    clear h a T ok
    go_enter Tryz.func17, Tryz.ntmps17
    go_wp2_with (go_at_call 26; (with_reducible refine HLV.out.mono ?_); rintro e w1 ⟨rfl, hf1⟩)
    go_ret
    exact ⟨rfl, A.out.fr0 hf1, hf1.mono fun _ _ h => h.elim⟩
  | false =>
    rw [hd] at HLV
    rw [if_neg (by simp)]
    rcases List.eq_nil_or_concat L.segs with hs | ⟨S, s, hs⟩
    · have HLN := Lib.hid fun W (hW : Fr No w W) => wlast_none (h.fr0 hW) hs
      rw [hs]
      clear h a T ok
      go_enter Tryz.func17, Tryz.ntmps17
      go_wp2_with (first
        | (go_at_call 26; (with_reducible refine HLV.out.mono ?_); rintro e w1 ⟨rfl, hf1⟩)
        | (go_at_call 29; (with_reducible refine (HLN.out _ hf1).mono ?_); rintro e w2 ⟨rfl, rfl⟩))
      go_ret
      exact ⟨rfl, A.out.fr0 hf1, hf1.mono fun _ _ h => h.elim⟩
    · rw [List.concat_eq_append] at hs
      have hlen : L.segs.length = S.length + 1 := by rw [hs, List.length_append, List.length_singleton]
      obtain ⟨ad, cap, rfl, _, _, h3⟩ := h.segs.shape
      obtain ⟨g, o, rfl⟩ := h3 (by omega)
      have hsok := ok.segs s (by rw [hs]; exact List.mem_append_right _ (List.mem_singleton_self _))
      have hSl : S.length ≤ 1099511627776 := by have := ok.len; omega
      rw [hlen] at H
      have HLS := Lib.hid fun W (hW : Fr No w W) => wlast_some (H.out.fr0 hW) hs hSl
      obtain ⟨hq0, hq1⟩ := SlF.cells2 segC_length h.segs S.length (x := s) (by rw [hs]; simp) rfl
      have c0 : w.cell? ⟨p, 0, none⟩ = some (.pointer (some ⟨d, 0, none⟩)) := cellAt h.obj 0 rfl
      have lp := heap_lt h.obj
      have lq : g < w.heap.size := h.segs.lt g rfl
      have HNE : Hid (p ≠ d ∧ p ≠ m ∧ g ≠ d ∧ g ≠ m) := Lib.hid ⟨h.ne.1, h.ne.2, (h.nes g rfl).1, (h.nes g rfl).2.1⟩
      have hgl : L.segs.getLast? = some s := by rw [hs]; simp
      rw [hgl]
      obtain ⟨s1, s2⟩ := s
      have HNM := Lib.hid fun W (hW : Fr No w W) => name_calls (TT.out.fr0 hW) s1 hsok.2.1 (s2 : Int)
      have HSY := Lib.hid fun W (hW : Fr No w W) => (A.out.fr0 hW).sync s1 hsok.2.1
      dsimp only
      generalize (D.sync RR s1) = E at *
      obtain ⟨E1, E2⟩ := E
      clear h a T ok hs hlen h3 hsok hgl
      go_enter Tryz.func17, Tryz.ntmps17
      go_upto_region 6 with (first
        | (go_at_call 26; (with_reducible refine HLV.out.mono ?_); rintro e w1 ⟨rfl, hf1⟩)
        | (go_at_call 29; (with_reducible refine (HLS.out _ hf1).mono ?_); rintro e w2 ⟨rfl, hf2⟩))
      have hf3 := hf1.trans0 hf2
      have q0 := hf3.cell0 hq0
      have q1 := hf3.cell0 hq1
      have q2 := hf3.cell0 c0
      have q0' : w2.drew.cell? ⟨g, o + S.length * 2, none⟩ = some (.int .i64 s1) := q0
      have q1' : w2.drew.cell? ⟨g, o + S.length * 2 + 1, none⟩ = some (.int .i64 s2) := q1
      have q2' : w2.drew.cell? ⟨p, 0, none⟩ = some (.pointer (some ⟨d, 0, none⟩)) := q2
      go_region_held3 (fun W => W.cell? ⟨g, o + S.length * 2, none⟩ = some (.int .i64 s1) ∧ W.cell? ⟨g, o + S.length * 2 + 1, none⟩ = some (.int .i64 s2) ∧ W.cell? ⟨p, 0, none⟩ = some (.pointer (some ⟨d, 0, none⟩)))
        (first | exact ⟨q0, q1, q2⟩ | exact ⟨q0', q1', q2'⟩ | exact ⟨r0, r1, r2⟩ | exact ⟨t0, t1, t2⟩)
        (first
          | (go_at_call 30; (with_reducible refine (HNM.out _ hf3.drew).mono ?_); rintro e w4 ⟨rfl, hf4⟩; have hf5 := hf3.drew.trans0 hf4; have r0 := hf4.cell0 q0'; have r1 := hf4.cell0 q1'; have r2 := hf4.cell0 q2')
          | (go_at_call 37; (with_reducible refine (HSY.out _ hf5).mono ?_); rintro e w6 ⟨rfl, a6, hf6⟩; have t0 := hf6.cell r0 (fun e => e.elim HNE.out.2.2.1 HNE.out.2.2.2); have t1 := hf6.cell r1 (fun e => e.elim HNE.out.2.2.1 HNE.out.2.2.2); have t2 := hf6.cell r2 (fun e => e.elim HNE.out.1 HNE.out.2.1)))
      go_wp2
      go_ret
      exact ⟨rfl, a6, (hf5.mono fun _ _ h => h.elim).trans hf6 fun _ _ h => h⟩
end
end Go.Proofs.YtillejdjghlicaaGreatDoor
