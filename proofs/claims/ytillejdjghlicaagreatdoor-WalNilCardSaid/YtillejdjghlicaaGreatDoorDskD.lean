/- A disk in memory: Sync. The condition: names are not too long. -/
import Derived.Test.YtillejdjghlicaaGreatDoorDskC
import Derived.StillTailTactics
namespace Go.Proofs.YtillejdjghlicaaGreatDoor
open Go Go.Proofs Go.RowKit Go.WideElems Go.ChangeMaps Go.WideMaps
set_option maxRecDepth 100000

set_option maxHeartbeats 4000000 in
theorem dsync_calls {w : World} {d m : Nat} {f : ByteArray → Option (ByteArray × Int)} {lim armed : Int} {dead : Bool} (a : DkAt w d m f lim armed dead) (ha : armed ≤ 9223372036854775807) (n : ByteArray) (hn : n.size ≤ maxLen) :
    Calls Tryz.prog 37 #[.pointer (some ⟨d, 0, none⟩), .string n] w fun e w' => ChgTo w w' d m f (setD f n (dataD f n, (dataD f n).size)) lim armed dead n e := by
  have hl := dthere_calls a n hn
  have A := Lib.hid a
  have HL := Lib.hid hl
  have HNN := Lib.hid hn
  have AC := Lib.hid fun W (hW : DkAt W d m f lim armed dead) => dact_calls hW ha
  unfold ChgTo
  by_cases h0 : thereE f dead n = 0
  · have hx : ∃ x, f n = some x := by
      unfold thereE at h0
      split at h0
      · cases h0
      · split at h0
        · rename_i h; exact Option.isSome_iff_exists.1 h
        · cases h0
    obtain ⟨⟨x1, x2⟩, hx⟩ := hx
    have HV : Hid (((fun n => (f n).map fileV) n).getD (.agg #[.string ByteArray.empty, .int .i64 0]) = .agg #[.string x1, .int .i64 x2]) := Lib.hid (by dsimp only; rw [hx]; rfl)
    have hxd : dataD f n = x1 := by unfold dataD; rw [hx]; rfl
    rw [h0] at HL
    rw [h0, hxd]
    simp only [ne_eq, not_true_eq_false, if_false, if_true, true_and]
    clear hl hn a h0 hx hxd
    have hae : actE armed dead = if actD armed dead = true then 20 else 0 := rfl
    rw [hae]
    generalize actD armed dead = ad at *
    generalize actA armed = aa at *
    clear hae
    cases ad with
    | true =>
      go_enter Tryz.func37, Tryz.ntmps37
      go_wp2_with (first
        | (go_at_call 39; (with_reducible refine HL.out.mono ?_); rintro e w1 ⟨rfl, hf1⟩; have A1 := Lib.hid (A.out.fr0 hf1))
        | (go_at_call 46; (with_reducible refine (AC.out _ A1.out).mono ?_); rintro e w2 ⟨rfl, a2, hf2⟩))
      go_ret
      exact ⟨rfl, by simpa using a2, (hf1.mono fun _ _ h => h.elim).trans (hf2.mono fun _ _ h => .inl h) fun _ _ h => h⟩
    | false =>
      go_enter Tryz.func37, Tryz.ntmps37
      go_upto_region 6 with (first
        | (go_at_call 39; (with_reducible refine HL.out.mono ?_); rintro e w1 ⟨rfl, hf1⟩; have A1 := Lib.hid (A.out.fr0 hf1))
        | (go_at_call 46; (with_reducible refine (AC.out _ A1.out).mono ?_); rintro e w2 ⟨rfl, a2, hf2⟩))
      have c0 : w2.cell? ⟨d, 0, none⟩ = some (.map (some m)) := cellAt a2.obj 0 rfl
      have ld := heap_lt a2.obj
      have HM := Lib.hid a2.map
      have A2 := Lib.hid a2
      have HBX := Lib.hid (alloc_at w2 (.cells #[.string x1, .int .i64 x2] 65) _ rfl)
      have HFX : Hid (Fr No w2 (w2.alloc (.cells #[.string x1, .int .i64 x2] 65))) := Lib.hid ((Fr.refl No w2).alloc _)
      have HF12 : Hid (Fr (fun b => b = d ∨ b = m) w w2) := Lib.hid ((hf1.mono fun _ _ h => h.elim).trans (hf2.mono fun _ _ h => .inl h) fun _ _ h => h)
      clear a2 hf1 hf2
      go_upto_region 7 with (refine wpList_lookS rfl _ _ 45 rfl 9 65 Tryz.underlying45 Tryz.underlying9 m _ rfl HM.out n rfl HNN.out _ (zero65 _) _ HV.out ?_)
      have hx0 := HBX.out
      generalize hW3 : w2.alloc (.cells #[.string x1, .int .i64 x2] 65) = W3 at *
      have k0 : W3.cell? ⟨w2.heap.size, 0, none⟩ = some (.string x1) := cellAt hx0 0 rfl
      have k1 : W3.cell? ⟨w2.heap.size, 1, none⟩ = some (.int .i64 x2) := cellAt hx0 1 rfl
      have fk : W3.frozen? ⟨w2.heap.size, 1, none⟩ = false := by unfold World.frozen?; rw [hx0]; simp
      have lk := heap_lt hx0
      clear c0 ld hW3 hx0
      go_upto_region 8 with fail
      have hb4 : (W3.setCell ⟨w2.heap.size, 1, none⟩ (.int .i64 x1.size)).heap[w2.heap.size]? = some (.cells #[.string x1, .int .i64 x1.size] 65 (0, 0)) := by
        rw [heap_setCell_same HBX.out 1 _]
        rfl
      have hf4 : Fr No w2 (W3.setCell ⟨w2.heap.size, 1, none⟩ (.int .i64 x1.size)) := HFX.out.setCell (p := ⟨w2.heap.size, 1, none⟩) (.inr (Nat.le_refl _)) _
      have a4 := A2.out.fr0 hf4.drew
      have HF4 := Lib.hid hf4
      clear k0 k1 fk lk hf4
      generalize W3.setCell ⟨w2.heap.size, 1, none⟩ (.int .i64 x1.size) = W4 at *
      have c0 : W4.drew.cell? ⟨d, 0, none⟩ = some (.map (some m)) := cellAt a4.obj 0 rfl
      have k0 : W4.drew.cell? ⟨w2.heap.size, 0, none⟩ = some (.string x1) := cellAt (show W4.drew.heap[w2.heap.size]? = _ from hb4) 0 rfl
      have k1 : W4.drew.cell? ⟨w2.heap.size, 1, none⟩ = some (.int .i64 x1.size) := cellAt (show W4.drew.heap[w2.heap.size]? = _ from hb4) 1 rfl
      have ld : d < W4.drew.heap.size := heap_lt a4.obj
      have lk : w2.heap.size < W4.drew.heap.size := heap_lt hb4
      have HM4 := Lib.hid a4.map
      have A4 := Lib.hid a4
      clear a4 hb4
      refine wp_region_still_tail 6 (by kernel_rfl) (by kernel_rfl) ?_
      simp only [List.take_succ_cons, List.take_zero, List.drop_succ_cons, List.drop_zero]
      change wpStill _ _ W4.drew _ _ _
      repeat (refine wpStill_step (fun K hK => ?_); go_simp; refine hK _ ?_; clear hK K)
      refine wpStill_nil ?_
      change wpList _ _ _ _ _ W4.drew
      refine wpList_storeS rfl _ _ _ 45 rfl 9 65 Tryz.underlying45 Tryz.underlying9 m _ rfl HM4.out n rfl HNN.out (fileV (x1, x1.size)) rfl ?_
      rintro w5 hm5 hf5 hz5
      rw [map_setD] at hm5
      clear c0 k0 k1 ld lk
      go_wp2
      go_ret
      exact ⟨rfl, ⟨hf5.heap A4.out.obj A4.out.ne, by simpa using hm5, A4.out.ne⟩, (HF12.out.trans (HF4.out.drew.mono fun _ _ h => h.elim) fun _ _ h => h).trans (hf5.mono fun _ _ h => .inr h) fun _ _ h => h⟩
  · have h0' : (thereE f dead n == 0) = false := by simpa using h0
    rw [if_pos h0, if_neg (fun h => h0 h.1), if_neg h0, if_neg h0]
    generalize thereE f dead n = te at *
    clear hl hn a
    go_enter Tryz.func37, Tryz.ntmps37
    go_wp2_with (go_at_call 39; (with_reducible refine HL.out.mono ?_); rintro e w1 ⟨rfl, hf1⟩)
    go_ret
    exact ⟨rfl, A.out.fr0 hf1, hf1.mono fun _ _ h => h.elim⟩
end Go.Proofs.YtillejdjghlicaaGreatDoor
