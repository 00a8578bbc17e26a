/- A disk in memory: Truncate. The condition: names are not too long. -/
import Derived.Test.YtillejdjghlicaaGreatDoorDskD
namespace Go.Proofs.YtillejdjghlicaaGreatDoor
open Go Go.Proofs Go.RowKit Go.WideElems Go.ChangeMaps Go.WideMaps
set_option maxRecDepth 100000

/-- What Truncate answers. -/
def truE (f : ByteArray → Option (ByteArray × Int)) (armed : Int) (dead : Bool) (n : ByteArray) (k : Int) : Int :=
  if thereE f dead n ≠ 0 then thereE f dead n else if k < 0 ∨ (dataD f n).size < k then 1 else actE armed dead
def TruTo (w w' : World) (d m : Nat) (f f' : ByteArray → Option (ByteArray × Int)) (lim armed : Int) (dead : Bool) (n : ByteArray) (k : Int) (e : Ending) : Prop :=
  e = .returned (.int .i64 (truE f armed dead n k)) ∧
    DkAt w' d m (if truE f armed dead n k = 0 then f' else f) lim (if thereE f dead n = 0 ∧ ¬ (k < 0 ∨ (dataD f n).size < k) then actA armed else armed) (if thereE f dead n = 0 ∧ ¬ (k < 0 ∨ (dataD f n).size < k) then actD armed dead else dead) ∧ Fr (fun b => b = d ∨ b = m) w w'
def synD (f : ByteArray → Option (ByteArray × Int)) (n : ByteArray) : Int := ((f n).map (·.2)).getD 0
set_option maxHeartbeats 4000000 in
theorem dtruncate_calls {w : World} {d m : Nat} {f : ByteArray → Option (ByteArray × Int)} {lim armed : Int} {dead : Bool} (a : DkAt w d m f lim armed dead) (ha : armed ≤ 9223372036854775807) (n : ByteArray) (hn : n.size ≤ maxLen) (k : Nat) :
    Calls Tryz.prog 32 #[.pointer (some ⟨d, 0, none⟩), .string n, .int .i64 k] w fun e w' => TruTo w w' d m f (setD f n ((dataD f n).extract 0 k, min (synD f n) k)) lim armed dead n k e := by
  have hl := dthere_calls a n hn
  have A := Lib.hid a
  have HL := Lib.hid hl
  have HNN := Lib.hid hn
  have AC := Lib.hid fun W (hW : DkAt W d m f lim armed dead) => dact_calls hW ha
  unfold TruTo truE
  by_cases h0 : thereE f dead n = 0
  · have hx : ∃ x, f n = some x := by
      unfold thereE at h0
      split at h0
      · cases h0
      · split at h0
        · rename_i h; exact Option.isSome_iff_exists.1 h
        · cases h0
    obtain ⟨⟨x1, x2⟩, hx⟩ := hx
    have HV : Hid (((fun n => (f n).map fileV) n).getD (.agg #[.string ByteArray.empty, .int .i64 0]) = .agg #[.string x1, .int .i64 x2]) := Lib.hid (by dsimp only; rw [hx]; rfl)
    have hxd : dataD f n = x1 := by unfold dataD; rw [hx]; rfl
    have hxs : synD f n = x2 := by unfold synD; rw [hx]; rfl
    rw [h0] at HL
    rw [h0, hxd, hxs]
    have hk0 : ¬ (k : Int) < 0 := by omega
    simp only [ne_eq, not_true_eq_false, if_false, true_and]
    clear hl hn a h0 hx hxd hxs
    by_cases hk : (x1.size : Int) < k
    · have hk' : (k : Int) > x1.size := hk
      rw [if_pos (.inr hk), if_neg (by decide : ¬ (1 : Int) = 0), if_neg (fun h => h (.inr hk)), if_neg (fun h => h (.inr hk))]
      have HKK := Lib.hid hk
      go_enter Tryz.func32, Tryz.ntmps32
      go_upto_region 4 with (go_at_call 39; (with_reducible refine HL.out.mono ?_); rintro e w1 ⟨rfl, hf1⟩)
      have a1 := A.out.fr0 hf1
      have c0 : w1.cell? ⟨d, 0, none⟩ = some (.map (some m)) := cellAt a1.obj 0 rfl
      have ld := heap_lt a1.obj
      have HM := Lib.hid a1.map
      have A1 := Lib.hid a1
      clear a1
      go_wp2_with (refine wpList_lookS rfl _ _ 45 rfl 9 65 Tryz.underlying45 Tryz.underlying9 m _ rfl HM.out n rfl HNN.out _ (zero65 _) _ HV.out ?_)
      go_ret
      exact ⟨rfl, A1.out.fr0 ((Fr.refl No w1).alloc _), (hf1.alloc _).mono fun _ _ h => h.elim⟩
    · have hk' : ¬ (k : Int) > x1.size := hk
      have hor : ¬ ((k : Int) < 0 ∨ (x1.size : Int) < k) := fun h => h.elim hk0 hk
      rw [if_neg hor, if_pos hor, if_pos hor]
      have hae : actE armed dead = if actD armed dead = true then 20 else 0 := rfl
      rw [hae]
      generalize actD armed dead = ad at *
      generalize actA armed = aa at *
      clear hae hor
      cases ad with
      | true =>
        go_enter Tryz.func32, Tryz.ntmps32
        go_upto_region 4 with (go_at_call 39; (with_reducible refine HL.out.mono ?_); rintro e w1 ⟨rfl, hf1⟩)
        have a1 := A.out.fr0 hf1
        have c0 : w1.cell? ⟨d, 0, none⟩ = some (.map (some m)) := cellAt a1.obj 0 rfl
        have ld := heap_lt a1.obj
        have HM := Lib.hid a1.map
        have A1 := Lib.hid (a1.fr0 ((Fr.refl No w1).alloc (.cells #[.string x1, .int .i64 x2] 65)))
        have HF1 : Hid (Fr No w (w1.alloc (.cells #[.string x1, .int .i64 x2] 65))) := Lib.hid (hf1.alloc _)
        clear a1 hf1
        go_wp2_with (first
          | (refine wpList_lookS rfl _ _ 45 rfl 9 65 Tryz.underlying45 Tryz.underlying9 m _ rfl HM.out n rfl HNN.out _ (zero65 _) _ HV.out ?_)
          | (go_at_call 46; (with_reducible refine (AC.out _ A1.out).mono ?_); rintro e w2 ⟨rfl, a2, hf2⟩))
        go_ret
        exact ⟨rfl, by simpa using a2, (HF1.out.mono fun _ _ h => h.elim).trans (hf2.mono fun _ _ h => .inl h) fun _ _ h => h⟩
      | false =>
        go_enter Tryz.func32, Tryz.ntmps32
        go_upto_region 4 with (go_at_call 39; (with_reducible refine HL.out.mono ?_); rintro e w1 ⟨rfl, hf1⟩)
        have a1 := A.out.fr0 hf1
        have c0 : w1.cell? ⟨d, 0, none⟩ = some (.map (some m)) := cellAt a1.obj 0 rfl
        have ld := heap_lt a1.obj
        have HM := Lib.hid a1.map
        have A1 := Lib.hid (a1.fr0 ((Fr.refl No w1).alloc (.cells #[.string x1, .int .i64 x2] 65)))
        have HF1 : Hid (Fr No w (w1.alloc (.cells #[.string x1, .int .i64 x2] 65))) := Lib.hid (hf1.alloc _)
        have HBX := Lib.hid (alloc_at w1 (.cells #[.string x1, .int .i64 x2] 65) _ rfl)
        have HNE : Hid (d ≠ w1.heap.size) := Lib.hid (Nat.ne_of_lt ld)
        clear a1 hf1
        go_upto_region 9 with (first
          | (refine wpList_lookS rfl _ _ 45 rfl 9 65 Tryz.underlying45 Tryz.underlying9 m _ rfl HM.out n rfl HNN.out _ (zero65 _) _ HV.out ?_)
          | (go_at_call 46; (with_reducible refine (AC.out _ A1.out).mono ?_); rintro e w2 ⟨rfl, a2, hf2⟩))
        have hb2 := hf2.heap HBX.out fun e => HNE.out e.symm
        have c0' : w2.drew.cell? ⟨d, 0, none⟩ = some (.map (some m)) := cellAt a2.obj 0 rfl
        have k0 : w2.drew.cell? ⟨w1.heap.size, 0, none⟩ = some (.string x1) := cellAt (show w2.drew.heap[w1.heap.size]? = _ from hb2) 0 rfl
        have k1 : w2.drew.cell? ⟨w1.heap.size, 1, none⟩ = some (.int .i64 x2) := cellAt (show w2.drew.heap[w1.heap.size]? = _ from hb2) 1 rfl
        have ld' : d < w2.drew.heap.size := heap_lt a2.obj
        have lk : w1.heap.size < w2.drew.heap.size := heap_lt hb2
        have A4 := Lib.hid (a2.fr0 (Fr.refl No w2).drew)
        have HM4 := Lib.hid A4.out.map
        have HF2 := Lib.hid hf2
        clear a2 hb2 hf2 c0 ld
        have hmn : (if (k : Int) < x2 then (k : Int) else x2) = min x2 k := by split <;> omega
        obtain ⟨mn, hmm⟩ : ∃ mn, min x2 (k : Int) = mn := ⟨_, rfl⟩
        rw [hmm] at hmn
        have HMM := Lib.hid hmm
        clear hmm
        refine wp_region_still_tail 14 (by kernel_rfl) (by kernel_rfl) ?_
        simp only [List.take_succ_cons, List.take_zero, List.drop_succ_cons, List.drop_zero]
        change wpStill _ _ w2.drew _ _ _
        repeat (refine wpStill_step (fun K hK => ?_); go_simp; refine hK _ ?_; clear hK K)
        refine wpStill_nil ?_
        change wpList _ _ _ _ _ w2.drew
        refine wpList_storeS rfl _ _ _ 45 rfl 9 65 Tryz.underlying45 Tryz.underlying9 m _ rfl HM4.out n rfl HNN.out (fileV (x1.extract 0 k, mn)) (by unfold fileV; go_simp) ?_
        rintro w5 hm5 hf5 hz5
        rw [map_setD, ← HMM.out] at hm5
        clear c0' k0 k1 ld' lk
        go_wp2
        go_ret
        exact ⟨rfl, ⟨hf5.heap A4.out.obj A4.out.ne, by simpa using hm5, A4.out.ne⟩, ((HF1.out.mono fun _ _ h => h.elim).trans (HF2.out.drew.mono fun _ _ h => .inl h) fun _ _ h => h).trans (hf5.mono fun _ _ h => .inr h) fun _ _ h => h⟩
  · have h0' : (thereE f dead n == 0) = false := by simpa using h0
    rw [if_pos h0, if_neg h0, if_neg (fun h => h0 h.1), if_neg (fun h => h0 h.1)]
    generalize thereE f dead n = te at *
    clear hl hn a
    go_enter Tryz.func32, Tryz.ntmps32
    go_wp2_with (go_at_call 39; (with_reducible refine HL.out.mono ?_); rintro e w1 ⟨rfl, hf1⟩)
    go_ret
    exact ⟨rfl, A.out.fr0 hf1, hf1.mono fun _ _ h => h.elim⟩
end Go.Proofs.YtillejdjghlicaaGreatDoor
