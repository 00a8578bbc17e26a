/- A disk in memory: Read, act, New. The condition: names are not too long. -/
import Derived.Test.YtillejdjghlicaaGreatDoorDskA
namespace Go.Proofs.YtillejdjghlicaaGreatDoor
open Go Go.Proofs Go.RowKit Go.WideElems Go.ChangeMaps Go.WideMaps
set_option maxRecDepth 100000

/-- What a file has; of no file nothing. -/
def dataD (f : ByteArray → Option (ByteArray × Int)) (n : ByteArray) : ByteArray := ((f n).map (·.1)).getD ByteArray.empty
theorem run_f65 (x : ByteArray) (s : Int) (w : World) : (Instr.field 65 (.agg #[.string x, .int .i64 s]) 0).run Tryz.prog w = .ok (.string x) w := by rfl
theorem dread_calls {w : World} {d m : Nat} {f : ByteArray → Option (ByteArray × Int)} {lim armed : Int} {dead : Bool} (a : DkAt w d m f lim armed dead) (n : ByteArray) (hn : n.size ≤ maxLen) :
    Calls Tryz.prog 22 #[.pointer (some ⟨d, 0, none⟩), .string n] w fun e w' => e = .returned (.tuple #[.string (if thereE f dead n = 0 then dataD f n else ByteArray.empty), .int .i64 (thereE f dead n)]) ∧ Fr No w w' := by
  have hl := dthere_calls a n hn
  have A := Lib.hid a
  have HL := Lib.hid hl
  have HNN := Lib.hid hn
  by_cases h0 : thereE f dead n = 0
  · have hx : ∃ x, f n = some x := by
      unfold thereE at h0
      split at h0
      · cases h0
      · split at h0
        · rename_i h; exact Option.isSome_iff_exists.1 h
        · cases h0
    obtain ⟨⟨x1, x2⟩, hx⟩ := hx
    have HV : Hid (((fun n => (f n).map fileV) n).getD (.agg #[.string ByteArray.empty, .int .i64 0]) = .agg #[.string x1, .int .i64 x2]) := Lib.hid (by dsimp only; rw [hx]; rfl)
    have HX : Hid (dataD f n = x1) := Lib.hid (by unfold dataD; rw [hx]; rfl)
    rw [h0] at HL
    rw [h0, if_pos rfl]
    clear hl hn a hx h0
    go_enter Tryz.func22, Tryz.ntmps22
    go_upto_region 4 with (go_at_call 39; (with_reducible refine HL.out.mono ?_); rintro e w1 ⟨rfl, hf1⟩)
    have a1 := A.out.fr0 hf1
    have c0 : w1.cell? ⟨d, 0, none⟩ = some (.map (some m)) := cellAt a1.obj 0 rfl
    have ld := heap_lt a1.obj
    have HM := Lib.hid a1.map
    clear a1
    have hfd := run_f65 x1 x2 w1
    go_wp2_with (refine wpList_lookS rfl _ _ 45 rfl 9 65 Tryz.underlying45 Tryz.underlying9 m _ rfl HM.out n rfl HNN.out _ (zero65 _) _ HV.out ?_)
    go_ret2
    exact ⟨by rw [HX.out]; rfl, hf1⟩
  · have h0' : (thereE f dead n == 0) = false := by simpa using h0
    rw [if_neg h0]
    generalize thereE f dead n = te at *
    clear hl hn a
    go_enter Tryz.func22, Tryz.ntmps22
    go_wp2_with (go_at_call 39; (with_reducible refine HL.out.mono ?_); rintro e w1 ⟨rfl, hf1⟩)
    go_ret2
    exact ⟨rfl, hf1⟩
def actA (armed : Int) : Int := if 0 < armed then armed - 1 else armed
def actD (armed : Int) (dead : Bool) : Bool := if 0 < armed then armed - 1 == 0 else dead
theorem dact_calls {w : World} {d m : Nat} {f : ByteArray → Option (ByteArray × Int)} {lim armed : Int} {dead : Bool} (a : DkAt w d m f lim armed dead) (ha : armed ≤ 9223372036854775807) :
    Calls Tryz.prog 46 #[.pointer (some ⟨d, 0, none⟩)] w fun e w' => e = .returned (.int .i64 (if actD armed dead = true then 20 else 0)) ∧ DkAt w' d m f lim (actA armed) (actD armed dead) ∧ Fr (fun b => b = d) w w' := by
  have c2 : w.cell? ⟨d, 2, none⟩ = some (.int .i64 armed) := cellAt a.obj 2 rfl
  have c3 : w.cell? ⟨d, 3, none⟩ = some (.bool dead) := cellAt a.obj 3 rfl
  have ld := heap_lt a.obj
  have A := Lib.hid a
  by_cases h0 : 0 < armed
  · have h0' : armed > 0 := h0
    have hwr : IntKind.i64.wrap (armed - 1) = armed - 1 := by rw [IntKind.wrap_i64]; omega
    have fz : ∀ j, w.frozen? ⟨d, j, none⟩ = false := fun j => by unfold World.frozen?; rw [a.obj]; simp
    have f2 := fz 2
    have f3 := fz 3
    have e1 : actA armed = armed - 1 := if_pos h0
    obtain ⟨bb, hbb⟩ : ∃ bb, (armed - 1 == 0) = bb := ⟨_, rfl⟩
    have e2 : actD armed dead = bb := (if_pos h0).trans hbb
    have hf2 : Fr (fun b => b = d) w ((w.setCell ⟨d, 2, none⟩ (.int .i64 (armed - 1))).setCell ⟨d, 3, none⟩ (.bool bb)) := ((Fr.refl (fun b => b = d) w).setCell (p := ⟨d, 2, none⟩) (.inl rfl) _).setCell (p := ⟨d, 3, none⟩) (.inl rfl) _
    have hA2 : DkAt ((w.setCell ⟨d, 2, none⟩ (.int .i64 (armed - 1))).setCell ⟨d, 3, none⟩ (.bool bb)) d m f lim (armed - 1) bb := ⟨by rw [heap_setCell_same (heap_setCell_same a.obj 2 _) 3 _]; rfl, a.map.fr hf2 fun e => a.ne e.symm, a.ne⟩
    have HA2 := Lib.hid hA2
    have HF2 := Lib.hid hf2
    rw [e1, e2]
    clear a fz e1 e2 hA2 hf2
    cases bb <;>
    · go_enter Tryz.func46, Tryz.ntmps46
      go_upto_region 4 with fail
      clear c2 c3 ld f2 f3
      generalize (w.setCell ⟨d, 2, none⟩ (.int .i64 (armed - 1))).setCell ⟨d, 3, none⟩ (.bool _) = W at *
      go_wp2_with (go_at_call 33; (with_reducible refine (dlives_calls HA2.out).mono ?_); rintro e w1 ⟨rfl, rfl⟩)
      go_ret
      exact ⟨rfl, HA2.out, HF2.out⟩
  · have e1 : actA armed = armed := if_neg h0
    have e2 : actD armed dead = dead := if_neg h0
    rw [e1, e2]
    clear a e1 e2
    cases dead <;>
    · go_enter Tryz.func46, Tryz.ntmps46
      go_wp2_with (go_at_call 33; (with_reducible refine (dlives_calls A.out).mono ?_); rintro e w1 ⟨rfl, rfl⟩)
      go_ret
      exact ⟨rfl, A.out, Fr.refl _ _⟩
end Go.Proofs.YtillejdjghlicaaGreatDoor
