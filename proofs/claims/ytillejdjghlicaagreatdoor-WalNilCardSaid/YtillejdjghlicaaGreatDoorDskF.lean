/- A disk in memory: New, Arm. No condition. -/
import Derived.Test.YtillejdjghlicaaGreatDoorDskE
namespace Go.Proofs.YtillejdjghlicaaGreatDoor
open Go Go.Proofs Go.RowKit Go.WideElems Go.ChangeMaps Go.WideMaps
set_option maxRecDepth 100000

def noD : ByteArray → Option (ByteArray × Int) := fun _ => none
theorem dnew_calls (w : World) (lim : Int) (h1 : 1 ≤ lim) (h2 : lim ≤ 1073741824) :
    Calls Tryz.prog 8 #[.int .i64 lim] w fun e w' => ∃ d, e = .returned (.tuple #[.pointer (some ⟨d, 0, none⟩), .int .i64 0]) ∧ ∃ m, DkAt w' d m noD lim 0 false ∧ Fr No w w' ∧ w.heap.size ≤ d ∧ w.heap.size ≤ m := by
  have e1 : ¬ lim < 1 := by omega
  have e2 : ¬ lim > 1073741824 := by omega
  have hm := MapS.made w
  have hmm : ∀ w, (Instr.makeMap 45 none).run Tryz.prog w = .ok (.map (some w.heap.size)) (w.alloc (.map #[] 0)) := fun w => run_makeMap 45 w
  have hf : Fr No w (w.alloc (.map #[] 0)) := (Fr.refl No w).alloc _
  have HM := Lib.hid hm
  have HF := Lib.hid hf
  clear hm hf
  go_enter Tryz.func8, Tryz.ntmps8
  go_wp2
  go_ret2
  have hob := alloc_at (w.alloc (.map #[] 0)) (.cells #[.map (some w.heap.size), .int .i64 lim, .int .i64 0, .bool false] 47) _ rfl
  have hsz : (w.alloc (.map #[] 0)).heap.size = w.heap.size + 1 := Array.size_push ..
  have hf2 : Fr No w ((w.alloc (.map #[] 0)).alloc (.cells #[.map (some w.heap.size), .int .i64 lim, .int .i64 0, .bool false] 47)) := HF.out.alloc _
  refine ⟨w.heap.size + 1, rfl, w.heap.size, ⟨by rw [← hsz]; exact hob, (HM.out.fr ((Fr.refl No _).alloc _) fun h => h), by omega⟩, hf2, by omega, by omega⟩
theorem darm_calls {w : World} {d m : Nat} {f : ByteArray → Option (ByteArray × Int)} {lim armed : Int} (a : DkAt w d m f lim armed false) (k : Int) (hk : 0 ≤ k) :
    Calls Tryz.prog 19 #[.pointer (some ⟨d, 0, none⟩), .int .i64 k] w fun e w' => e = .returned (.int .i64 0) ∧ DkAt w' d m f lim k false ∧ Fr (fun b => b = d) w w' := by
  have hl := dlives_calls a
  have c2 : w.cell? ⟨d, 2, none⟩ = some (.int .i64 armed) := cellAt a.obj 2 rfl
  have f2 : w.frozen? ⟨d, 2, none⟩ = false := by unfold World.frozen?; rw [a.obj]; simp
  have ld := heap_lt a.obj
  have hk' : ¬ k < 0 := by omega
  have hf2 : Fr (fun b => b = d) w (w.setCell ⟨d, 2, none⟩ (.int .i64 k)) := (Fr.refl (fun b => b = d) w).setCell (p := ⟨d, 2, none⟩) (.inl rfl) _
  have hA2 : DkAt (w.setCell ⟨d, 2, none⟩ (.int .i64 k)) d m f lim k false := ⟨by rw [heap_setCell_same a.obj 2 _]; rfl, a.map.fr hf2 fun e => a.ne e.symm, a.ne⟩
  have HL := Lib.hid hl
  have HA2 := Lib.hid hA2
  have HF2 := Lib.hid hf2
  clear a hl hA2 hf2
  go_enter Tryz.func19, Tryz.ntmps19
  go_wp2_with (go_at_call 33; (with_reducible refine HL.out.mono ?_); rintro e w1 ⟨rfl, rfl⟩)
  go_ret
  exact ⟨rfl, HA2.out, HF2.out⟩
end Go.Proofs.YtillejdjghlicaaGreatDoor
