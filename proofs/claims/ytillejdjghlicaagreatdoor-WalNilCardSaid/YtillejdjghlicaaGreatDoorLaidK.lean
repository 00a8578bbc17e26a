/- What the rows' list of package-level tables gives, and a world that has them. No condition. -/
import Derived.Test.YtillejdjghlicaaGreatDoorRows
import Derived.Test.YtillejdjghlicaaGreatDoorSegN
import Derived.Deep.DeepLaidRun
import Derived.Deep.DeepHandedRow
import Derived.Deep.DeepWitnessRowRef
import Derived.Lib.LaidTab
import Derived.Lib.LaidU8
import Derived.Stop.LaidErr
import Derived.ProofKit
namespace Go.Proofs.YtillejdjghlicaaGreatDoor
open Go Go.Proofs Go.ChangeShapes Go.WideShapes Go.ChangeAt Go.RowKit

theorem Tryz.own : ownKnob Tryz.prog.godebug = none := by kernel_rfl
theorem Tryz.laidOut : laidOutB Tryz.prog = true := by kernel_rfl
theorem g4Type : (Tryz.prog.globals[4]?).map (·.type) = some 173 := by kernel_rfl
theorem cells173 : Tryz.prog.cellsOf 173 = 20 := by kernel_rfl
theorem cells125 : Tryz.prog.cellsOf 125 = 1 := by kernel_rfl
theorem powData : (Rows.laid_internal_strconv_uint64pow10 : DataW Unit) = Lib.tabData .u64 Lib.pow10Tab := by kernel_rfl
/-- The table of powers of ten, off the row's list. -/
theorem tab_of {W : World} (h : laidMetH Tryz.prog Rows.walNilRow.laid W) : Tab W := by
  have h1 : laidMet Tryz.prog Rows.walNilRow.laid W := h
  have h2 := laidMet.tail (laidMet.tail h1)
  rw [powData] at h2
  exact Lib.tabIs_of_head tab_block g4Type Tryz.underlying173 Tryz.underlying125 cells125 cells173 h2
/-- A world that has the tables. -/
noncomputable def laidWorld (os : Os) : World :=
  let N := (World.settled Tryz.prog os).heap.size
  let w0 := World.holding Tryz.prog os ⟨#[.cells #[.string ⟨#[118, 97, 108, 117, 101, 32, 111, 117, 116, 32, 111, 102, 32, 114, 97, 110, 103, 101]⟩] 171, .cells #[.string ⟨#[105, 110, 118, 97, 108, 105, 100, 32, 115, 121, 110, 116, 97, 120]⟩] 171], #[], []⟩
  let put (h : Array Obj) (g : Nat) (cs : Array Value) : Array Obj := h.modify g fun
    | .cells _ t frozen => .cells cs t frozen
    | o => o
  let h0 := put w0.heap 0 #[.iface 169 (.pointer (some ⟨N + 1, 0, none⟩))]
  let h1 := put h0 1 #[.iface 169 (.pointer (some ⟨N, 0, none⟩))]
  let h2 := put h1 2 (Lib.firstTab.map fun z => Value.int .u8 z).toArray
  let h3 := put h2 3 ((List.range 16).flatMap fun i => [Value.int .u8 (Lib.accLo i), Value.int .u8 (Lib.accHi i)]).toArray
  let h4 := put h3 4 (Lib.pow10Tab.map fun z => Value.int .u64 z).toArray
  let h6 := put h4 6 (([0, 1, 28, 2, 29, 14, 24, 3, 30, 22, 20, 15, 25, 17, 4, 8, 31, 27, 13, 23, 21, 19, 16, 7, 26, 12, 18, 6, 11, 5, 10, 9] : List Int).map fun z => Value.int .u8 z).toArray
  let h7 := put h6 7 (([0, 1, 56, 2, 57, 49, 28, 3, 61, 58, 42, 50, 38, 29, 17, 4, 62, 47, 59, 36, 45, 43, 51, 22, 53, 39, 33, 30, 24, 18, 12, 5, 63, 55, 48, 27, 60, 41, 37, 16, 46, 35, 44, 21, 52, 32, 23, 11, 54, 26, 40, 15, 34, 20, 31, 10, 25, 14, 19, 9, 13, 8, 7, 6] : List Int).map fun z => Value.int .u8 z).toArray
  { w0 with heap := h7 }
theorem laid_met (os : Os) (args : Array Value) : laidMet Tryz.prog Rows.walNilRow.laid ((laidWorld os).forCall (fun _ _ => 0) ⟨#[], args, []⟩).memory :=
  laidMet_of_run3 10 (by kernel_rfl) (by kernel_rfl) (by kernel_rfl)
end Go.Proofs.YtillejdjghlicaaGreatDoor
