/- WalNil's walk: it answers true. The condition: the table of Go's library is there. -/
import Derived.Test.YtillejdjghlicaaGreatDoorAwkW
namespace Go.Proofs.YtillejdjghlicaaGreatDoor
open Go Go.Proofs Go.RowKit
set_option maxRecDepth 100000

theorem nil_first (w : World) : Calls Tryz.prog 14 #[.pointer none] w fun e w' => e = .returned (.int .i64 0) ∧ w = w' := by
  go_enter Tryz.func14, Tryz.ntmps14
  go_wp2
  go_ret
  exact ⟨rfl, rfl⟩
theorem nil_next (w : World) : Calls Tryz.prog 15 #[.pointer none] w fun e w' => e = .returned (.int .i64 0) ∧ w = w' := by
  go_enter Tryz.func15, Tryz.ntmps15
  go_wp2
  go_ret
  exact ⟨rfl, rfl⟩
theorem nil_get (w : World) (n : Int) : Calls Tryz.prog 16 #[.pointer none, .int .i64 n] w fun e w' => e = .returned (.tuple #[.string ⟨#[]⟩, .int .i64 2]) ∧ w = w' := by
  go_enter Tryz.func16, Tryz.ntmps16
  go_wp2
  go_ret2
  exact ⟨rfl, rfl⟩
theorem nil_lives (w : World) : Calls Tryz.prog 26 #[.pointer none] w fun e w' => e = .returned (.int .i64 2) ∧ w = w' := by
  go_enter Tryz.func26, Tryz.ntmps26
  go_wp2
  go_ret
  exact ⟨rfl, rfl⟩
theorem nil_sync (w : World) : Calls Tryz.prog 17 #[.pointer none] w fun e w' => e = .returned (.int .i64 2) ∧ w = w' := by
  have HL := Lib.hid (nil_lives w)
  go_enter Tryz.func17, Tryz.ntmps17
  go_wp2_with (go_at_call 26; (with_reducible refine HL.out.mono ?_); rintro e w1 ⟨rfl, rfl⟩)
  go_ret
  exact ⟨rfl, rfl⟩
theorem nil_cut (w : World) (n : Int) : Calls Tryz.prog 11 #[.pointer none, .int .i64 n] w fun e w' => e = .returned (.int .i64 2) ∧ w = w' := by
  go_enter Tryz.func11, Tryz.ntmps11
  go_wp2
  go_ret
  exact ⟨rfl, rfl⟩
theorem nil_purge (w : World) (n : Int) : Calls Tryz.prog 18 #[.pointer none, .int .i64 n] w fun e w' => e = .returned (.int .i64 2) ∧ w = w' := by
  have HL := Lib.hid (nil_lives w)
  go_enter Tryz.func18, Tryz.ntmps18
  go_wp2_with (go_at_call 26; (with_reducible refine HL.out.mono ?_); rintro e w1 ⟨rfl, rfl⟩)
  go_ret
  exact ⟨rfl, rfl⟩
theorem nil_reset (w : World) (n : Int) : Calls Tryz.prog 21 #[.pointer none, .int .i64 n] w fun e w' => e = .returned (.int .i64 2) ∧ w = w' := by
  go_enter Tryz.func21, Tryz.ntmps21
  go_wp2
  go_ret
  exact ⟨rfl, rfl⟩
theorem nil_append (w : World) (v : Value) : Calls Tryz.prog 10 #[.pointer none, v] w fun e w' => e = .returned (.int .i64 2) ∧ w = w' := by
  go_enter Tryz.func10, Tryz.ntmps10
  go_wp2
  go_ret
  exact ⟨rfl, rfl⟩
theorem nil_open (w : World) (n : Int) : Calls Tryz.prog 9 #[.pointer none, .int .i64 n] w fun e w' => e = .returned (.tuple #[.pointer none, .int .i64 2]) ∧ w = w' := by
  go_enter Tryz.func9, Tryz.ntmps9
  go_wp2
  go_ret2
  exact ⟨rfl, rfl⟩
theorem walNil_walk (w : World) (T : Tab w) (n : Int) : Calls Tryz.prog 6 #[.int .i64 n] w fun e w' => e = .returned (.bool true) ∧ Fr No w w' := by
  have H1 := Lib.hid nil_first
  have H2 := Lib.hid nil_next
  have H3 := Lib.hid nil_get
  have H4 := Lib.hid nil_sync
  have H5 := Lib.hid nil_cut
  have H6 := Lib.hid nil_purge
  have H7 := Lib.hid nil_reset
  have H8 := Lib.hid nil_append
  have H9 := Lib.hid nil_open
  have HA := Lib.hid fun W (hW : Fr No w W) => awake_calls W (T.fr0 hW)
  go_enter Tryz.func6, Tryz.ntmps6
  go_upto_region 4 with (first
    | (go_at_call 9; (with_reducible refine (H9.out _ n).mono ?_); rintro e w1 ⟨rfl, rfl⟩)
    | (go_at_call 16; (with_reducible refine (H3.out _ n).mono ?_); rintro e w2 ⟨rfl, rfl⟩))
  go_wp2_with (first
    | (go_at_call 14; (with_reducible refine (H1.out _).mono ?_); rintro e w3 ⟨rfl, rfl⟩)
    | (go_at_call 15; (with_reducible refine (H2.out _).mono ?_); rintro e w4 ⟨rfl, rfl⟩)
    | (go_at_call 10; (with_reducible refine (H8.out _ _).mono ?_); rintro e w5 ⟨rfl, rfl⟩)
    | (go_at_call 17; (with_reducible refine (H4.out _).mono ?_); rintro e w6 ⟨rfl, rfl⟩)
    | (go_at_call 11; (with_reducible refine (H5.out _ n).mono ?_); rintro e w7 ⟨rfl, rfl⟩)
    | (go_at_call 18; (with_reducible refine (H6.out _ n).mono ?_); rintro e w8 ⟨rfl, rfl⟩)
    | (go_at_call 21; (with_reducible refine (H7.out _ n).mono ?_); rintro e w9 ⟨rfl, rfl⟩)
    | (go_at_call 7; (with_reducible refine (HA.out _ ((Fr.refl No w).alloc _)).mono ?_); rintro e w10 ⟨rfl, hf10⟩))
  go_ret
  exact ⟨rfl, ((Fr.refl No w).alloc _).trans0 hf10⟩
end Go.Proofs.YtillejdjghlicaaGreatDoor
