/- The table's find, begin and Of. The condition: the table lies in memory; the clock is small. -/
import Derived.Test.YtlomeohcgjgpjaaLeaN
import Derived.StillTail
import Derived.StillTailTactics
namespace Go.Proofs.Ytlomeohcgjgpjaa
open Go Go.Proofs Go.RowKit
set_option maxRecDepth 100000

theorem zero69 (w : World) : (zeroValue 69).run Try.prog w = .ok (.pointer none) w := by kernel_rfl
theorem zero3 (w : World) : (zeroValue 3).run Try.prog w = .ok (.int .i64 0) w := by kernel_rfl
theorem wf64 {a : Int} (h0 : -9223372036854775808 ≤ a) (h1 : a ≤ 9223372036854775807) : (Lit.int .i64 a).wf = true := by
  simp [Lit.wf, IntKind.min, IntKind.max, IntKind.signed, IntKind.bits]
  omega
def ptrO (p : Option Nat) : Value := .pointer (p.map fun b => ⟨b, 0, none⟩)
/-- What find answers. -/
def findV (p : Option Nat) : Value := .tuple #[ptrO p, .int .i64 (if p.isSome then 0 else 35)]
theorem look_hp {hp : Int → Option Nat} (id : Int) : (((hp id).map fun h => Value.pointer (some ⟨h, 0, none⟩)).getD (.pointer none)) = ptrO (hp id) := by
  unfold ptrO
  cases hp id <;> rfl
theorem find_nil (w : World) (id : Int) : Calls Try.prog 36 #[.pointer none, .int .i64 id] w fun e w' => e = .returned (.tuple #[.pointer none, .int .i64 2]) ∧ w = w' := by
  go_enter Try.func36, Try.ntmps36
  go_wp2
  go_ret2
  exact ⟨rfl, rfl⟩
set_option maxHeartbeats 1000000 in
theorem find_calls {w : World} {t m o : Nat} {qv : Value} {hp : Int → Option Nat} {FL : Int → Nat → Prop} {T : LT} (a : LeaR w t m o qv hp FL T) (id : Int) (hwf : (Lit.int .i64 id).wf = true) :
    Calls Try.prog 36 #[.pointer (some ⟨t, 0, none⟩), .int .i64 id] w fun e w' => e = .returned (findV (hp id)) ∧ w = w' := by
  have c0 := a.obj.cell 0 rfl
  have lt := a.obj.lt
  have hk := look_hp (hp := hp) id
  have HK := Lib.hid hk
  have HM := Lib.hid a.map
  have HW := Lib.hid hwf
  clear a hk hwf
  unfold findV
  cases hq : hp id with
  | none =>
    have hk2 := HK.out
    rw [hq] at hk2
    have HK2 : Hid (((fun i => (hp i).map fun h => Value.pointer (some ⟨h, 0, none⟩)) id).getD (.pointer none) = .pointer none) := Lib.hid (by dsimp only; rw [hq]; exact hk2)
    clear hk2 HK hq
    go_enter Try.func36, Try.ntmps36
    go_wp2_with (at_lookup; refine wpList_look rfl _ _ 63 rfl 3 69 Try.underlying63 Try.underlying3 m _ rfl HM.out id rfl HW.out _ (zero69 _) _ HK2.out ?_)
    go_ret2
    exact ⟨rfl, rfl⟩
  | some p =>
    have hk2 := HK.out
    rw [hq] at hk2
    have HK2 : Hid (((fun i => (hp i).map fun h => Value.pointer (some ⟨h, 0, none⟩)) id).getD (.pointer none) = .pointer (some ⟨p, 0, none⟩)) := Lib.hid (by dsimp only; rw [hq]; exact hk2)
    clear hk2 HK hq
    go_enter Try.func36, Try.ntmps36
    go_wp2_with (at_lookup; refine wpList_look rfl _ _ 63 rfl 3 69 Try.underlying63 Try.underlying3 m _ rfl HM.out id rfl HW.out _ (zero69 _) _ HK2.out ?_)
    go_ret2
    exact ⟨rfl, rfl⟩
theorem Of_nil (w : World) (key : ByteArray) : Calls Try.prog 15 #[.pointer none, .string key] w fun e w' => e = .returned (.int .i64 0) ∧ w = w' := by
  go_enter Try.func15, Try.ntmps15
  go_wp2
  go_ret
  exact ⟨rfl, rfl⟩
theorem look_of (L : List (Int × Ls)) (key : ByteArray) : (((ofL L key).map (Value.int .i64)).getD (.int .i64 0)) = .int .i64 ((ofL L key).getD 0) := by
  cases ofL L key <;> rfl
set_option maxHeartbeats 1000000 in
theorem Of_calls {w : World} {t m o : Nat} {qv : Value} {hp : Int → Option Nat} {FL : Int → Nat → Prop} {T : LT} (a : LeaR w t m o qv hp FL T) (key : ByteArray) (hk : key.size ≤ maxLen) :
    Calls Try.prog 15 #[.pointer (some ⟨t, 0, none⟩), .string key] w fun e w' => e = .returned (.int .i64 (ofR T.view key)) ∧ w = w' := by
  have c0 := a.obj.cell 1 rfl
  have lt := a.obj.lt
  have hv : ofR T.view key = (ofL T.L key).getD 0 := ofL_view _ _ _
  rw [hv]
  have hl := look_of T.L key
  have HL := Lib.hid hl
  have HM := Lib.hid a.of
  have HW := Lib.hid hk
  clear a hk hl hv
  generalize (ofL T.L key).getD 0 = r at *
  go_enter Try.func15, Try.ntmps15
  go_wp2_with (at_lookup; refine wpList_lookS rfl _ _ 64 rfl 9 3 Try.underlying64 Try.underlying9 o _ rfl HM.out key rfl HW.out _ (zero3 _) _ HL.out ?_)
  go_ret
  exact ⟨rfl, rfl⟩
end Go.Proofs.Ytlomeohcgjgpjaa
