/- The law's texts and nums answer true where both sides read alike. -/
import Derived.Test.YtlomeohcgjgpjaaLeaU
import Derived.Test.YtlomeohcgjgpjaaRead
import Derived.Deep.RegionHeld3
import Derived.Deep.RegionLaw
import Derived.Deep.DeepCutAuto
import Derived.BigRegion
namespace Go.Proofs.Ytlomeohcgjgpjaa
open Go Go.Proofs Go.RowKit
set_option maxRecDepth 100000

theorem strC_len (s : ByteArray) : (strC s).length = 1 := rfl
theorem int1_len (n : Int) : (int1 n).length = 1 := rfl
set_option maxHeartbeats 1000000 in
theorem texts_calls (w : World) (u v : Value) (L : List ByteArray) (hu : SlR w 1 strC u L) (hv : SlR w 1 strC v L) :
    Calls Try.prog 18 #[u, v] w fun e w' => e = .returned (.bool true) ∧ Fr No w w' := by
  obtain ⟨a, ca, rfl, ha1, ha2, ha3⟩ := hu.shape
  obtain ⟨b, cb, rfl, hb1, hb2, hb3⟩ := hv.shape
  have HU := Lib.hid hu
  have HV := Lib.hid hv
  have HA := Lib.hid ha3
  have HB := Lib.hid hb3
  unfold maxLen at ha2 hb2
  clear hu hv ha3 hb3
  go_enter Try.func18, Try.ntmps18
  go_wp2
  go_loopg [5] L.length (fun g s5 wr => ∃ i : Nat, s5 = .int .i64 i ∧ i + g = L.length ∧ Hid (Fr No w wr))
  case atStart => exact ⟨0, rfl, by simp, Lib.hid (Fr.refl No w)⟩
  case round =>
    obtain ⟨i, rfl, hi, HF⟩ := hrel
    cases gk with
    | zero =>
      have hil : ¬ (i : Int) < (L.length : Int) := by omega
      go_wp2
      go_ret
      exact ⟨rfl, HF.out⟩
    | succ g =>
      have hil : (i : Int) < (L.length : Int) := by omega
      obtain ⟨x, hx⟩ : ∃ x, L[i]? = some x := ⟨_, List.getElem?_eq_getElem (by omega)⟩
      obtain ⟨ga, oa, rfl⟩ := HA.out (by omega)
      obtain ⟨gb, ob, rfl⟩ := HB.out (by omega)
      have f0 := (HU.out.fr0 HF.out).cell0 strC_len i hx rfl
      have q0 := (HV.out.fr0 HF.out).cell0 strC_len i hx rfl
      simp only [Nat.mul_one] at f0 q0
      have HF2 := Lib.hid HF.out.drew
      clear hx
      go_upto_region 6 with fail
      go_region
      all_goals
        go_wp2
        go_roundg g
        case rel => exact ⟨i + 1, by go_num, by omega, HF2⟩
        case measure => omega
set_option maxHeartbeats 1000000 in
theorem nums_calls (w : World) (u v : Value) (L : List Int) (hu : SlR w 1 int1 u L) (hv : SlR w 1 int1 v L) :
    Calls Try.prog 20 #[u, v] w fun e w' => e = .returned (.bool true) ∧ Fr No w w' := by
  obtain ⟨a, ca, rfl, ha1, ha2, ha3⟩ := hu.shape
  obtain ⟨b, cb, rfl, hb1, hb2, hb3⟩ := hv.shape
  have HU := Lib.hid hu
  have HV := Lib.hid hv
  have HA := Lib.hid ha3
  have HB := Lib.hid hb3
  unfold maxLen at ha2 hb2
  clear hu hv ha3 hb3
  go_enter Try.func20, Try.ntmps20
  go_wp2
  go_loopg [5] L.length (fun g s5 wr => ∃ i : Nat, s5 = .int .i64 i ∧ i + g = L.length ∧ Hid (Fr No w wr))
  case atStart => exact ⟨0, rfl, by simp, Lib.hid (Fr.refl No w)⟩
  case round =>
    obtain ⟨i, rfl, hi, HF⟩ := hrel
    cases gk with
    | zero =>
      have hil : ¬ (i : Int) < (L.length : Int) := by omega
      go_wp2
      go_ret
      exact ⟨rfl, HF.out⟩
    | succ g =>
      have hil : (i : Int) < (L.length : Int) := by omega
      obtain ⟨x, hx⟩ : ∃ x, L[i]? = some x := ⟨_, List.getElem?_eq_getElem (by omega)⟩
      obtain ⟨ga, oa, rfl⟩ := HA.out (by omega)
      obtain ⟨gb, ob, rfl⟩ := HB.out (by omega)
      have f0 := (HU.out.fr0 HF.out).cell0 int1_len i hx rfl
      have q0 := (HV.out.fr0 HF.out).cell0 int1_len i hx rfl
      simp only [Nat.mul_one] at f0 q0
      have HF2 := Lib.hid HF.out.drew
      clear hx
      go_upto_region 6 with fail
      go_region
      all_goals
        go_wp2
        go_roundg g
        case rel => exact ⟨i + 1, by go_num, by omega, HF2⟩
        case measure => omega
end Go.Proofs.Ytlomeohcgjgpjaa
