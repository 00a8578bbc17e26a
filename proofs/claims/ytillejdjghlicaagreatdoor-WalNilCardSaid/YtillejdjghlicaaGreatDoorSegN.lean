/- The names of segments: name, numbered. The condition: numbers have at most ten digits; the table of Go's library is there. -/
import Derived.Test.YtillejdjghlicaaGreatDoorSegL
import Derived.Test.YtillejdjghlicaaGreatDoorLayS
import GoSem.Claims
import Derived.KernelRfl
namespace Go.Proofs.YtillejdjghlicaaGreatDoor
open Go Go.Proofs Go.RowKit Go.WideElems Go.ChangeMaps Go.WideMaps Go.Shelf
set_option maxRecDepth 100000

theorem tab_block : Tryz.prog.globalNamed "internal/strconv.uint64pow10" = some 4 := by kernel_rfl
/-- Go's table of powers of ten is there. -/
def Tab (w : World) : Prop := Lib.TabIs Tryz.prog w "internal/strconv.uint64pow10" .u64 Lib.pow10Tab
theorem Tab.fr {X : Nat → Prop} {w w' : World} (h : Tab w) (hf : Fr X w w') (hx : ¬ X 4) : Tab w' := by
  unfold Tab Lib.TabIs World.var? at *
  rw [tab_block, Option.bind_some] at *
  cases hb : w.heap[4]? with
  | none => rw [hb] at h; cases h
  | some o => rw [hf.heap hb hx]; rw [hb] at h; exact h
theorem Tab.fr0 {w w' : World} (h : Tab w) (hf : Fr No w w') : Tab w' := h.fr hf fun h => h
theorem Tab.lt {w : World} (h : Tab w) : 4 < w.heap.size := by
  unfold Tab Lib.TabIs World.var? at h
  rw [tab_block, Option.bind_some] at h
  cases hb : w.heap[4]? with
  | none => rw [hb] at h; cases h
  | some o => exact heap_lt hb
theorem extraRep : Builder.Extra Tryz.prog layRep_ren where
  sizeBuilder := by kernel_rfl
  liesBuilder := by kernel_rfl
  t5 := Tryz.underlying5
  a5 := Tryz.isAgg5
  z5 := Tryz.sizeOf5
  v5 := Tryz.zeroValue5
  infoByte := by kernel_rfl
  cellsByte := by kernel_rfl
  sizeByte := by kernel_rfl
  neB5 := by decide
theorem fr_grow (w : World) (k : Nat) (os : Array Obj) : Fr No w (Go.Sort.grow (w.drewN k) os) :=
  ⟨rfl, rfl, rfl, by show w.heap.size ≤ (w.heap ++ os).size; rw [Array.size_append]; omega, fun i hi _ => by show (w.heap ++ os)[i]? = _; rw [Array.getElem?_append_left hi]⟩
theorem itoa_calls {w : World} (T : Tab w) (i : Nat) (h : i < 10000000000) : Calls Tryz.prog 47 #[.int .i64 i] w fun e w' => e = .returned (.string (toB (Lib.decDigits i))) ∧ Fr No w w' := by
  refine (Any.strconv_Itoa layItoa i (by omega) (by omega) w T).mono ?_
  rintro e w' ⟨rfl, k, os, rfl⟩
  rw [Lib.itoa_nonneg]
  exact ⟨rfl, fr_grow w k os⟩
theorem rep_calls (w : World) (c : Nat) (h : c ≤ 10) : Calls Tryz.prog 48 #[.string ⟨#[48]⟩, .int .i64 c] w fun e w' => e = .returned (.string (toB (Lib.repeatL [48] c))) ∧ Fr No w w' := by
  refine (Any.strings_Repeat layRep extraRep ⟨#[48]⟩ c w (by omega) (by show 1 * c ≤ _; omega)).mono ?_
  rintro e w' ⟨rfl, hb⟩
  exact ⟨rfl, Fr.of_below hb⟩
theorem size_decDigits {i : Nat} (h : i < 10000000000) : (toB (Lib.decDigits i)).size = Lib.nDigits i ∧ 1 ≤ Lib.nDigits i ∧ Lib.nDigits i ≤ 10 := by
  rw [toB_size, Lib.decDigits_length]
  refine ⟨rfl, Lib.nDigits_pos i, ?_⟩
  have hd := congrArg List.length (digs_pad 10 i (by decide) (by simpa using h))
  rw [List.length_append, Lib.repeatL_length, digs_length, Lib.decDigits_length, List.length_singleton] at hd
  omega
theorem name_calls {w : World} (T : Tab w) (i : Nat) (h : i < 10000000000) (sz : Int) : Calls Tryz.prog 30 #[.agg #[.int .i64 i, .int .i64 sz]] w fun e w' => e = .returned (.string (segB i)) ∧ Fr No w w' := by
  have hT1 := itoa_calls (T.fr0 ((Fr.refl No w).alloc (.cells #[.int .i64 i, .int .i64 sz] 54))) i h
  obtain ⟨z1, z2, z3⟩ := size_decDigits h
  have HR := Lib.hid fun W => rep_calls W (10 - Lib.nDigits i) (by omega)
  have HI := Lib.hid hT1
  have c0 := cellAt (alloc_at w (.cells #[.int .i64 i, .int .i64 sz] 54) _ rfl) 0 (v := .int .i64 i) rfl
  obtain ⟨D, hD⟩ : ∃ D, toB (Lib.decDigits i) = D := ⟨_, rfl⟩
  rw [hD] at HI z1
  have hc : ((10 - Lib.nDigits i : Nat) : Int) = 10 - (Lib.nDigits i : Int) := by omega
  rw [hc] at HR
  have hz : (toB (Lib.repeatL [48] (10 - Lib.nDigits i))).size ≤ 10 := by rw [toB_size, Lib.repeatL_length, List.length_singleton]; omega
  have HE : Hid ((⟨#[119, 97, 108, 45]⟩ ++ toB (Lib.repeatL [48] (10 - Lib.nDigits i)) : ByteArray) ++ D = segB i) := Lib.hid (by
    rw [← hD]
    unfold toB segB
    rw [segL_small h, ← digs_pad 10 i (by decide) (by simpa using h)]
    apply ByteArray.ext
    simp)
  obtain ⟨R, hR⟩ : ∃ R, toB (Lib.repeatL [48] (10 - Lib.nDigits i)) = R := ⟨_, rfl⟩
  rw [hR] at HR HE hz
  have hz4 : (⟨#[119, 97, 108, 45]⟩ : ByteArray).size = 4 := rfl
  have hz5 : (⟨#[119, 97, 108, 45]⟩ ++ R : ByteArray).size ≤ 14 := by rw [ByteArray.size_append]; omega
  have hs1 : ¬ (9223372036854775807 < (⟨#[119, 97, 108, 45]⟩ : ByteArray).size + R.size) := by omega
  have hs2 : ¬ (9223372036854775807 < (⟨#[119, 97, 108, 45]⟩ ++ R : ByteArray).size + D.size) := by omega
  clear hT1 hD hR
  go_enter Tryz.func30, Tryz.ntmps30
  go_wp2_with (first
    | (go_at_call 47; (with_reducible refine HI.out.mono ?_); rintro e w1 ⟨rfl, hf1⟩)
    | (go_at_call 48; (with_reducible refine (HR.out _).mono ?_); rintro e w2 ⟨rfl, hf2⟩))
  go_ret
  exact ⟨by rw [HE.out]; rfl, (((Fr.refl No w).alloc _).trans0 hf1).trans0 hf2⟩
theorem fr_bytesWorld (w : World) (e : TypeId) (t : ByteArray) : Fr No w (Lib.bytesWorld w e t) :=
  ⟨rfl, rfl, rfl, by rw [Lib.bytesWorld_size]; omega, fun k hk _ => Lib.bytesWorld_at_old w e t k hk⟩
theorem numbered_calls (w : World) (i : Nat) (h : i < 10000000000) : Calls Tryz.prog 23 #[.string (segB i)] w fun e w' => e = .returned (.int .i64 i) ∧ Fr No w w' := by
  have hsl := segL_small h
  have h1 : ∀ W, Calls Tryz.prog 40 #[.string (segB i), .string ⟨#[119, 97, 108, 45]⟩] W fun e w' => e = .returned (.tuple #[.string (toB (digs 10 i)), .bool true]) ∧ w' = W := fun W => by
    refine (Any.strings_CutPrefix layCutp (segB i) ⟨#[119, 97, 108, 45]⟩ W).mono ?_
    rintro e w' ⟨rfl, rfl⟩
    have e1 : (segB i).data.toList = [119, 97, 108, 45] ++ digs 10 i := by rw [← hsl]; exact txt_segB i
    have e2 : Lib.hasPrefix ([119, 97, 108, 45] ++ digs 10 i) [119, 97, 108, 45] = true := by
      unfold Lib.hasPrefix
      rw [List.isPrefixOf_iff_prefix]
      exact List.prefix_append _ _
    have e3 : Lib.trimPrefix ([119, 97, 108, 45] ++ digs 10 i) [119, 97, 108, 45] = digs 10 i := by
      unfold Lib.trimPrefix
      rw [e2, if_pos rfl]
      rfl
    rw [e1]
    refine ⟨?_, rfl⟩
    show Ending.returned (.tuple #[.string ⟨(Lib.trimPrefix ([119, 97, 108, 45] ++ digs 10 i) [119, 97, 108, 45]).toArray⟩, .bool (Lib.hasPrefix ([119, 97, 108, 45] ++ digs 10 i) [119, 97, 108, 45])]) = _
    rw [e2, e3]
    rfl
  have hds : (toB (digs 10 i)).size = 10 := by rw [toB_size, digs_length]
  have h2 : ∀ W, Calls Tryz.prog 41 #[.string (toB (digs 10 i)), .string ⟨#[48, 49, 50, 51, 52, 53, 54, 55, 56, 57]⟩] W fun e w' => e = .returned (.string ⟨#[]⟩) ∧ Fr No W w' := fun W => by
    refine (Any.strings_Trim_laid layTrim (by kernel_rfl) (toB (digs 10 i)) ⟨#[48, 49, 50, 51, 52, 53, 54, 55, 56, 57]⟩ W (by omega) (by decide) (ascii_of_all (by decide))).mono ?_
    rintro e w' ⟨rfl, hb⟩
    refine ⟨?_, Fr.of_below hb⟩
    have : Lib.trimS (toB (digs 10 i)).data.toList [48, 49, 50, 51, 52, 53, 54, 55, 56, 57] = [] := by
      show Lib.trimS (txt (toB (digs 10 i))) _ = []
      rw [txt_toB, digs_trim]
    show Ending.returned (.string ⟨(Lib.trimS (toB (digs 10 i)).data.toList [48, 49, 50, 51, 52, 53, 54, 55, 56, 57]).toArray⟩) = _
    rw [this]
  have h3 : ∀ W, Calls Tryz.prog 42 #[.string (toB (digs 10 i))] W fun e w' => e = .returned (.tuple #[.int .i64 i, .nilIface]) ∧ Fr No W w' := fun W => by
    refine (Any.strconv_Atoi layAtoi (toB (digs 10 i)) i (by omega) (by show Lib.atoi (txt (toB (digs 10 i))) = _; rw [txt_toB]; exact digs_atoi (by decide) (by simpa using h)) W).mono ?_
    rintro e w' ⟨rfl, t, rfl⟩
    exact ⟨rfl, fr_bytesWorld _ _ _⟩
  have H1 := Lib.hid h1
  have H2 := Lib.hid h2
  have H3 := Lib.hid h3
  generalize toB (digs 10 i) = D at *
  clear h1 h2 h3 hsl
  go_enter Tryz.func23, Tryz.ntmps23
  go_wp2_with (first
    | (go_at_call 40; (with_reducible refine (H1.out _).mono ?_); rintro e w1 ⟨rfl, rfl⟩)
    | (go_at_call 41; (with_reducible refine (H2.out _).mono ?_); rintro e w2 ⟨rfl, hf2⟩)
    | (go_at_call 42; (with_reducible refine (H3.out _).mono ?_); rintro e w3 ⟨rfl, hf3⟩))
  go_ret
  exact ⟨rfl, hf2.trans0 hf3⟩
end Go.Proofs.YtillejdjghlicaaGreatDoor
