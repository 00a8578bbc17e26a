/- Frames in memory: a head's bytes, Frame. The condition: the body is not too long. -/
import Derived.Test.YtillejdjghlicaaGreatDoorAppK
import Derived.Test.YtillejdjghlicaaGreatDoorSum
import Derived.Test.YtillejdjghlicaaGreatDoorDkM
namespace Go.Proofs.YtillejdjghlicaaGreatDoor
open Go Go.Proofs Go.RowKit
set_option maxRecDepth 100000

theorem byte_at (n Q : Nat) : u8C (UInt8.ofNat (n / Q % 256)) = [.int .u8 ((n : Int) / (Q : Int) % 256)] := by
  unfold u8C
  have : (UInt8.ofNat (n / Q % 256)).toNat = n / Q % 256 := by rw [UInt8.toNat_ofNat']; omega
  rw [this]
  rfl
theorem leB_cells {n : Nat} (hn : n < 4294967296) : (leB n).flatMap u8C = [.int .u8 ((n : Int) % 256), .int .u8 ((n : Int) / 256 % 256), .int .u8 ((n : Int) / 65536 % 256), .int .u8 ((n : Int) / 16777216)] := by
  have h0 := byte_at n 1
  have h1 := byte_at n 256
  have h2 := byte_at n 65536
  have h3 := byte_at n 16777216
  rw [Nat.div_one, show (((1 : Nat) : Int)) = 1 from rfl, Int.ediv_one] at h0
  have e3 : (n : Int) / (16777216 : Nat) % 256 = (n : Int) / 16777216 := by omega
  rw [e3] at h3
  unfold leB
  rw [List.flatMap_cons, List.flatMap_cons, List.flatMap_cons, List.flatMap_cons, h0, h1, h2, h3]
  rfl
set_option maxHeartbeats 8000000 in
theorem laid_calls (w : World) (size sum : Nat) (h1 : size < 4294967296) (h2 : sum < 4294967296) :
    Calls Tryz.prog 45 #[.agg #[.int .i64 size, .int .u32 sum]] w fun e w' => e = .returned (.string (toB (leB size ++ leB sum))) ∧ Fr No w w' := by
  obtain ⟨i0, hi, hz0, hz1, hz2⟩ := info_parts infoU8
  have hmk : ∀ W, (Instr.makeSlice 98 (.int .i64 0) (.int .i64 8)).run Tryz.prog W = .ok (.slice (some ⟨W.heap.size, 0, none⟩) 0 8) (W.alloc (.cells #[.int .u8 0, .int .u8 0, .int .u8 0, .int .u8 0, .int .u8 0, .int .u8 0, .int .u8 0, .int .u8 0] 5)) := fun _ => by kernel_rfl
  have hw1 : (size : Int) % 4294967296 = size := by omega
  have hb0 := alloc_at w (.cells #[.int .i64 size, .int .u32 sum] 79) _ rfl
  have hsl0 : SlF ((w.alloc (.cells #[.int .i64 size, .int .u32 sum] 79)).alloc (.cells #[.int .u8 0, .int .u8 0, .int .u8 0, .int .u8 0, .int .u8 0, .int .u8 0, .int .u8 0, .int .u8 0] 5)) 5 1 u8C (.slice (some ⟨(w.alloc (.cells #[.int .i64 size, .int .u32 sum] 79)).heap.size, 0, none⟩) 0 8) [] :=
    ⟨rfl, .inr ⟨_, 0, 8, _, rfl, alloc_at _ _ _ rfl, by decide, by decide, by decide, rfl⟩⟩
  have hsz : ∀ o : Obj, (w.alloc o).heap.size = w.heap.size + 1 := fun o => by simp
  have hsl := hsl0.alloc (.cells #[.int .u32 size, .int .u32 sum] 76)
  have harr := alloc_at ((w.alloc (.cells #[.int .i64 size, .int .u32 sum] 79)).alloc (.cells #[.int .u8 0, .int .u8 0, .int .u8 0, .int .u8 0, .int .u8 0, .int .u8 0, .int .u8 0, .int .u8 0] 5)) (.cells #[.int .u32 size, .int .u32 sum] 76) (w.heap.size + 2) (by simp)
  have hfr : Fr No w (((w.alloc (.cells #[.int .i64 size, .int .u32 sum] 79)).alloc (.cells #[.int .u8 0, .int .u8 0, .int .u8 0, .int .u8 0, .int .u8 0, .int .u8 0, .int .u8 0, .int .u8 0] 5)).alloc (.cells #[.int .u32 size, .int .u32 sum] 76)) := (((Fr.refl No w).alloc _).alloc _).alloc _
  rw [hsz] at hsl
  have HSL := Lib.hid hsl
  have HARR := Lib.hid harr
  have HFR := Lib.hid hfr
  have c0 := cellAt hb0 0 (v := .int .i64 size) rfl
  have c1 := cellAt hb0 1 (v := .int .u32 sum) rfl
  clear hsl hsl0 harr hfr hb0 hsz
  go_enter Tryz.func45, Tryz.ntmps45
  go_upto_region 3 with fail
  generalize hW0 : (((w.alloc (.cells #[.int .i64 size, .int .u32 sum] 79)).alloc (.cells #[.int .u8 0, .int .u8 0, .int .u8 0, .int .u8 0, .int .u8 0, .int .u8 0, .int .u8 0, .int .u8 0] 5)).alloc (.cells #[.int .u32 size, .int .u32 sum] 76)) = W0 at *
  have HS0 : Hid (W0.heap.size = w.heap.size + 3) := Lib.hid (by rw [← hW0]; simp)
  clear hW0 c0 c1
  go_loopg [3, 14] 2 (fun g s3 s14 wr => ∃ (k : Nat) (O : List UInt8), s14 = .int .i64 k ∧ k + g = 2 ∧ Hid (O = (leB size ++ leB sum).take (4 * k)) ∧ Hid (SlF wr 5 1 u8C s3 O) ∧ Hid (Fr (fun b => b = w.heap.size + 1) W0 wr) ∧ Hid (∀ x, s3.ownBlock = some x → x = w.heap.size + 1 ∨ W0.heap.size ≤ x))
  case atStart => exact ⟨0, [], rfl, rfl, Lib.hid rfl, HSL, Lib.hid (Fr.refl _ _), Lib.hid (by intro x hx; simp [Value.ownBlock] at hx; omega)⟩
  case round =>
    obtain ⟨k, O, rfl, hk, HE, HO, HF, HN⟩ := hrel
    have harr := HF.out.heap HARR.out (by omega)
    have c0 := cellAt harr 0 (v := .int .u32 size) rfl
    have c1 := cellAt harr 1 (v := .int .u32 sum) rfl
    have la := heap_lt harr
    clear harr
    cases gk with
    | zero =>
      have hk2 : k = 2 := by omega
      subst hk2
      have hO := HE.out
      rw [List.take_of_length_le (by rw [List.length_append, leB_length, leB_length]; decide)] at hO
      have hcv := slF_string HO.out (by rw [hO, List.length_append, leB_length, leB_length]; decide)
      rw [hO] at hcv
      have HFF : Hid (Fr No w wr) := Lib.hid (HFR.out.trans HF.out fun j hj e => by omega)
      clear hO
      go_wp2_with fail
      go_ret
      exact ⟨rfl, HFF.out⟩
    | succ q =>
      rcases (show k = 0 ∨ k = 1 by omega) with rfl | rfl
      · have HL := Lib.hid (leB_cells h1)
        have HOL : Hid (O.length = 4 * 0) := Lib.hid (by rw [HE.out, List.length_take, List.length_append, leB_length, leB_length]; omega)
        have HEN : Hid (O ++ leB size = (leB size ++ leB sum).take (4 * 1)) := Lib.hid (by rw [HE.out]; rfl)
        go_upto_region 6 with (at_builtin; refine wpList_append_sl rfl _ _ 98 rfl 5 i0 _ 1 1 Tryz.underlying98 hi hz0 hz1 hz2 rfl (by decide) _ O.length (O.flatMap u8C) rfl (SlF.alloc HO.out _) ⟨wr.heap.size, 0, none⟩ 4 4 [.int .u8 (size % 256), .int .u8 (size / 256 % 256), .int .u8 (size / 65536 % 256), .int .u8 (size / 16777216)] rfl rfl (by decide) (cells_new wr _ 5 (0, 0)) (by intro u hu; simp at hu; rcases hu with rfl | rfl | rfl | rfl <;> rfl) (by have := HOL.out; unfold maxLen; omega) (by have := HOL.out; omega) ?_; intro g o' cap w2 hO2 hg2 ho2 hl2)
        have HO2 : Hid (SlF w2 5 1 u8C (.slice (some ⟨g, o', none⟩) (O.length + 4) cap) (O ++ leB size)) := Lib.hid (by
          unfold SlF
          rw [List.length_append, leB_length, List.flatMap_append, HL.out]
          exact hO2)
        have HF2 : Hid (Fr (fun b => b = w.heap.size + 1) W0 w2) := Lib.hid ((HF.out.alloc _).grown hg2 HN.out)
        have HN2 : Hid (g = w.heap.size + 1 ∨ W0.heap.size ≤ g) := Lib.hid (by
          have hsz := HF.out.size
          rcases ho2 with h | h
          · exact HN.out g h
          · rw [h]; right; simp; omega)
        clear hO2 hg2 ho2
        go_wp2
        go_roundg q
        case rel => exact ⟨1, O ++ leB size, by go_num, by omega, HEN, HO2, HF2, Lib.hid (by intro x hx; simp [Value.ownBlock] at hx; subst hx; exact HN2.out)⟩
        case measure => omega
      · have HL := Lib.hid (leB_cells h2)
        have HOL : Hid (O.length = 4 * 1) := Lib.hid (by rw [HE.out, List.length_take, List.length_append, leB_length, leB_length]; omega)
        have HEN : Hid (O ++ leB sum = (leB size ++ leB sum).take (4 * 2)) := Lib.hid (by rw [HE.out]; rfl)
        go_upto_region 6 with (at_builtin; refine wpList_append_sl rfl _ _ 98 rfl 5 i0 _ 1 1 Tryz.underlying98 hi hz0 hz1 hz2 rfl (by decide) _ O.length (O.flatMap u8C) rfl (SlF.alloc HO.out _) ⟨wr.heap.size, 0, none⟩ 4 4 [.int .u8 (sum % 256), .int .u8 (sum / 256 % 256), .int .u8 (sum / 65536 % 256), .int .u8 (sum / 16777216)] rfl rfl (by decide) (cells_new wr _ 5 (0, 0)) (by intro u hu; simp at hu; rcases hu with rfl | rfl | rfl | rfl <;> rfl) (by have := HOL.out; unfold maxLen; omega) (by have := HOL.out; omega) ?_; intro g o' cap w2 hO2 hg2 ho2 hl2)
        have HO2 : Hid (SlF w2 5 1 u8C (.slice (some ⟨g, o', none⟩) (O.length + 4) cap) (O ++ leB sum)) := Lib.hid (by
          unfold SlF
          rw [List.length_append, leB_length, List.flatMap_append, HL.out]
          exact hO2)
        have HF2 : Hid (Fr (fun b => b = w.heap.size + 1) W0 w2) := Lib.hid ((HF.out.alloc _).grown hg2 HN.out)
        have HN2 : Hid (g = w.heap.size + 1 ∨ W0.heap.size ≤ g) := Lib.hid (by
          have hsz := HF.out.size
          rcases ho2 with h | h
          · exact HN.out g h
          · rw [h]; right; simp; omega)
        clear hO2 hg2 ho2
        go_wp2
        go_roundg q
        case rel => exact ⟨2, O ++ leB sum, by go_num, by omega, HEN, HO2, HF2, Lib.hid (by intro x hx; simp [Value.ownBlock] at hx; subst hx; exact HN2.out)⟩
        case measure => omega
set_option maxHeartbeats 4000000 in
theorem frame_calls (w : World) (b : List UInt8) (hb : BodyOk b) : Calls Tryz.prog 25 #[.string (toB b)] w fun e w' => e = .returned (.tuple #[.string (toB (frmB sumS b)), .int .i64 0]) ∧ Fr No w w' := by
  obtain ⟨b1, b2⟩ := hb
  have hsz := toB_size b
  have HS := Lib.hid fun W => sum_calls W (toB b) (by omega)
  rw [txt_toB] at HS
  have HL := Lib.hid fun W => laid_calls W b.length (sumS b) (by omega) (sumS_lt b)
  have HE : Hid (toB (leB b.length ++ leB (sumS b)) ++ toB b = toB (frmB sumS b)) := Lib.hid (by
    rw [toB_append]
    unfold frmB
    rw [List.append_assoc])
  have hs1 : ¬ (9223372036854775807 < (toB (leB b.length ++ leB (sumS b))).size + (toB b).size) := by rw [toB_size, toB_size, List.length_append, leB_length, leB_length]; omega
  have hne : (toB b).toList.isEmpty = false := by
    rw [Lib.toList_data]
    show (txt (toB b)).isEmpty = false
    rw [txt_toB]
    cases b with
    | nil => simp at b1
    | cons => rfl
  have hgt : ¬ (b.length : Int) > 65536 := by omega
  generalize toB (leB b.length ++ leB (sumS b)) = X at *
  generalize toB (frmB sumS b) = Y at *
  generalize toB b = B at *
  generalize b.length = n at *
  go_enter Tryz.func25, Tryz.ntmps25
  go_wp2_with (first
    | (go_at_call 44; (with_reducible refine (HS.out _).mono ?_); rintro e w1 ⟨rfl, hf1⟩)
    | (go_at_call 45; (with_reducible refine (HL.out _).mono ?_); rintro e w2 ⟨rfl, hf2⟩))
  go_ret2
  exact ⟨by rw [HE.out]; rfl, hf1.trans0 hf2⟩
end Go.Proofs.YtillejdjghlicaaGreatDoor
