/- Own lemmas and contracts that the claim's proof needs, laid together. The conditions stand in each. -/
import Derived.Test.YthljnnjpmdgkoaaGreatG14
import Derived.Test.YthljnnjpmdgkoaaGreatG02
import Derived.Deep.CutBlock
import Derived.Deep.RegionHeld3
namespace Go.Proofs.YthljnnjpmdgkoaaGreat
open Go Go.Proofs Go.RowKit Go.PlainAid
set_option maxRecDepth 100000
theorem zvz (s : ByteArray) (h : bt s 0 < 128) (hs : 0 < s.size) : oneOf s = 1 := by
 have h0 := bt_nonneg s 0; have hN : leadN (bt s 0) = 1 := by unfold leadN; rw [if_neg (by omega), if_neg (by omega), if_neg (by omega)]
 have hV : leadV (bt s 0) = bt s 0 := by unfold leadV; rw [if_neg (by omega), if_neg (by omega), if_neg (by omega)]
 have hL : leadL (bt s 0) = 0 := by unfold leadL; rw [if_neg (by omega), if_neg (by omega), if_neg (by omega)]
 unfold oneOf; rw [hN, hV, hL, if_neg (by omega), if_neg (by omega)]
 show (if bt s 0 < 0 ∨ 1114111 < bt s 0 ∨ (55296 ≤ bt s 0 ∧ bt s 0 ≤ 57343) then 0 else 1) = 1
 rw [if_neg (by omega)]
theorem zvy (s : ByteArray) (h : 128 ≤ bt s 0) (h' : bt s 0 < 192) : oneOf s = 0 := by
 unfold oneOf; rw [if_pos ⟨h, h'⟩]
theorem zuj (s : ByteArray) (h : 248 ≤ bt s 0) : oneOf s = 0 := by
 unfold oneOf; rw [if_neg (by omega), if_pos (.inl h)]
theorem zkc (s : ByteArray) (n : Nat) (v0 least : Int) (hN : leadN (bt s 0) = n) (hV : leadV (bt s 0) = v0) (hL : leadL (bt s 0) = least) (h1 : 192 ≤ bt s 0) (h2 : bt s 0 < 248) :
 oneOf s = if s.size < n then 0 else match contK s (n - 1) 1 v0 with
  | none => 0
  | some v => if v < least ∨ 1114111 < v ∨ (55296 ≤ v ∧ v ≤ 57343) then 0 else n := by
 unfold oneOf; rw [hN, hV, hL, if_neg (by omega)]; by_cases h : s.size < n
 · rw [if_pos (.inr h), if_pos h]
 · rw [if_neg (by omega), if_neg h]
   rfl
theorem zkl (s : ByteArray) (g i : Nat) (v : Int) (h : bt s i < 128 ∨ 191 < bt s i) : contK s (g + 1) i v = none := by
 rw [contK]; rw [if_pos h]
theorem zkm (s : ByteArray) (g i : Nat) (v : Int) (h : ¬ (bt s i < 128 ∨ 191 < bt s i)) : contK s (g + 1) i v = contK s g (i + 1) (v * 64 + bt s i - 128) := by
 rw [contK]; rw [if_neg h]
set_option maxHeartbeats 8000000 in
theorem zqj (w : World) (s : ByteArray) (hs : 0 < s.size) : Calls Tryz.prog 164 #[.string s] w fun e w' => e = .returned (.int .i64 (oneOf s : Int)) ∧ w = w' := by
 have hb := get_bt s; have hc0 := bt_nonneg s 0; have hc1 := bt_le s 0; have hsz : (0 : Int) < (s.size : Int) := by omega
 by_cases a1 : bt s 0 < 128
 · have e1 := zvz s a1 hs
   have E1 := H_ e1; clear e1; go_enter Tryz.func164, Tryz.ntmps164; go_wp2
   go_loopg [5, 7] 0 (fun g s5 s7 wr => g = 0 ∧ s5 = .int .i64 (bt s 0) ∧ s7 = .int .i64 1 ∧ w = wr)
   case atStart => exact ⟨rfl, rfl, rfl, rfl⟩
   case round =>
    obtain ⟨rfl, rfl, rfl, rfl⟩ := hrel; go_wp2; go_ret; exact ⟨by rw [E1.out]; rfl, rfl⟩
 by_cases a2 : bt s 0 < 192
 · have e1 := zvy s (by omega) a2
   have E1 := H_ e1; clear e1; go_enter Tryz.func164, Tryz.ntmps164; go_wp2; go_ret; exact ⟨by rw [E1.out]; rfl, rfl⟩
 by_cases a5 : 248 ≤ bt s 0
 · have e1 := zuj s a5
   have E1 := H_ e1; clear e1; go_enter Tryz.func164, Tryz.ntmps164; go_wp2; go_ret; exact ⟨by rw [E1.out]; rfl, rfl⟩
 by_cases a3 : bt s 0 < 224
 · have e1 := zkc s 2 (bt s 0 - 192) 128 (by unfold leadN; rw [if_neg (by omega), if_neg (by omega), if_pos (by omega)]) (by unfold leadV; rw [if_neg (by omega), if_neg (by omega), if_pos (by omega)]) (by unfold leadL; rw [if_neg (by omega), if_neg (by omega), if_pos (by omega)]) (by omega) (by omega)
   have E1 := H_ e1; clear e1; by_cases hn : s.size < 2
   · have hn' : (s.size : Int) < 2 := by omega
     have e2 : oneOf s = 0 := (by rw [E1.out, if_pos hn]); have E2 := H_ e2; clear e2; go_enter Tryz.func164, Tryz.ntmps164; go_wp2; go_ret; exact ⟨by rw [E2.out]; rfl, rfl⟩
   · have hn' : ¬ (s.size : Int) < 2 := by omega
     rw [if_neg hn] at E1; go_enter Tryz.func164, Tryz.ntmps164; go_wp2
     go_loopg [5, 7] 1 (fun g s5 s7 wr => ∃ (i : Nat) (v : Int), s5 = .int .i64 v ∧ s7 = .int .i64 i ∧ 1 ≤ i ∧ i + g = 2 ∧ 0 ≤ v ∧ (i = 1 → v ≤ 31) ∧ (i = 2 → v ≤ 2047) ∧ (i = 3 → v ≤ 131071) ∧ v ≤ 8388607 ∧ Hid (contK s 1 1 (bt s 0 - 192) = contK s g i v) ∧ w = wr)
     case atStart => exact ⟨1, bt s 0 - 192, rfl, rfl, by omega, by omega, by omega, by omega, by omega, by omega, by omega, H_ rfl, rfl⟩
     case round =>
      obtain ⟨i, v, rfl, rfl, hi1, hi, hv0, hv1, hv2, hv3, hv4, HK, rfl⟩ := hrel
      cases gk with
      | zero =>
        have hil : ¬ (i : Int) < 2 := (by omega); have e3 : oneOf s = if v < 128 ∨ 1114111 < v ∨ (55296 ≤ v ∧ v ≤ 57343) then 0 else 2 := (by rw [E1.out, HK.out]; rfl); have E3 := H_ e3; clear e3; clear hv1 hv2 hv3; by_cases t1 : v < 128
        · have e4 : oneOf s = 0 := by rw [E3.out, if_pos (by omega)]
          have E4 := H_ e4; clear e4; go_wp2; go_ret; exact ⟨by rw [E4.out]; rfl, rfl⟩
        by_cases t2 : 1114111 < v
        · have e4 : oneOf s = 0 := by rw [E3.out, if_pos (by omega)]
          have E4 := H_ e4; clear e4; go_wp2; go_ret; exact ⟨by rw [E4.out]; rfl, rfl⟩
        by_cases t3 : 55296 ≤ v
        · by_cases t4 : v ≤ 57343
          · have e4 : oneOf s = 0 := by rw [E3.out, if_pos (by omega)]
            have E4 := H_ e4; clear e4; go_wp2; go_ret; exact ⟨by rw [E4.out]; rfl, rfl⟩
          · have e4 : oneOf s = 2 := by rw [E3.out, if_neg (by omega)]
            have E4 := H_ e4; clear e4; go_wp2; go_ret; exact ⟨by rw [E4.out]; rfl, rfl⟩
        · have e4 : oneOf s = 2 := by rw [E3.out, if_neg (by omega)]
          have E4 := H_ e4; clear e4; go_wp2; go_ret; exact ⟨by rw [E4.out]; rfl, rfl⟩
      | succ g =>
        have hil : (i : Int) < 2 := (by omega); have his : (i : Int) < (s.size : Int) := (by omega); have his' : i < s.size := (by omega); have hd0 := bt_nonneg s i; have hd1 := bt_le s i; have hvb : v ≤ 131071 := (by omega); have N1 := H_ (zkl s g i v); have N2 := H_ (zkm s g i v); have hv1' : i = 1 → v * 64 + bt s i - 128 ≤ 2047 ∨ ¬ bt s i ≤ 191 := (by omega); have hv2' : i = 2 → v * 64 + bt s i - 128 ≤ 131071 ∨ ¬ bt s i ≤ 191 := (by omega); have HV1 := H_ hv1'; have HV2 := H_ hv2'; clear hv1 hv2 hv3 hv1' hv2'; by_cases t1 : bt s i < 128
        · have e4 : oneOf s = 0 := by rw [E1.out, HK.out, N1.out (.inl t1)]
          have E4 := H_ e4; clear e4; go_wp2; go_ret; exact ⟨by rw [E4.out]; rfl, rfl⟩
        by_cases t2 : 191 < bt s i
        · have e4 : oneOf s = 0 := by rw [E1.out, HK.out, N1.out (.inr t2)]
          have E4 := H_ e4; clear e4; go_wp2; go_ret; exact ⟨by rw [E4.out]; rfl, rfl⟩
        go_wp2; go_roundg g
        case rel => exact ⟨i + 1, v * 64 + bt s i - 128, by go_num, by go_num, by omega, by omega, by omega, by omega, fun h => by have := HV1.out (by omega); omega, fun h => by have := HV2.out (by omega); omega, by omega, H_ (by rw [HK.out, N2.out (by omega)]), rfl⟩
        case measure => omega
 by_cases a4 : bt s 0 < 240
 · have e1 := zkc s 3 (bt s 0 - 224) 2048 (by unfold leadN; rw [if_neg (by omega), if_pos (by omega)]) (by unfold leadV; rw [if_neg (by omega), if_pos (by omega)]) (by unfold leadL; rw [if_neg (by omega), if_pos (by omega)]) (by omega) (by omega)
   have E1 := H_ e1; clear e1; by_cases hn : s.size < 3
   · have hn' : (s.size : Int) < 3 := by omega
     have e2 : oneOf s = 0 := (by rw [E1.out, if_pos hn]); have E2 := H_ e2; clear e2; go_enter Tryz.func164, Tryz.ntmps164; go_wp2; go_ret; exact ⟨by rw [E2.out]; rfl, rfl⟩
   · have hn' : ¬ (s.size : Int) < 3 := by omega
     rw [if_neg hn] at E1; go_enter Tryz.func164, Tryz.ntmps164; go_wp2
     go_loopg [5, 7] 2 (fun g s5 s7 wr => ∃ (i : Nat) (v : Int), s5 = .int .i64 v ∧ s7 = .int .i64 i ∧ 1 ≤ i ∧ i + g = 3 ∧ 0 ≤ v ∧ (i = 1 → v ≤ 31) ∧ (i = 2 → v ≤ 2047) ∧ (i = 3 → v ≤ 131071) ∧ v ≤ 8388607 ∧ Hid (contK s 2 1 (bt s 0 - 224) = contK s g i v) ∧ w = wr)
     case atStart => exact ⟨1, bt s 0 - 224, rfl, rfl, by omega, by omega, by omega, by omega, by omega, by omega, by omega, H_ rfl, rfl⟩
     case round =>
      obtain ⟨i, v, rfl, rfl, hi1, hi, hv0, hv1, hv2, hv3, hv4, HK, rfl⟩ := hrel
      cases gk with
      | zero =>
        have hil : ¬ (i : Int) < 3 := (by omega); have e3 : oneOf s = if v < 2048 ∨ 1114111 < v ∨ (55296 ≤ v ∧ v ≤ 57343) then 0 else 3 := (by rw [E1.out, HK.out]; rfl); have E3 := H_ e3; clear e3; clear hv1 hv2 hv3; by_cases t1 : v < 2048
        · have e4 : oneOf s = 0 := by rw [E3.out, if_pos (by omega)]
          have E4 := H_ e4; clear e4; go_wp2; go_ret; exact ⟨by rw [E4.out]; rfl, rfl⟩
        by_cases t2 : 1114111 < v
        · have e4 : oneOf s = 0 := by rw [E3.out, if_pos (by omega)]
          have E4 := H_ e4; clear e4; go_wp2; go_ret; exact ⟨by rw [E4.out]; rfl, rfl⟩
        by_cases t3 : 55296 ≤ v
        · by_cases t4 : v ≤ 57343
          · have e4 : oneOf s = 0 := by rw [E3.out, if_pos (by omega)]
            have E4 := H_ e4; clear e4; go_wp2; go_ret; exact ⟨by rw [E4.out]; rfl, rfl⟩
          · have e4 : oneOf s = 3 := by rw [E3.out, if_neg (by omega)]
            have E4 := H_ e4; clear e4; go_wp2; go_ret; exact ⟨by rw [E4.out]; rfl, rfl⟩
        · have e4 : oneOf s = 3 := by rw [E3.out, if_neg (by omega)]
          have E4 := H_ e4; clear e4; go_wp2; go_ret; exact ⟨by rw [E4.out]; rfl, rfl⟩
      | succ g =>
        have hil : (i : Int) < 3 := (by omega); have his : (i : Int) < (s.size : Int) := (by omega); have his' : i < s.size := (by omega); have hd0 := bt_nonneg s i; have hd1 := bt_le s i; have hvb : v ≤ 131071 := (by omega); have N1 := H_ (zkl s g i v); have N2 := H_ (zkm s g i v); have hv1' : i = 1 → v * 64 + bt s i - 128 ≤ 2047 ∨ ¬ bt s i ≤ 191 := (by omega); have hv2' : i = 2 → v * 64 + bt s i - 128 ≤ 131071 ∨ ¬ bt s i ≤ 191 := (by omega); have HV1 := H_ hv1'; have HV2 := H_ hv2'; clear hv1 hv2 hv3 hv1' hv2'; by_cases t1 : bt s i < 128
        · have e4 : oneOf s = 0 := by rw [E1.out, HK.out, N1.out (.inl t1)]
          have E4 := H_ e4; clear e4; go_wp2; go_ret; exact ⟨by rw [E4.out]; rfl, rfl⟩
        by_cases t2 : 191 < bt s i
        · have e4 : oneOf s = 0 := by rw [E1.out, HK.out, N1.out (.inr t2)]
          have E4 := H_ e4; clear e4; go_wp2; go_ret; exact ⟨by rw [E4.out]; rfl, rfl⟩
        go_wp2; go_roundg g
        case rel => exact ⟨i + 1, v * 64 + bt s i - 128, by go_num, by go_num, by omega, by omega, by omega, by omega, fun h => by have := HV1.out (by omega); omega, fun h => by have := HV2.out (by omega); omega, by omega, H_ (by rw [HK.out, N2.out (by omega)]), rfl⟩
        case measure => omega
 have e1 := zkc s 4 (bt s 0 - 240) 65536 (by unfold leadN; rw [if_pos (by omega)]) (by unfold leadV; rw [if_pos (by omega)]) (by unfold leadL; rw [if_pos (by omega)]) (by omega) (by omega); have E1 := H_ e1; clear e1; by_cases hn : s.size < 4
 · have hn' : (s.size : Int) < 4 := by omega
   have e2 : oneOf s = 0 := (by rw [E1.out, if_pos hn]); have E2 := H_ e2; clear e2; go_enter Tryz.func164, Tryz.ntmps164; go_wp2; go_ret; exact ⟨by rw [E2.out]; rfl, rfl⟩
 · have hn' : ¬ (s.size : Int) < 4 := by omega
   rw [if_neg hn] at E1; go_enter Tryz.func164, Tryz.ntmps164; go_wp2
   go_loopg [5, 7] 3 (fun g s5 s7 wr => ∃ (i : Nat) (v : Int), s5 = .int .i64 v ∧ s7 = .int .i64 i ∧ 1 ≤ i ∧ i + g = 4 ∧ 0 ≤ v ∧ (i = 1 → v ≤ 31) ∧ (i = 2 → v ≤ 2047) ∧ (i = 3 → v ≤ 131071) ∧ v ≤ 8388607 ∧ Hid (contK s 3 1 (bt s 0 - 240) = contK s g i v) ∧ w = wr)
   case atStart => exact ⟨1, bt s 0 - 240, rfl, rfl, by omega, by omega, by omega, by omega, by omega, by omega, by omega, H_ rfl, rfl⟩
   case round =>
    obtain ⟨i, v, rfl, rfl, hi1, hi, hv0, hv1, hv2, hv3, hv4, HK, rfl⟩ := hrel
    cases gk with
    | zero =>
      have hil : ¬ (i : Int) < 4 := (by omega); have e3 : oneOf s = if v < 65536 ∨ 1114111 < v ∨ (55296 ≤ v ∧ v ≤ 57343) then 0 else 4 := (by rw [E1.out, HK.out]; rfl); have E3 := H_ e3; clear e3; clear hv1 hv2 hv3; by_cases t1 : v < 65536
      · have e4 : oneOf s = 0 := by rw [E3.out, if_pos (by omega)]
        have E4 := H_ e4; clear e4; go_wp2; go_ret; exact ⟨by rw [E4.out]; rfl, rfl⟩
      by_cases t2 : 1114111 < v
      · have e4 : oneOf s = 0 := by rw [E3.out, if_pos (by omega)]
        have E4 := H_ e4; clear e4; go_wp2; go_ret; exact ⟨by rw [E4.out]; rfl, rfl⟩
      by_cases t3 : 55296 ≤ v
      · by_cases t4 : v ≤ 57343
        · have e4 : oneOf s = 0 := by rw [E3.out, if_pos (by omega)]
          have E4 := H_ e4; clear e4; go_wp2; go_ret; exact ⟨by rw [E4.out]; rfl, rfl⟩
        · have e4 : oneOf s = 4 := by rw [E3.out, if_neg (by omega)]
          have E4 := H_ e4; clear e4; go_wp2; go_ret; exact ⟨by rw [E4.out]; rfl, rfl⟩
      · have e4 : oneOf s = 4 := by rw [E3.out, if_neg (by omega)]
        have E4 := H_ e4; clear e4; go_wp2; go_ret; exact ⟨by rw [E4.out]; rfl, rfl⟩
    | succ g =>
      have hil : (i : Int) < 4 := (by omega); have his : (i : Int) < (s.size : Int) := (by omega); have his' : i < s.size := (by omega); have hd0 := bt_nonneg s i; have hd1 := bt_le s i; have hvb : v ≤ 131071 := (by omega); have N1 := H_ (zkl s g i v); have N2 := H_ (zkm s g i v); have hv1' : i = 1 → v * 64 + bt s i - 128 ≤ 2047 ∨ ¬ bt s i ≤ 191 := (by omega); have hv2' : i = 2 → v * 64 + bt s i - 128 ≤ 131071 ∨ ¬ bt s i ≤ 191 := (by omega); have HV1 := H_ hv1'; have HV2 := H_ hv2'; clear hv1 hv2 hv3 hv1' hv2'; by_cases t1 : bt s i < 128
      · have e4 : oneOf s = 0 := by rw [E1.out, HK.out, N1.out (.inl t1)]
        have E4 := H_ e4; clear e4; go_wp2; go_ret; exact ⟨by rw [E4.out]; rfl, rfl⟩
      by_cases t2 : 191 < bt s i
      · have e4 : oneOf s = 0 := by rw [E1.out, HK.out, N1.out (.inr t2)]
        have E4 := H_ e4; clear e4; go_wp2; go_ret; exact ⟨by rw [E4.out]; rfl, rfl⟩
      go_wp2; go_roundg g
      case rel => exact ⟨i + 1, v * 64 + bt s i - 128, by go_num, by go_num, by omega, by omega, by omega, by omega, fun h => by have := HV1.out (by omega); omega, fun h => by have := HV2.out (by omega); omega, by omega, H_ (by rw [HK.out, N2.out (by omega)]), rfl⟩
      case measure => omega
theorem zlj (s : ByteArray) : ∀ (g i g' : Nat), s.size ≤ i + g → g ≤ g' → refK s g' i = refK s g i
 | 0, i, g', h, _ => by
   cases g' with
   | zero => rfl
   | succ g' => unfold refK; rw [if_neg (by omega)]
 | g + 1, i, g', h, hg => by
   cases g' with
   | zero => omega
   | succ g' =>
     unfold refK; by_cases hi : i < s.size
     · rw [if_pos hi, if_pos hi]
       split
       · rfl
       · rename_i hn
         have : 1 ≤ oneOf (s.extract i s.size) := by
          rcases Nat.eq_zero_or_pos (oneOf (s.extract i s.size)) with h0 | h0
          · exact absurd (.inl h0) hn
          · exact h0
         exact zlj s g _ g' (by omega) (by omega)
     · rw [if_neg hi, if_neg hi]
set_option maxHeartbeats 4000000 in
theorem zgx (w : World) (s : ByteArray) (hs : s.size ≤ 1099511627776) : Calls Tryz.prog 124 #[.string s] w fun e w' => e = .returned (.int .i64 (keyE s)) ∧ Fr No w w' := by
 have hE := zqg s; unfold zne at hE; have HE := H_ hE; clear hE; by_cases h0 : s.size = 0
 · have hl : s.toList = [] := by
    rw [Lib.toList_data]; exact List.eq_nil_of_length_eq_zero (by simpa using h0)
   have hl' : s.toList.isEmpty = true := (by rw [hl]; rfl); have hl'' : (s.toList == []) = true := (by rw [hl]; rfl); have e1 : keyE s = 30 := (by rw [← HE.out, if_pos h0]); have E1 := H_ e1; clear e1; clear hl; go_enter Tryz.func124, Tryz.ntmps124; go_wp2; go_ret; exact ⟨by rw [E1.out]; rfl, Fr.refl No w⟩
 · have hne : s.toList ≠ [] := by
    rw [Lib.toList_data]; intro h; have := congrArg List.length h; simp at this; exact h0 (by rw [this]; rfl)
   have hl' : s.toList.isEmpty = false := (by simpa using hne); have hl'' : (s.toList == []) = false := (by simpa using hne); rw [if_neg h0] at HE; have hb := get_bt s; clear hne; go_enter Tryz.func124, Tryz.ntmps124; go_wp2
   go_loopg [3] s.size (fun g s3 wr => ∃ i : Nat, s3 = .int .i64 i ∧ i + g = s.size ∧ Hid (refK s s.size 0 = refK s g i) ∧ w = wr)
   case atStart => exact ⟨0, rfl, by simp, H_ rfl, rfl⟩
   case round =>
    obtain ⟨i, rfl, hi, HK, rfl⟩ := hrel
    cases gk with
    | zero =>
      have hil : ¬ (i : Int) < (s.size : Int) := (by omega); have hkt : refK s s.size 0 = true := (by rw [HK.out]; rfl); by_cases h64 : 64 < s.size
      · have h64' : (64 : Int) < (s.size : Int) := by omega
        have e1 : keyE s = 31 := (by rw [← HE.out, hkt, if_neg (by simp), if_pos h64]); have E1 := H_ e1; clear e1; clear hkt; go_wp2; go_ret; exact ⟨by rw [E1.out]; rfl, Fr.refl No w⟩
      · have h64' : ¬ (64 : Int) < (s.size : Int) := by omega
        have e1 : keyE s = 0 := (by rw [← HE.out, hkt, if_neg (by simp), if_neg h64]); have E1 := H_ e1; clear e1; clear hkt; go_wp2; go_ret; exact ⟨by rw [E1.out]; rfl, Fr.refl No w⟩
    | succ g =>
      have hil : (i : Int) < (s.size : Int) := (by omega); have hil' : i < s.size := (by omega); have hile : (i : Int) ≤ (s.size : Int) := (by omega); have hoc := fun W => zqj W (s.extract i s.size) (by simp; omega); have hK1 : refK s (g + 1) i = if oneOf (s.extract i s.size) = 0 ∨ bt s i = 0 then false else refK s g (i + oneOf (s.extract i s.size)) := (by rw [refK]; rw [if_pos hil'])
      have hst : oneOf (s.extract i s.size) ≠ 0 → 1 ≤ oneOf (s.extract i s.size) ∧ i + oneOf (s.extract i s.size) ≤ s.size := by
       intro hn; rcases one_at s i hil' with ⟨_, h2⟩ | ⟨_, h2, _, h4, _⟩
       · exact absurd h2 hn
       · exact ⟨h2, h4⟩
      generalize oneOf (s.extract i s.size) = n at *; have HO := H_ hoc; clear hoc; have HK1 := H_ hK1; clear hK1; by_cases t1 : n = 0
      · subst t1
        have e0 : refK s s.size 0 = false := (by rw [HK.out, HK1.out]; exact if_pos (.inl rfl)); have e1 : keyE s = 30 := (by rw [← HE.out, e0]; rfl); have E1 := H_ e1; clear e1; clear hst; go_wp2_with (go_at_call 164; refine (HO.out _).mono ?_; rintro e w' ⟨rfl, rfl⟩); go_ret; exact ⟨by rw [E1.out]; rfl, Fr.refl No w⟩
      · obtain ⟨hn1, hn2⟩ := hst t1
        have t1' : ((n : Int) == 0) = false := (by simpa using t1); have hb0 := bt_nonneg s i; have hb1 := bt_le s i; clear hst; by_cases t2 : bt s i = 0
        · have t2' : (bt s i == 0) = true := by simpa using t2
          have e0 : refK s s.size 0 = false := (by rw [HK.out, HK1.out]; exact if_pos (.inr t2)); have e1 : keyE s = 30 := (by rw [← HE.out, e0]; rfl); have E1 := H_ e1; clear e1; clear t2; go_wp2_with (go_at_call 164; refine (HO.out _).mono ?_; rintro e w' ⟨rfl, rfl⟩); go_ret; exact ⟨by rw [E1.out]; rfl, Fr.refl No w⟩
        · have t2' : (bt s i == 0) = false := by simpa using t2
          have e1 : refK s s.size 0 = refK s (s.size - (i + n)) (i + n) := by
           rw [HK.out, HK1.out, if_neg (by omega)]; exact zlj s _ _ _ (by omega) (by omega)
          have E1 := H_ e1; clear e1; go_wp2_with (go_at_call 164; refine (HO.out _).mono ?_; rintro e w' ⟨rfl, rfl⟩); go_roundg (s.size - (i + n))
          case rel => exact ⟨i + n, by go_num, by omega, E1, rfl⟩
          case measure => omega
open Go Go.Proofs Go.RowKit
def mayB (x : Kv) (rev : Int) : Bool :=
 if keyE x.key ≠ 0 ∨ 1024 < x.value.size ∨ x.lease < 0 ∨ x.create < 1 ∨ x.mod < x.create ∨ rev < x.mod then false
 else if x.mod = x.create then x.version == 1 else decide (2 ≤ x.version) && decide (x.version ≤ x.mod - x.create + 1)
def madeB (x : Ev) (was : Kv) (rev : Int) : Bool :=
 if keyE x.kv.key ≠ 0 ∨ x.kv.mod ≠ rev ∨ sameB x.prev was = false then false
 else if x.kind = 2 then decide (0 < was.version) && sameB x.kv ⟨x.kv.key, ByteArray.empty, 0, rev, 0, 0⟩
 else (x.kind == 1) && ((x.kv.create == if was.version = 0 then rev else was.create) && ((x.kv.version == wrap64 (was.version + 1)) && (decide (x.kv.value.size ≤ 1024) && decide (0 ≤ x.kv.lease))))
theorem rb {a b : Bool} (h : a = b) : Ending.returned (.bool a) = .returned (.bool b) := by rw [h]
set_option maxHeartbeats 8000000 in
theorem zgw (w : World) (x : Kv) (hx : x.key.size ≤ 1099511627776) (rev : Int) (hr : rev ≤ 1099511627777) :
 Calls Tryz.prog 69 #[kvV x, .int .i64 rev] w fun e w' => e = .returned (.bool (mayB x rev)) ∧ Fr No w w' := by
 have HK := H_ (fun W => zgx W x.key hx); clear hx; obtain ⟨p1, p2, p3, p4, p5, p6⟩ := x
 have HM : Hid (mayB ⟨p1, p2, p3, p4, p5, p6⟩ rev = if keyE p1 ≠ 0 ∨ 1024 < p2.size ∨ p6 < 0 ∨ p3 < 1 ∨ p4 < p3 ∨ rev < p4 then false
  else if p4 = p3 then p5 == 1 else decide (2 ≤ p5) && decide (p5 ≤ p4 - p3 + 1)) := H_ rfl
 dsimp only at HK; unfold kvV; dsimp only; generalize hE : keyE p1 = E at *; generalize mayB ⟨p1, p2, p3, p4, p5, p6⟩ rev = m at *; clear hE; by_cases h1 : E = 0
 · subst h1
   by_cases h2 : 1024 < p2.size
   · have h2' : decide ((1024 : Int) < (p2.size : Int)) = true := decide_eq_true (by omega)
     have HW : Hid (false = m) := H_ (by rw [HM.out, if_pos (Or.inr (Or.inl h2))]); clear h2; go_enter Tryz.func69, Tryz.ntmps69
     go_wp2_with (go_at_call 124; refine (HK.out _).mono ?_; rintro e w1 ⟨rfl, hf1⟩
                  have hb := hf1.heap (zad w (Obj.cells #[.string p1, .string p2, .int .i64 p3, .int .i64 p4, .int .i64 p5, .int .i64 p6] 99) _ rfl) id; have lb := zaa hb; have c1 := cellAt hb 1 rfl; have c2 := cellAt hb 2 rfl; have c3 := cellAt hb 3 rfl; have c4 := cellAt hb 4 rfl; have c5 := cellAt hb 5 rfl; clear hb)
     go_ret; exact ⟨rb (HW.out), (((Fr.refl No w).alloc _).trans0 hf1)⟩
   · have h2' : decide ((1024 : Int) < (p2.size : Int)) = false := decide_eq_false (by omega)
     by_cases h3 : p6 < 0
     · have h3' : decide (p6 < 0) = true := decide_eq_true (by omega)
       have HW : Hid (false = m) := H_ (by rw [HM.out, if_pos (Or.inr (Or.inr (Or.inl h3)))]); clear h3; go_enter Tryz.func69, Tryz.ntmps69
       go_wp2_with (go_at_call 124; refine (HK.out _).mono ?_; rintro e w1 ⟨rfl, hf1⟩
                    have hb := hf1.heap (zad w (Obj.cells #[.string p1, .string p2, .int .i64 p3, .int .i64 p4, .int .i64 p5, .int .i64 p6] 99) _ rfl) id; have lb := zaa hb; have c1 := cellAt hb 1 rfl; have c2 := cellAt hb 2 rfl; have c3 := cellAt hb 3 rfl; have c4 := cellAt hb 4 rfl; have c5 := cellAt hb 5 rfl; clear hb)
       go_ret; exact ⟨rb (HW.out), (((Fr.refl No w).alloc _).trans0 hf1)⟩
     · have h3' : decide (p6 < 0) = false := decide_eq_false (by omega)
       by_cases h4 : p3 < 1
       · have h4' : decide (p3 < 1) = true := decide_eq_true (by omega)
         have HW : Hid (false = m) := H_ (by rw [HM.out, if_pos (Or.inr (Or.inr (Or.inr (Or.inl h4))))]); clear h4; go_enter Tryz.func69, Tryz.ntmps69
         go_wp2_with (go_at_call 124; refine (HK.out _).mono ?_; rintro e w1 ⟨rfl, hf1⟩
                      have hb := hf1.heap (zad w (Obj.cells #[.string p1, .string p2, .int .i64 p3, .int .i64 p4, .int .i64 p5, .int .i64 p6] 99) _ rfl) id; have lb := zaa hb; have c1 := cellAt hb 1 rfl; have c2 := cellAt hb 2 rfl; have c3 := cellAt hb 3 rfl; have c4 := cellAt hb 4 rfl; have c5 := cellAt hb 5 rfl; clear hb)
         go_ret; exact ⟨rb (HW.out), (((Fr.refl No w).alloc _).trans0 hf1)⟩
       · have h4' : decide (p3 < 1) = false := decide_eq_false (by omega)
         by_cases h5 : p4 < p3
         · have h5' : decide (p4 < p3) = true := decide_eq_true (by omega)
           have HW : Hid (false = m) := H_ (by rw [HM.out, if_pos (Or.inr (Or.inr (Or.inr (Or.inr (Or.inl h5)))))]); clear h5; go_enter Tryz.func69, Tryz.ntmps69
           go_wp2_with (go_at_call 124; refine (HK.out _).mono ?_; rintro e w1 ⟨rfl, hf1⟩
                        have hb := hf1.heap (zad w (Obj.cells #[.string p1, .string p2, .int .i64 p3, .int .i64 p4, .int .i64 p5, .int .i64 p6] 99) _ rfl) id; have lb := zaa hb; have c1 := cellAt hb 1 rfl; have c2 := cellAt hb 2 rfl; have c3 := cellAt hb 3 rfl; have c4 := cellAt hb 4 rfl; have c5 := cellAt hb 5 rfl; clear hb)
           go_ret; exact ⟨rb (HW.out), (((Fr.refl No w).alloc _).trans0 hf1)⟩
         · have h5' : decide (p4 < p3) = false := decide_eq_false (by omega)
           by_cases h6 : rev < p4
           · have h6' : decide (rev < p4) = true := decide_eq_true (by omega)
             have HW : Hid (false = m) := H_ (by rw [HM.out, if_pos (Or.inr (Or.inr (Or.inr (Or.inr (Or.inr (h6))))))]); clear h6; go_enter Tryz.func69, Tryz.ntmps69
             go_wp2_with (go_at_call 124; refine (HK.out _).mono ?_; rintro e w1 ⟨rfl, hf1⟩
                          have hb := hf1.heap (zad w (Obj.cells #[.string p1, .string p2, .int .i64 p3, .int .i64 p4, .int .i64 p5, .int .i64 p6] 99) _ rfl) id; have lb := zaa hb; have c1 := cellAt hb 1 rfl; have c2 := cellAt hb 2 rfl; have c3 := cellAt hb 3 rfl; have c4 := cellAt hb 4 rfl; have c5 := cellAt hb 5 rfl; clear hb)
             go_ret; exact ⟨rb (HW.out), (((Fr.refl No w).alloc _).trans0 hf1)⟩
           · have h6' : decide (rev < p4) = false := decide_eq_false (by omega)
             have HMM := HM.out; rw [if_neg (by rintro (h | h | h | h | h | h) <;> first | exact h rfl | omega)] at HMM; by_cases h7 : p4 = p3
             · rw [if_pos h7] at HMM
               have h7' : (p4 == p3) = true := beq_iff_eq.2 h7; have HW : Hid ((p5 == 1) = m) := H_ HMM.symm; clear HMM HM h7; go_enter Tryz.func69, Tryz.ntmps69
               go_wp2_with (go_at_call 124; refine (HK.out _).mono ?_; rintro e w1 ⟨rfl, hf1⟩
                            have hb := hf1.heap (zad w (Obj.cells #[.string p1, .string p2, .int .i64 p3, .int .i64 p4, .int .i64 p5, .int .i64 p6] 99) _ rfl) id; have lb := zaa hb; have c1 := cellAt hb 1 rfl; have c2 := cellAt hb 2 rfl; have c3 := cellAt hb 3 rfl; have c4 := cellAt hb 4 rfl; have c5 := cellAt hb 5 rfl; clear hb)
               go_ret; exact ⟨rb (HW.out), (((Fr.refl No w).alloc _).trans0 hf1)⟩
             · rw [if_neg h7] at HMM
               have h7' : (p4 == p3) = false := beq_eq_false_iff_ne.2 h7; by_cases h8 : 2 ≤ p5
               · have h8' : decide (2 ≤ p5) = true := decide_eq_true h8
                 have h8'' : decide (p5 ≥ 2) = true := decide_eq_true h8; rw [h8', Bool.true_and] at HMM; have HW : Hid (decide (p5 ≤ p4 - p3 + 1) = m) := H_ HMM.symm; clear HMM HM; have h9 : 0 ≤ p4 - p3 := (by omega); have h9' : p4 - p3 ≤ 1099511627777 := (by omega); go_enter Tryz.func69, Tryz.ntmps69
                 go_wp2_with (go_at_call 124; refine (HK.out _).mono ?_; rintro e w1 ⟨rfl, hf1⟩
                              have hb := hf1.heap (zad w (Obj.cells #[.string p1, .string p2, .int .i64 p3, .int .i64 p4, .int .i64 p5, .int .i64 p6] 99) _ rfl) id; have lb := zaa hb; have c1 := cellAt hb 1 rfl; have c2 := cellAt hb 2 rfl; have c3 := cellAt hb 3 rfl; have c4 := cellAt hb 4 rfl; have c5 := cellAt hb 5 rfl; clear hb)
                 go_ret; exact ⟨rb (HW.out), (((Fr.refl No w).alloc _).trans0 hf1)⟩
               · have h8' : decide (2 ≤ p5) = false := decide_eq_false h8
                 have h8'' : decide (p5 ≥ 2) = false := decide_eq_false h8; rw [h8', Bool.false_and] at HMM; have HW : Hid (false = m) := H_ HMM.symm; clear HMM HM; go_enter Tryz.func69, Tryz.ntmps69
                 go_wp2_with (go_at_call 124; refine (HK.out _).mono ?_; rintro e w1 ⟨rfl, hf1⟩
                              have hb := hf1.heap (zad w (Obj.cells #[.string p1, .string p2, .int .i64 p3, .int .i64 p4, .int .i64 p5, .int .i64 p6] 99) _ rfl) id; have lb := zaa hb; have c1 := cellAt hb 1 rfl; have c2 := cellAt hb 2 rfl; have c3 := cellAt hb 3 rfl; have c4 := cellAt hb 4 rfl; have c5 := cellAt hb 5 rfl; clear hb)
                 go_ret; exact ⟨rb (HW.out), (((Fr.refl No w).alloc _).trans0 hf1)⟩
 · have h1' : (E != 0) = true := by rw [bne_iff_ne]; exact h1
   have h1'' : (E == 0) = false := beq_eq_false_iff_ne.2 h1; have HW : Hid (false = m) := H_ (by rw [HM.out, if_pos (.inl h1)]); clear h1 HM; go_enter Tryz.func69, Tryz.ntmps69
   go_wp2_with (go_at_call 124; refine (HK.out _).mono ?_; rintro e w1 ⟨rfl, hf1⟩
                have hb := hf1.heap (zad w (Obj.cells #[.string p1, .string p2, .int .i64 p3, .int .i64 p4, .int .i64 p5, .int .i64 p6] 99) _ rfl) id; have lb := zaa hb; have c1 := cellAt hb 1 rfl; have c2 := cellAt hb 2 rfl; have c3 := cellAt hb 3 rfl; have c4 := cellAt hb 4 rfl; have c5 := cellAt hb 5 rfl; clear hb)
   go_ret; exact ⟨rb (HW.out), (((Fr.refl No w).alloc _).trans0 hf1)⟩
end Go.Proofs.YthljnnjpmdgkoaaGreat