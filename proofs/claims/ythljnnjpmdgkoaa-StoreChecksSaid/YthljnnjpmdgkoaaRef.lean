/- The document's answers on keys and ranges are the program's: chanceryref11's one, Key, In, Asks. The condition: texts are not too long. -/
import Derived.Test.YthljnnjpmdgkoaaUtf
import Derived.Test.YthljnnjpmdgkoaaTxn
namespace Go.Proofs.Ythljnnjpmdgkoaa
open Go Go.Proofs Go.RowKit Go.PlainAid
set_option maxRecDepth 100000

theorem one_low (s : ByteArray) (h : bt s 0 < 128) (hs : 0 < s.size) : oneOf s = 1 := by
  have h0 := bt_nonneg s 0
  have hN : leadN (bt s 0) = 1 := by unfold leadN; rw [if_neg (by omega), if_neg (by omega), if_neg (by omega)]
  have hV : leadV (bt s 0) = bt s 0 := by unfold leadV; rw [if_neg (by omega), if_neg (by omega), if_neg (by omega)]
  have hL : leadL (bt s 0) = 0 := by unfold leadL; rw [if_neg (by omega), if_neg (by omega), if_neg (by omega)]
  unfold oneOf
  rw [hN, hV, hL, if_neg (by omega), if_neg (by omega)]
  show (if bt s 0 < 0 ∨ 1114111 < bt s 0 ∨ (55296 ≤ bt s 0 ∧ bt s 0 ≤ 57343) then 0 else 1) = 1
  rw [if_neg (by omega)]
theorem one_mid (s : ByteArray) (h : 128 ≤ bt s 0) (h' : bt s 0 < 192) : oneOf s = 0 := by
  unfold oneOf; rw [if_pos ⟨h, h'⟩]
theorem one_high (s : ByteArray) (h : 248 ≤ bt s 0) : oneOf s = 0 := by
  unfold oneOf; rw [if_neg (by omega), if_pos (.inl h)]
theorem one_lead (s : ByteArray) (n : Nat) (v0 least : Int) (hN : leadN (bt s 0) = n) (hV : leadV (bt s 0) = v0) (hL : leadL (bt s 0) = least) (h1 : 192 ≤ bt s 0) (h2 : bt s 0 < 248) :
    oneOf s = if s.size < n then 0 else match contK s (n - 1) 1 v0 with
      | none => 0
      | some v => if v < least ∨ 1114111 < v ∨ (55296 ≤ v ∧ v ≤ 57343) then 0 else n := by
  unfold oneOf
  rw [hN, hV, hL, if_neg (by omega)]
  by_cases h : s.size < n
  · rw [if_pos (.inr h), if_pos h]
  · rw [if_neg (by omega), if_neg h]
    rfl
theorem contK_no (s : ByteArray) (g i : Nat) (v : Int) (h : bt s i < 128 ∨ 191 < bt s i) : contK s (g + 1) i v = none := by
  rw [contK]; rw [if_pos h]
theorem contK_go (s : ByteArray) (g i : Nat) (v : Int) (h : ¬ (bt s i < 128 ∨ 191 < bt s i)) : contK s (g + 1) i v = contK s g (i + 1) (v * 64 + bt s i - 128) := by
  rw [contK]; rw [if_neg h]

set_option maxHeartbeats 8000000 in
theorem one_calls' (w : World) (s : ByteArray) (hs : 0 < s.size) : Calls Try.prog 91 #[.string s] w fun e w' => e = .returned (.int .i64 (oneOf s : Int)) ∧ w = w' := by
  have hb := get_bt s
  have hc0 := bt_nonneg s 0
  have hc1 := bt_le s 0
  have hsz : (0 : Int) < (s.size : Int) := by omega
  by_cases a1 : bt s 0 < 128
  · have e1 := one_low s a1 hs
    have E1 := Lib.hid e1; clear e1
    go_enter Try.func91, Try.ntmps91
    go_wp2
    go_loopg [5, 7] 0 (fun g s5 s7 wr => g = 0 ∧ s5 = .int .i64 (bt s 0) ∧ s7 = .int .i64 1 ∧ w = wr)
    case atStart => exact ⟨rfl, rfl, rfl, rfl⟩
    case round =>
      obtain ⟨rfl, rfl, rfl, rfl⟩ := hrel
      go_wp2
      go_ret
      exact ⟨by rw [E1.out]; rfl, rfl⟩
  by_cases a2 : bt s 0 < 192
  · have e1 := one_mid s (by omega) a2
    have E1 := Lib.hid e1; clear e1
    go_enter Try.func91, Try.ntmps91
    go_wp2
    go_ret
    exact ⟨by rw [E1.out]; rfl, rfl⟩
  by_cases a5 : 248 ≤ bt s 0
  · have e1 := one_high s a5
    have E1 := Lib.hid e1; clear e1
    go_enter Try.func91, Try.ntmps91
    go_wp2
    go_ret
    exact ⟨by rw [E1.out]; rfl, rfl⟩
  by_cases a3 : bt s 0 < 224
  · have e1 := one_lead s 2 (bt s 0 - 192) 128 (by unfold leadN; rw [if_neg (by omega), if_neg (by omega), if_pos (by omega)]) (by unfold leadV; rw [if_neg (by omega), if_neg (by omega), if_pos (by omega)]) (by unfold leadL; rw [if_neg (by omega), if_neg (by omega), if_pos (by omega)]) (by omega) (by omega)
    have E1 := Lib.hid e1; clear e1
    by_cases hn : s.size < 2
    · have hn' : (s.size : Int) < 2 := by omega
      have e2 : oneOf s = 0 := by rw [E1.out, if_pos hn]
      have E2 := Lib.hid e2; clear e2
      go_enter Try.func91, Try.ntmps91
      go_wp2
      go_ret
      exact ⟨by rw [E2.out]; rfl, rfl⟩
    · have hn' : ¬ (s.size : Int) < 2 := by omega
      rw [if_neg hn] at E1
      go_enter Try.func91, Try.ntmps91
      go_wp2
      go_loopg [5, 7] 1 (fun g s5 s7 wr => ∃ (i : Nat) (v : Int), s5 = .int .i64 v ∧ s7 = .int .i64 i ∧ 1 ≤ i ∧ i + g = 2 ∧ 0 ≤ v ∧ (i = 1 → v ≤ 31) ∧ (i = 2 → v ≤ 2047) ∧ (i = 3 → v ≤ 131071) ∧ v ≤ 8388607 ∧ Hid (contK s 1 1 (bt s 0 - 192) = contK s g i v) ∧ w = wr)
      case atStart => exact ⟨1, bt s 0 - 192, rfl, rfl, by omega, by omega, by omega, by omega, by omega, by omega, by omega, Lib.hid rfl, rfl⟩
      case round =>
        obtain ⟨i, v, rfl, rfl, hi1, hi, hv0, hv1, hv2, hv3, hv4, HK, rfl⟩ := hrel
        cases gk with
        | zero =>
          have hil : ¬ (i : Int) < 2 := by omega
          have e3 : oneOf s = if v < 128 ∨ 1114111 < v ∨ (55296 ≤ v ∧ v ≤ 57343) then 0 else 2 := by rw [E1.out, HK.out]; rfl
          have E3 := Lib.hid e3; clear e3
          clear hv1 hv2 hv3
          by_cases t1 : v < 128
          · have e4 : oneOf s = 0 := by rw [E3.out, if_pos (by omega)]
            have E4 := Lib.hid e4; clear e4
            go_wp2
            go_ret
            exact ⟨by rw [E4.out]; rfl, rfl⟩
          by_cases t2 : 1114111 < v
          · have e4 : oneOf s = 0 := by rw [E3.out, if_pos (by omega)]
            have E4 := Lib.hid e4; clear e4
            go_wp2
            go_ret
            exact ⟨by rw [E4.out]; rfl, rfl⟩
          by_cases t3 : 55296 ≤ v
          · by_cases t4 : v ≤ 57343
            · have e4 : oneOf s = 0 := by rw [E3.out, if_pos (by omega)]
              have E4 := Lib.hid e4; clear e4
              go_wp2
              go_ret
              exact ⟨by rw [E4.out]; rfl, rfl⟩
            · have e4 : oneOf s = 2 := by rw [E3.out, if_neg (by omega)]
              have E4 := Lib.hid e4; clear e4
              go_wp2
              go_ret
              exact ⟨by rw [E4.out]; rfl, rfl⟩
          · have e4 : oneOf s = 2 := by rw [E3.out, if_neg (by omega)]
            have E4 := Lib.hid e4; clear e4
            go_wp2
            go_ret
            exact ⟨by rw [E4.out]; rfl, rfl⟩
        | succ g =>
          have hil : (i : Int) < 2 := by omega
          have his : (i : Int) < (s.size : Int) := by omega
          have his' : i < s.size := by omega
          have hd0 := bt_nonneg s i
          have hd1 := bt_le s i
          have hvb : v ≤ 131071 := by omega
          have N1 := Lib.hid (contK_no s g i v)
          have N2 := Lib.hid (contK_go s g i v)
          have hv1' : i = 1 → v * 64 + bt s i - 128 ≤ 2047 ∨ ¬ bt s i ≤ 191 := by omega
          have hv2' : i = 2 → v * 64 + bt s i - 128 ≤ 131071 ∨ ¬ bt s i ≤ 191 := by omega
          have HV1 := Lib.hid hv1'
          have HV2 := Lib.hid hv2'
          clear hv1 hv2 hv3 hv1' hv2'
          by_cases t1 : bt s i < 128
          · have e4 : oneOf s = 0 := by rw [E1.out, HK.out, N1.out (.inl t1)]
            have E4 := Lib.hid e4; clear e4
            go_wp2
            go_ret
            exact ⟨by rw [E4.out]; rfl, rfl⟩
          by_cases t2 : 191 < bt s i
          · have e4 : oneOf s = 0 := by rw [E1.out, HK.out, N1.out (.inr t2)]
            have E4 := Lib.hid e4; clear e4
            go_wp2
            go_ret
            exact ⟨by rw [E4.out]; rfl, rfl⟩
          go_wp2
          go_roundg g
          case rel => exact ⟨i + 1, v * 64 + bt s i - 128, by go_num, by go_num, by omega, by omega, by omega, by omega, fun h => by have := HV1.out (by omega); omega, fun h => by have := HV2.out (by omega); omega, by omega, Lib.hid (by rw [HK.out, N2.out (by omega)]), rfl⟩
          case measure => omega
  by_cases a4 : bt s 0 < 240
  · have e1 := one_lead s 3 (bt s 0 - 224) 2048 (by unfold leadN; rw [if_neg (by omega), if_pos (by omega)]) (by unfold leadV; rw [if_neg (by omega), if_pos (by omega)]) (by unfold leadL; rw [if_neg (by omega), if_pos (by omega)]) (by omega) (by omega)
    have E1 := Lib.hid e1; clear e1
    by_cases hn : s.size < 3
    · have hn' : (s.size : Int) < 3 := by omega
      have e2 : oneOf s = 0 := by rw [E1.out, if_pos hn]
      have E2 := Lib.hid e2; clear e2
      go_enter Try.func91, Try.ntmps91
      go_wp2
      go_ret
      exact ⟨by rw [E2.out]; rfl, rfl⟩
    · have hn' : ¬ (s.size : Int) < 3 := by omega
      rw [if_neg hn] at E1
      go_enter Try.func91, Try.ntmps91
      go_wp2
      go_loopg [5, 7] 2 (fun g s5 s7 wr => ∃ (i : Nat) (v : Int), s5 = .int .i64 v ∧ s7 = .int .i64 i ∧ 1 ≤ i ∧ i + g = 3 ∧ 0 ≤ v ∧ (i = 1 → v ≤ 31) ∧ (i = 2 → v ≤ 2047) ∧ (i = 3 → v ≤ 131071) ∧ v ≤ 8388607 ∧ Hid (contK s 2 1 (bt s 0 - 224) = contK s g i v) ∧ w = wr)
      case atStart => exact ⟨1, bt s 0 - 224, rfl, rfl, by omega, by omega, by omega, by omega, by omega, by omega, by omega, Lib.hid rfl, rfl⟩
      case round =>
        obtain ⟨i, v, rfl, rfl, hi1, hi, hv0, hv1, hv2, hv3, hv4, HK, rfl⟩ := hrel
        cases gk with
        | zero =>
          have hil : ¬ (i : Int) < 3 := by omega
          have e3 : oneOf s = if v < 2048 ∨ 1114111 < v ∨ (55296 ≤ v ∧ v ≤ 57343) then 0 else 3 := by rw [E1.out, HK.out]; rfl
          have E3 := Lib.hid e3; clear e3
          clear hv1 hv2 hv3
          by_cases t1 : v < 2048
          · have e4 : oneOf s = 0 := by rw [E3.out, if_pos (by omega)]
            have E4 := Lib.hid e4; clear e4
            go_wp2
            go_ret
            exact ⟨by rw [E4.out]; rfl, rfl⟩
          by_cases t2 : 1114111 < v
          · have e4 : oneOf s = 0 := by rw [E3.out, if_pos (by omega)]
            have E4 := Lib.hid e4; clear e4
            go_wp2
            go_ret
            exact ⟨by rw [E4.out]; rfl, rfl⟩
          by_cases t3 : 55296 ≤ v
          · by_cases t4 : v ≤ 57343
            · have e4 : oneOf s = 0 := by rw [E3.out, if_pos (by omega)]
              have E4 := Lib.hid e4; clear e4
              go_wp2
              go_ret
              exact ⟨by rw [E4.out]; rfl, rfl⟩
            · have e4 : oneOf s = 3 := by rw [E3.out, if_neg (by omega)]
              have E4 := Lib.hid e4; clear e4
              go_wp2
              go_ret
              exact ⟨by rw [E4.out]; rfl, rfl⟩
          · have e4 : oneOf s = 3 := by rw [E3.out, if_neg (by omega)]
            have E4 := Lib.hid e4; clear e4
            go_wp2
            go_ret
            exact ⟨by rw [E4.out]; rfl, rfl⟩
        | succ g =>
          have hil : (i : Int) < 3 := by omega
          have his : (i : Int) < (s.size : Int) := by omega
          have his' : i < s.size := by omega
          have hd0 := bt_nonneg s i
          have hd1 := bt_le s i
          have hvb : v ≤ 131071 := by omega
          have N1 := Lib.hid (contK_no s g i v)
          have N2 := Lib.hid (contK_go s g i v)
          have hv1' : i = 1 → v * 64 + bt s i - 128 ≤ 2047 ∨ ¬ bt s i ≤ 191 := by omega
          have hv2' : i = 2 → v * 64 + bt s i - 128 ≤ 131071 ∨ ¬ bt s i ≤ 191 := by omega
          have HV1 := Lib.hid hv1'
          have HV2 := Lib.hid hv2'
          clear hv1 hv2 hv3 hv1' hv2'
          by_cases t1 : bt s i < 128
          · have e4 : oneOf s = 0 := by rw [E1.out, HK.out, N1.out (.inl t1)]
            have E4 := Lib.hid e4; clear e4
            go_wp2
            go_ret
            exact ⟨by rw [E4.out]; rfl, rfl⟩
          by_cases t2 : 191 < bt s i
          · have e4 : oneOf s = 0 := by rw [E1.out, HK.out, N1.out (.inr t2)]
            have E4 := Lib.hid e4; clear e4
            go_wp2
            go_ret
            exact ⟨by rw [E4.out]; rfl, rfl⟩
          go_wp2
          go_roundg g
          case rel => exact ⟨i + 1, v * 64 + bt s i - 128, by go_num, by go_num, by omega, by omega, by omega, by omega, fun h => by have := HV1.out (by omega); omega, fun h => by have := HV2.out (by omega); omega, by omega, Lib.hid (by rw [HK.out, N2.out (by omega)]), rfl⟩
          case measure => omega
  have e1 := one_lead s 4 (bt s 0 - 240) 65536 (by unfold leadN; rw [if_pos (by omega)]) (by unfold leadV; rw [if_pos (by omega)]) (by unfold leadL; rw [if_pos (by omega)]) (by omega) (by omega)
  have E1 := Lib.hid e1; clear e1
  by_cases hn : s.size < 4
  · have hn' : (s.size : Int) < 4 := by omega
    have e2 : oneOf s = 0 := by rw [E1.out, if_pos hn]
    have E2 := Lib.hid e2; clear e2
    go_enter Try.func91, Try.ntmps91
    go_wp2
    go_ret
    exact ⟨by rw [E2.out]; rfl, rfl⟩
  · have hn' : ¬ (s.size : Int) < 4 := by omega
    rw [if_neg hn] at E1
    go_enter Try.func91, Try.ntmps91
    go_wp2
    go_loopg [5, 7] 3 (fun g s5 s7 wr => ∃ (i : Nat) (v : Int), s5 = .int .i64 v ∧ s7 = .int .i64 i ∧ 1 ≤ i ∧ i + g = 4 ∧ 0 ≤ v ∧ (i = 1 → v ≤ 31) ∧ (i = 2 → v ≤ 2047) ∧ (i = 3 → v ≤ 131071) ∧ v ≤ 8388607 ∧ Hid (contK s 3 1 (bt s 0 - 240) = contK s g i v) ∧ w = wr)
    case atStart => exact ⟨1, bt s 0 - 240, rfl, rfl, by omega, by omega, by omega, by omega, by omega, by omega, by omega, Lib.hid rfl, rfl⟩
    case round =>
      obtain ⟨i, v, rfl, rfl, hi1, hi, hv0, hv1, hv2, hv3, hv4, HK, rfl⟩ := hrel
      cases gk with
      | zero =>
        have hil : ¬ (i : Int) < 4 := by omega
        have e3 : oneOf s = if v < 65536 ∨ 1114111 < v ∨ (55296 ≤ v ∧ v ≤ 57343) then 0 else 4 := by rw [E1.out, HK.out]; rfl
        have E3 := Lib.hid e3; clear e3
        clear hv1 hv2 hv3
        by_cases t1 : v < 65536
        · have e4 : oneOf s = 0 := by rw [E3.out, if_pos (by omega)]
          have E4 := Lib.hid e4; clear e4
          go_wp2
          go_ret
          exact ⟨by rw [E4.out]; rfl, rfl⟩
        by_cases t2 : 1114111 < v
        · have e4 : oneOf s = 0 := by rw [E3.out, if_pos (by omega)]
          have E4 := Lib.hid e4; clear e4
          go_wp2
          go_ret
          exact ⟨by rw [E4.out]; rfl, rfl⟩
        by_cases t3 : 55296 ≤ v
        · by_cases t4 : v ≤ 57343
          · have e4 : oneOf s = 0 := by rw [E3.out, if_pos (by omega)]
            have E4 := Lib.hid e4; clear e4
            go_wp2
            go_ret
            exact ⟨by rw [E4.out]; rfl, rfl⟩
          · have e4 : oneOf s = 4 := by rw [E3.out, if_neg (by omega)]
            have E4 := Lib.hid e4; clear e4
            go_wp2
            go_ret
            exact ⟨by rw [E4.out]; rfl, rfl⟩
        · have e4 : oneOf s = 4 := by rw [E3.out, if_neg (by omega)]
          have E4 := Lib.hid e4; clear e4
          go_wp2
          go_ret
          exact ⟨by rw [E4.out]; rfl, rfl⟩
      | succ g =>
        have hil : (i : Int) < 4 := by omega
        have his : (i : Int) < (s.size : Int) := by omega
        have his' : i < s.size := by omega
        have hd0 := bt_nonneg s i
        have hd1 := bt_le s i
        have hvb : v ≤ 131071 := by omega
        have N1 := Lib.hid (contK_no s g i v)
        have N2 := Lib.hid (contK_go s g i v)
        have hv1' : i = 1 → v * 64 + bt s i - 128 ≤ 2047 ∨ ¬ bt s i ≤ 191 := by omega
        have hv2' : i = 2 → v * 64 + bt s i - 128 ≤ 131071 ∨ ¬ bt s i ≤ 191 := by omega
        have HV1 := Lib.hid hv1'
        have HV2 := Lib.hid hv2'
        clear hv1 hv2 hv3 hv1' hv2'
        by_cases t1 : bt s i < 128
        · have e4 : oneOf s = 0 := by rw [E1.out, HK.out, N1.out (.inl t1)]
          have E4 := Lib.hid e4; clear e4
          go_wp2
          go_ret
          exact ⟨by rw [E4.out]; rfl, rfl⟩
        by_cases t2 : 191 < bt s i
        · have e4 : oneOf s = 0 := by rw [E1.out, HK.out, N1.out (.inr t2)]
          have E4 := Lib.hid e4; clear e4
          go_wp2
          go_ret
          exact ⟨by rw [E4.out]; rfl, rfl⟩
        go_wp2
        go_roundg g
        case rel => exact ⟨i + 1, v * 64 + bt s i - 128, by go_num, by go_num, by omega, by omega, by omega, by omega, fun h => by have := HV1.out (by omega); omega, fun h => by have := HV2.out (by omega); omega, by omega, Lib.hid (by rw [HK.out, N2.out (by omega)]), rfl⟩
        case measure => omega
end Go.Proofs.Ythljnnjpmdgkoaa
