/- The package names: wrong, Runes, Key; what they answer, in the model's own decoding. The condition: a text is of less than 2^40 bytes. -/
import Derived.Test.YthljnnjpmdgkoaaProg
import Derived.Test.YthljnnjpmdgkoaaLib3
import Derived.Laws.RangeString
import Derived.Lib.Bytealg
import Derived.Lib.RuneCount
namespace Go.Proofs.Ythljnnjpmdgkoaa
open Go Go.Proofs Go.RowKit
set_option maxRecDepth 100000

/-- Does a text begin with the three bytes of the replacement sign? -/
def sign3 (s : ByteArray) : Bool := decide (3 ≤ s.size) && ((s.extract 0 3).toList == [239, 191, 189])

theorem hasPrefix_calls (w : World) (s : ByteArray) : Calls Try.prog 151 #[.string s, .string ⟨#[239, 191, 189]⟩] w fun e w' => e = .returned (.bool (sign3 s)) ∧ w = w' := by
  by_cases h : 3 ≤ s.size
  · have hz : (3 : Int) ≤ (s.size : Int) := by omega
    have hd : sign3 s = ((s.extract 0 3).toList == [239, 191, 189]) := by unfold sign3; simp [h]
    rw [hd]
    go_enter Try.func151, Try.ntmps151
    go_wp2
    go_ret
    exact ⟨rfl, rfl⟩
  · have hz : ¬ (3 : Int) ≤ (s.size : Int) := by omega
    have hd : sign3 s = false := by unfold sign3; simp [h]
    rw [hd]
    go_enter Try.func151, Try.ntmps151
    go_wp2
    go_ret
    exact ⟨rfl, rfl⟩

theorem hasPrefix'_calls (w : World) (s : ByteArray) : Calls Try.prog 140 #[.string s, .string ⟨#[239, 191, 189]⟩] w fun e w' => e = .returned (.bool (sign3 s)) ∧ w = w' := by
  go_enter Try.func140, Try.ntmps140
  go_wp2_with (go_at_call 151; refine (hasPrefix_calls _ _).mono ?_; rintro e w' ⟨rfl, rfl⟩)
  go_ret
  exact ⟨rfl, rfl⟩

/-- The place i of a text begins with no rune. -/
def wrongAt (s : ByteArray) (i : Nat) : Bool := (Utf8.decode s i).1 == 65533 && !sign3 (s.extract i s.size)

theorem wrong_calls (w : World) (s : ByteArray) (i r : Nat) (hi : i ≤ s.size) : Calls Try.prog 121 #[.string s, .int .i64 i, .int .i32 r] w fun e w' => e = .returned (.bool (r == 65533 && !sign3 (s.extract i s.size))) ∧ w = w' := by
  have hiz : (i : Int) ≤ (s.size : Int) := by omega
  have h1 : ((r : Int) == 65533) = (r == 65533) := by rw [Bool.eq_iff_iff, beq_iff_eq, beq_iff_eq]; omega
  by_cases h : r = 65533
  · subst h
    go_enter Try.func121, Try.ntmps121
    go_wp2_with (go_at_call 140; refine (hasPrefix'_calls _ _).mono ?_; rintro e w' ⟨rfl, rfl⟩)
    go_ret
    exact ⟨by simp, rfl⟩
  · have h2 : (r == 65533) = false := by simpa using h
    rw [h2] at h1
    go_enter Try.func121, Try.ntmps121
    go_wp2
    go_ret
    exact ⟨by rw [h2]; rfl, rfl⟩

/-- How many runes there are from a place on, and n; -1: one is wrong. -/
def runesK (s : ByteArray) : Nat → Nat → Int → Int
  | 0, _, n => n
  | g + 1, i, n => if i < s.size then (if wrongAt s i then -1 else runesK s g (i + (Utf8.decode s i).2) (n + 1)) else n
def runes (s : ByteArray) : Int := runesK s s.size 0 0

theorem decode_in (s : ByteArray) (i : Nat) (h : i < s.size) : 1 ≤ (Utf8.decode s i).2 ∧ i + (Utf8.decode s i).2 ≤ s.size := by
  refine ⟨Go.Lib.decode_width_pos s i h, ?_⟩
  unfold Utf8.decode
  simp only
  repeat' split
  all_goals simp_all
  all_goals omega

theorem runesK_more (s : ByteArray) : ∀ (g i : Nat) (n : Int) (g' : Nat), s.size ≤ i + g → g ≤ g' → runesK s g' i n = runesK s g i n
  | 0, i, n, g', h, _ => by
    cases g' with
    | zero => rfl
    | succ g' => unfold runesK; rw [if_neg (by omega)]
  | g + 1, i, n, g', h, hg => by
    cases g' with
    | zero => omega
    | succ g' =>
      unfold runesK
      by_cases hi : i < s.size
      · rw [if_pos hi, if_pos hi]
        cases wrongAt s i
        · simp only [Bool.false_eq_true, if_false]
          have := (decode_in s i hi).1
          exact runesK_more s g _ _ g' (by omega) (by omega)
        · rfl
      · rw [if_neg hi, if_neg hi]

theorem indexByte0_calls (w : World) (s : ByteArray) : Calls Try.prog 122 #[.string s, .int .u8 0] w fun e w' => e = .returned (.int .i64 (firstIdx s 0)) ∧ w = w' := by
  have hx : ∀ W, (callFunc 141 #[.string s, .int .u8 0]).run Try.prog W = .ok (.value (.int .i64 (firstIdx s 0))) W := by
    intro W
    rw [run_callFunc_extern (e := Extern.BytealgIndexByte.indexByte) Try.func141 (by kernel_rfl) (by kernel_rfl) (by kernel_rfl) (by kernel_rfl), run_indexByte_string]
    rfl
  go_enter Try.func122, Try.ntmps122
  go_wp2
  go_ret
  exact ⟨rfl, rfl⟩
theorem indexByte_calls (w : World) (s : ByteArray) : Calls Try.prog 93 #[.string s, .int .u8 0] w fun e w' => e = .returned (.int .i64 (firstIdx s 0)) ∧ w = w' := by
  go_enter Try.func93, Try.ntmps93
  go_wp2_with (go_at_call 122; refine (indexByte0_calls _ _).mono ?_; rintro e w' ⟨rfl, rfl⟩)
  go_ret
  exact ⟨rfl, rfl⟩

theorem run_next_at {P : Program} (w : World) (b : Nat) (s : ByteArray) (pos : Nat) (ty : TypeId) (hb : w.heap[b]? = some (.stringIter s pos)) (h : pos < s.size) :
    (Instr.next (.pointer (some ⟨b, 0, none⟩)) true ty).run P w =
      .ok (.tuple #[.bool true, .int .i64 pos, .int .i32 (Utf8.decode s pos).1]) (ChangeMaps.setBlock w b (.stringIter s (pos + (Utf8.decode s pos).2))) := by
  simp [Instr.next, getObj, setObj, Sem.run, Result.andThen, hb, h, goInt, ChangeMaps.setBlock]
theorem run_next_over {P : Program} (w : World) (b : Nat) (s : ByteArray) (pos : Nat) (ty : TypeId) (hb : w.heap[b]? = some (.stringIter s pos)) (h : ¬ pos < s.size) :
    (Instr.next (.pointer (some ⟨b, 0, none⟩)) true ty).run P w = .ok (.tuple #[.bool false]) w := by
  simp [Instr.next, getObj, Sem.run, hb, h]

theorem setB_other (w : World) (b k : Nat) (o : Obj) (h : k ≠ b) : (ChangeMaps.setBlock w b o).heap[k]? = w.heap[k]? := by
  unfold ChangeMaps.setBlock
  exact Array.getElem?_setIfInBounds_ne (fun e => h e.symm)
theorem setB_at (w : World) (b : Nat) (o : Obj) (h : b < w.heap.size) : (ChangeMaps.setBlock w b o).heap[b]? = some o := by
  unfold ChangeMaps.setBlock
  simp [h]

theorem Runes_calls (w : World) (s : ByteArray) (hs : s.size ≤ 1099511627776) : Calls Try.prog 92 #[.string s] w fun e w' => e = .returned (.int .i64 (runes s)) ∧ Fr No w w' := by
  go_enter Try.func92, Try.ntmps92
  go_wp2
  go_loopg [3] s.size (fun g s3 wr => ∃ (pos : Nat) (n : Int), s3 = .int .i64 n ∧ pos + g = s.size ∧ 0 ≤ n ∧ n ≤ pos ∧ Hid (runesK s g pos n = runes s) ∧ Hid (wr.heap[w.heap.size]? = some (.stringIter s pos)) ∧ Hid (Fr No w wr))
  case atStart => exact ⟨0, 0, rfl, by simp, by omega, by omega, Lib.hid rfl, Lib.hid (World.iter_heap _ _ _), Lib.hid ((Fr.refl No w).alloc _)⟩
  case round =>
    obtain ⟨pos, n, rfl, hg, hn0, hn1, HK, HB, HF⟩ := hrel
    by_cases hp : pos < s.size
    · have hnx := fun ty => run_next_at (P := Try.prog) wr w.heap.size s pos ty HB.out hp
      have hd := decode_in s pos hp
      have hfw : Fr No w (ChangeMaps.setBlock wr w.heap.size (.stringIter s (pos + (Utf8.decode s pos).2))) :=
        ⟨HF.out.os, HF.out.tape, HF.out.output, by have := HF.out.size; simpa [ChangeMaps.setBlock] using this, fun k hk hS => (setB_other wr _ k _ (by omega)).trans (HF.out.block k hk hS)⟩
      have hbw := setB_at wr w.heap.size (.stringIter s (pos + (Utf8.decode s pos).2)) (heap_lt HB.out)
      have hstep : runesK s gk pos n = if wrongAt s pos then -1 else runesK s (s.size - (pos + (Utf8.decode s pos).2)) (pos + (Utf8.decode s pos).2) (n + 1) := by
        obtain ⟨k, rfl⟩ : ∃ k, gk = k + 1 := ⟨gk - 1, by omega⟩
        conv => lhs; unfold runesK
        rw [if_pos hp]
        congr 1
        exact runesK_more s _ _ _ _ (by omega) (by omega)
      have HFW := Lib.hid hfw
      have HBW := Lib.hid hbw
      have hwr := fun W => wrong_calls W s pos (Utf8.decode s pos).1 (by omega)
      have hwa : ((Utf8.decode s pos).1 == 65533 && !sign3 (s.extract pos s.size)) = wrongAt s pos := rfl
      simp only [hwa] at hwr
      generalize ChangeMaps.setBlock wr w.heap.size (.stringIter s (pos + (Utf8.decode s pos).2)) = W1 at *
      generalize Utf8.decode s pos = d at *
      clear hfw hbw hwa
      cases hw : wrongAt s pos
      · rw [hw] at hstep hwr
        have HS := Lib.hid hstep
        clear hstep hw
        go_wp2_with (go_at_call 121; refine (hwr _).mono ?_; rintro e w' ⟨rfl, rfl⟩)
        go_roundg (s.size - (pos + d.2))
        case rel => exact ⟨pos + d.2, n + 1, rfl, by omega, by omega, by omega, Lib.hid (by rw [← HK.out, HS.out]; simp), HBW, HFW⟩
        case measure => omega
      · rw [hw] at hstep hwr
        have HS := Lib.hid hstep
        clear hstep hw
        go_wp2_with (go_at_call 121; refine (hwr _).mono ?_; rintro e w' ⟨rfl, rfl⟩)
        go_ret
        exact ⟨by rw [← HK.out, HS.out]; rfl, HFW.out⟩
    · have hnx := fun ty => run_next_over (P := Try.prog) wr w.heap.size s pos ty HB.out hp
      have hend : runesK s gk pos n = n := by
        obtain rfl : gk = 0 := by omega
        rfl
      have HE := Lib.hid hend
      clear hend
      go_wp2
      go_ret
      exact ⟨by rw [← HK.out, HE.out]; rfl, HF.out⟩

/-- What is wrong with a key. -/
def keyE (s : ByteArray) : Int := if runes s < 1 ∨ 0 ≤ firstIdx s 0 then 30 else if 64 < s.size then 31 else 0

theorem Key_calls (w : World) (s : ByteArray) (hs : s.size ≤ 1099511627776) : Calls Try.prog 58 #[.string s] w fun e w' => e = .returned (.int .i64 (keyE s)) ∧ Fr No w w' := by
  have hr := fun W => Runes_calls W s hs
  have hx := fun W => indexByte_calls W s
  have hb : 0 ≤ runes s ∨ runes s < 0 := by omega
  unfold keyE
  generalize runes s = r at *
  generalize firstIdx s 0 = x at *
  by_cases h1 : r < 1
  · have h1' : ¬ 1 ≤ r := by omega
    rw [if_pos (.inl h1)]
    go_enter Try.func58, Try.ntmps58
    go_wp2_with (first | (go_at_call 92; refine (hr _).mono ?_; rintro e w1 ⟨rfl, hf⟩) | (go_at_call 93; refine (hx _).mono ?_; rintro e w' ⟨rfl, rfl⟩))
    go_ret
    exact ⟨rfl, hf⟩
  · by_cases h2 : 0 ≤ x
    · rw [if_pos (.inr h2)]
      go_enter Try.func58, Try.ntmps58
      go_wp2_with (first | (go_at_call 92; refine (hr _).mono ?_; rintro e w1 ⟨rfl, hf⟩) | (go_at_call 93; refine (hx _).mono ?_; rintro e w' ⟨rfl, rfl⟩))
      go_ret
      exact ⟨rfl, hf⟩
    · rw [if_neg (by omega)]
      by_cases h3 : 64 < s.size
      · have h3' : (64 : Int) < (s.size : Int) := by omega
        rw [if_pos h3]
        go_enter Try.func58, Try.ntmps58
        go_wp2_with (first | (go_at_call 92; refine (hr _).mono ?_; rintro e w1 ⟨rfl, hf⟩) | (go_at_call 93; refine (hx _).mono ?_; rintro e w' ⟨rfl, rfl⟩))
        go_ret
        exact ⟨rfl, hf⟩
      · have h3' : ¬ (64 : Int) < (s.size : Int) := by omega
        rw [if_neg h3]
        go_enter Try.func58, Try.ntmps58
        go_wp2_with (first | (go_at_call 92; refine (hr _).mono ?_; rintro e w1 ⟨rfl, hf⟩) | (go_at_call 93; refine (hx _).mono ?_; rintro e w' ⟨rfl, rfl⟩))
        go_ret
        exact ⟨rfl, hf⟩
end Go.Proofs.Ythljnnjpmdgkoaa
