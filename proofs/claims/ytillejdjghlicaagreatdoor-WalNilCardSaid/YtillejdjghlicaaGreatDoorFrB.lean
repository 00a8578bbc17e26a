/- Frames in memory: a head is read. The condition: there are eight bytes. -/
import Derived.Test.YtillejdjghlicaaGreatDoorFrA
import Derived.Laws.BitsAllLaws
namespace Go.Proofs.YtillejdjghlicaaGreatDoor
open Go Go.Proofs Go.RowKit
set_option maxRecDepth 100000

/-- What bytes are as a number, the least first. -/
def leN : List UInt8 → Nat
  | [] => 0
  | b :: l => b.toNat + 256 * leN l
theorem leN_snoc : ∀ (l : List UInt8) (b : UInt8), leN (l ++ [b]) = leN l + b.toNat * 256 ^ l.length
  | [], b => by simp [leN]
  | a :: l, b => by
    show a.toNat + 256 * leN (l ++ [b]) = a.toNat + 256 * leN l + _
    rw [leN_snoc l b, List.length_cons, Nat.pow_succ, Nat.mul_add, ← Nat.add_assoc]
    congr 1
    rw [Nat.mul_comm, Nat.mul_assoc]
theorem leN_lt : ∀ l : List UInt8, leN l < 256 ^ l.length
  | [] => by simp [leN]
  | a :: l => by
    have := leN_lt l
    have ha := a.toNat_lt
    show a.toNat + 256 * leN l < _
    rw [List.length_cons, Nat.pow_succ]
    omega
theorem leV_leN {l : List UInt8} (h : l.length = 4) : leV l = leN l := by
  match l, h with
  | [a, b, c, d], _ => simp [leV, leN]; omega
theorem run_idx (s : List UInt8) (i : Nat) (b : UInt8) (h : s[i]? = some b) (W : World) : (Instr.index 9 (.string (toB s)) (.int .i64 i)).run Tryz.prog W = .ok (.int .u8 b.toNat) W := by
  have hl := (List.getElem?_eq_some_iff.1 h).1
  have hz := toB_size s
  rw [run_index_string W 9 (toB s) .i64 i Tryz.underlying9, dif_pos (by rw [hz]; omega)]
  have e : (toB s)[i]'(by rw [hz]; exact hl) = b := by
    have := (List.getElem?_eq_some_iff.1 h).2
    rw [← this]
    rfl
  show Result.ok (Value.int .u8 (((toB s)[i]'(by rw [hz]; exact hl)).toNat : Nat)) W = _
  rw [e]
theorem or_step (l : List UInt8) (b : UInt8) (h : l.length < 4) : bits .or .u32 (leN l) ((b.toNat : Int) * 2 ^ (8 * l.length)) = leN (l ++ [b]) := by
  have h1 := leN_lt l
  have hb := b.toNat_lt
  have hp : (256 : Nat) ^ l.length = 2 ^ (8 * l.length) := by rw [show (256 : Nat) = 2 ^ 8 from rfl, ← Nat.pow_mul]
  have hle : 2 ^ (8 * l.length) ≤ 16777216 := by
    have : 2 ^ (8 * l.length) ≤ 2 ^ 24 := Nat.pow_le_pow_right (by decide) (by omega)
    simpa using this
  have hmul : b.toNat * 2 ^ (8 * l.length) ≤ 255 * 16777216 := Nat.mul_le_mul (by omega) hle
  have hx : ((b.toNat : Int) * 2 ^ (8 * l.length)) = ((b.toNat * 2 ^ (8 * l.length) : Nat) : Int) := by push_cast; rfl
  rw [hx, u32_or_nat _ _ (by omega) (by omega), leN_snoc, hp]
  rw [hp] at h1
  have h2 := Nat.two_pow_add_eq_or_of_lt h1 b.toNat
  rw [Nat.or_comm, Nat.mul_comm b.toNat, ← h2]
  congr 1
  omega
/-- The first number's bytes, and the second one's, behind k rounds. -/
def aV (s : List UInt8) (k : Nat) : Nat := leN ((s.take 4).take k)
def bV (s : List UInt8) (k : Nat) : Nat := leN (((s.drop 4).take 4).take (k - 4))
theorem aV_step {s : List UInt8} {k : Nat} {b : UInt8} (hk : k < 4) (h : s[k]? = some b) : bits .or .u32 (aV s k) ((b.toNat : Int) * 2 ^ (8 * k)) = aV s (k + 1) ∧ bV s (k + 1) = bV s k := by
  have hl := (List.getElem?_eq_some_iff.1 h).1
  unfold aV bV
  have e : (s.take 4).take (k + 1) = (s.take 4).take k ++ [b] := by rw [List.take_add_one, List.getElem?_take_of_lt hk, h]; rfl
  have hlen : ((s.take 4).take k).length = k := by rw [List.length_take, List.length_take]; omega
  have := or_step ((s.take 4).take k) b (by omega)
  rw [hlen] at this
  rw [e, show k + 1 - 4 = 0 by omega, show k - 4 = 0 by omega]
  exact ⟨this, rfl⟩
theorem bV_step {s : List UInt8} {k : Nat} {b : UInt8} (hk : 4 ≤ k ∧ k < 8) (h : s[k]? = some b) : bits .or .u32 (bV s k) ((b.toNat : Int) * 2 ^ (8 * (k - 4))) = bV s (k + 1) ∧ aV s (k + 1) = aV s k := by
  have hl := (List.getElem?_eq_some_iff.1 h).1
  unfold aV bV
  have e : ((s.drop 4).take 4).take (k + 1 - 4) = ((s.drop 4).take 4).take (k - 4) ++ [b] := by
    rw [show k + 1 - 4 = (k - 4) + 1 by omega, List.take_add_one, List.getElem?_take_of_lt (by omega), List.getElem?_drop, show 4 + (k - 4) = k by omega, h]
    rfl
  have hlen : (((s.drop 4).take 4).take (k - 4)).length = k - 4 := by rw [List.length_take, List.length_take, List.length_drop]; omega
  have := or_step (((s.drop 4).take 4).take (k - 4)) b (by omega)
  rw [hlen] at this
  rw [e, List.take_of_length_le (i := k + 1) (by rw [List.length_take]; omega), List.take_of_length_le (i := k) (by rw [List.length_take]; omega)]
  exact ⟨this, rfl⟩
theorem leV_lt (l : List UInt8) : leV l < 4294967296 := by
  match l with
  | [a, b, c, d] =>
    have := a.toNat_lt
    have := b.toNat_lt
    have := c.toNat_lt
    have := d.toNat_lt
    simp only [leV]
    omega
  | [] => decide
  | [_] => exact (by decide : 0 < 4294967296)
  | [_, _] => exact (by decide : 0 < 4294967296)
  | [_, _, _] => exact (by decide : 0 < 4294967296)
  | _ :: _ :: _ :: _ :: _ :: _ => exact (by decide : 0 < 4294967296)
set_option maxHeartbeats 8000000 in
theorem read_calls (w : World) (s : List UInt8) (hs : 8 ≤ s.length) (hm : s.length ≤ 1099511627776) :
    Calls Tryz.prog 85 #[.string (toB s)] w fun e w' => e = .returned (.agg #[.int .i64 (leV (s.take 4)), .int .u32 (leV ((s.drop 4).take 4))]) ∧ Fr No w w' := by
  have hsz := toB_size s
  have hb0 := alloc_old (alloc_at w (.cells #[.int .i64 0, .int .u32 0] 79) _ rfl) (.cells #[.int .u32 0, .int .u32 0] 146)
  have hb1 := alloc_at (w.alloc (.cells #[.int .i64 0, .int .u32 0] 79)) (.cells #[.int .u32 0, .int .u32 0] 146) (w.heap.size + 1) (by simp)
  have hf : Fr No w ((w.alloc (.cells #[.int .i64 0, .int .u32 0] 79)).alloc (.cells #[.int .u32 0, .int .u32 0] 146)) := ((Fr.refl No w).alloc _).alloc _
  have hia0 : ∀ W, (Instr.indexAt 146 (.pointer (some ⟨w.heap.size + 1, 0, none⟩)) (.int .i64 0)).run Tryz.prog W = .ok (.pointer (some ⟨w.heap.size + 1, 0, none⟩)) W := fun _ => by kernel_rfl
  have hia1 : ∀ W, (Instr.indexAt 146 (.pointer (some ⟨w.heap.size + 1, 0, none⟩)) (.int .i64 1)).run Tryz.prog W = .ok (.pointer (some ⟨w.heap.size + 1, 1, none⟩)) W := fun _ => by kernel_rfl
  have q0 : IntKind.i64.wrap 0 = 0 := rfl
  have q1 : IntKind.i64.wrap 1 = 1 := rfl
  have q2 : IntKind.i64.wrap 2 = 2 := rfl
  have q3 : IntKind.i64.wrap 3 = 3 := rfl
  have q8 : IntKind.i64.wrap 8 = 8 := rfl
  have q16 : IntKind.i64.wrap 16 = 16 := rfl
  have q24 : IntKind.i64.wrap 24 = 24 := rfl
  have HB0 := Lib.hid hb0
  have HB1 := Lib.hid hb1
  have HF := Lib.hid hf
  have HIX := Lib.hid fun i b h => run_idx s i b h
  have HGET : Hid (∀ k, k < 8 → ∃ b, s[k]? = some b) := Lib.hid fun k hk => ⟨_, List.getElem?_eq_getElem (by omega)⟩
  have HAV : Hid (aV s 8 = leV (s.take 4)) := Lib.hid (by
    unfold aV
    rw [List.take_of_length_le (by rw [List.length_take]; omega), leV_leN (by rw [List.length_take]; omega)])
  have HBV : Hid (bV s 8 = leV ((s.drop 4).take 4)) := Lib.hid (by
    unfold bV
    rw [List.take_of_length_le (by rw [List.length_take]; omega), leV_leN (by rw [List.length_take, List.length_drop]; omega)])
  obtain ⟨B, hB⟩ : ∃ B, toB s = B := ⟨_, rfl⟩
  rw [hB] at HIX
  rw [hB]
  clear hb0 hb1 hf hsz hB
  go_enter Tryz.func85, Tryz.ntmps85
  go_upto_region 3 with fail
  generalize ((w.alloc (.cells #[.int .i64 0, .int .u32 0] 79)).alloc (.cells #[.int .u32 0, .int .u32 0] 146)) = W0 at *
  go_loopg [5] 8 (fun g s5 wr => ∃ k : Nat, s5 = .int .i64 k ∧ k + g = 8 ∧ Hid (wr.heap[w.heap.size + 1]? = some (.cells #[.int .u32 (aV s k), .int .u32 (bV s k)] 146 (0, 0))) ∧ Hid (wr.heap[w.heap.size]? = some (.cells #[.int .i64 0, .int .u32 0] 79 (0, 0))) ∧ Hid (Fr No w wr))
  case atStart => exact ⟨0, rfl, rfl, HB1, HB0, HF⟩
  case round =>
    obtain ⟨k, rfl, hk, H1, H0, HR⟩ := hrel
    cases gk with
    | zero =>
      have hk8 : k = 8 := by omega
      subst hk8
      rw [HAV.out, HBV.out] at H1
      have hx1 := leV_lt (s.take 4)
      obtain ⟨x, hx⟩ : ∃ x, leV (s.take 4) = x := ⟨_, rfl⟩
      obtain ⟨y, hy⟩ : ∃ y, leV ((s.drop 4).take 4) = y := ⟨_, rfl⟩
      rw [hx] at H1 hx1
      rw [hy] at H1
      have HXY := Lib.hid (And.intro hx hy)
      clear hx hy
      have hcv : IntKind.i64.wrap (x : Int) = x := by rw [IntKind.wrap_i64]; omega
      have c0 := cellAt H1.out 0 (v := .int .u32 x) rfl
      have c1 := cellAt H1.out 1 (v := .int .u32 y) rfl
      have d0 := cellAt H0.out 0 (v := .int .i64 0) rfl
      have d1 := cellAt H0.out 1 (v := .int .u32 0) rfl
      have f0 : ∀ j, wr.frozen? ⟨w.heap.size, j, none⟩ = false := fun j => by unfold World.frozen?; rw [H0.out]; simp
      have l1 : w.heap.size + 1 < wr.heap.size := heap_lt H1.out
      go_wp2
      have hb2 : ((wr.setCell ⟨w.heap.size, 0, none⟩ (.int .i64 x)).setCell ⟨w.heap.size, 1, none⟩ (.int .u32 y)).heap[w.heap.size]? = some (.cells #[.int .i64 x, .int .u32 y] 79 (0, 0)) := by
        rw [heap_setCell_same (heap_setCell_same H0.out 0 _) 1 _]
        rfl
      have hf2 : Fr No w ((wr.setCell ⟨w.heap.size, 0, none⟩ (.int .i64 x)).setCell ⟨w.heap.size, 1, none⟩ (.int .u32 y)) := (HR.out.setCell (p := ⟨w.heap.size, 0, none⟩) (.inr (Nat.le_refl _)) _).setCell (p := ⟨w.heap.size, 1, none⟩) (.inr (Nat.le_refl _)) _
      exact bodyPost_ret (results_cell_row (P := Tryz.prog) rfl _ _ w.heap.size 79 _ (0, 0) _ rfl hb2 Tryz.underlying79 rfl (by kernel_rfl)) rfl ⟨by rw [HXY.out.1, HXY.out.2], hf2⟩
    | succ q =>
      rcases (show k = 0 ∨ k = 1 ∨ k = 2 ∨ k = 3 ∨ k = 4 ∨ k = 5 ∨ k = 6 ∨ k = 7 by omega) with rfl | rfl | rfl | rfl | rfl | rfl | rfl | rfl
      · obtain ⟨b, hb⟩ := HGET.out 0 (by decide)
        have hix : ∀ W, (Instr.index 9 (.string B) (.int .i64 0)).run Tryz.prog W = .ok (.int .u8 b.toNat) W := HIX.out 0 b hb
        obtain ⟨g1, g2⟩ := aV_step (k := 0) (by decide) hb
        have hbl := b.toNat_lt
        have hw0 : (b.toNat : Int) % 4294967296 = b.toNat := by omega
        have hw1 : IntKind.u32.wrap (b.toNat : Int) = b.toNat := by rw [IntKind.wrap_u32]; omega
        have hw2 : IntKind.u32.wrap ((b.toNat : Int) * 1) = b.toNat * 1 := by rw [IntKind.wrap_u32]; omega
        have hw3 : (b.toNat : Int) * 1 % 4294967296 = b.toNat * 1 := by omega
        obtain ⟨x, hx⟩ : ∃ x, aV s 0 = x := ⟨_, rfl⟩
        obtain ⟨y, hy⟩ : ∃ y, bV s 0 = y := ⟨_, rfl⟩
        rw [hx, hy] at H1
        have HG : Hid ((aV s 1 : Int) = bits .or .u32 x ((b.toNat : Int))) := Lib.hid (by rw [← g1, hx]; simp)
        have HO : Hid (bV s 1 = y) := Lib.hid (by rw [← hy]; exact g2)
        clear g1 g2 hx hy hb
        have c0 : wr.drew.cell? ⟨w.heap.size + 1, 0, none⟩ = some (.int .u32 x) := cellAt (show wr.drew.heap[w.heap.size + 1]? = _ from H1.out) 0 rfl
        have f0 : wr.drew.frozen? ⟨w.heap.size + 1, 0, none⟩ = false := by unfold World.frozen?; rw [show wr.drew.heap[w.heap.size + 1]? = _ from H1.out]; simp
        have l1 : w.heap.size + 1 < wr.drew.heap.size := heap_lt (show wr.drew.heap[w.heap.size + 1]? = _ from H1.out)
        go_wp2
        refine wp_region_still_tail 14 (by kernel_rfl) (by kernel_rfl) ?_
        simp only [List.take_succ_cons, List.take_zero, List.drop_succ_cons, List.drop_zero]
        change wpStill _ _ wr.drew _ _ _
        repeat (refine wpStill_step (fun K hK => ?_); go_simp; refine hK _ ?_; clear hK K)
        refine wpStill_nil ?_
        change wpList _ _ _ _ _ wr.drew
        go_wp2
        go_roundg q
        case rel =>
          refine ⟨1, by go_num, by omega, Lib.hid ?_, Lib.hid (((Fr.refl (fun x => x = w.heap.size + 1) wr).setCell (p := ⟨w.heap.size + 1, 0, none⟩) (.inl rfl) _).drew.heap H0.out (by omega)), Lib.hid (HR.out.setCell (p := ⟨w.heap.size + 1, 0, none⟩) (.inr (Nat.le_succ _)) _).drew⟩
          rw [HG.out, HO.out]
          refine (heap_setCell_same H1.out 0 _).trans ?_
          rfl
        case measure => omega
      · obtain ⟨b, hb⟩ := HGET.out 1 (by decide)
        have hix : ∀ W, (Instr.index 9 (.string B) (.int .i64 1)).run Tryz.prog W = .ok (.int .u8 b.toNat) W := HIX.out 1 b hb
        obtain ⟨g1, g2⟩ := aV_step (k := 1) (by decide) hb
        have hbl := b.toNat_lt
        have hw0 : (b.toNat : Int) % 4294967296 = b.toNat := by omega
        have hw1 : IntKind.u32.wrap (b.toNat : Int) = b.toNat := by rw [IntKind.wrap_u32]; omega
        have hw2 : IntKind.u32.wrap ((b.toNat : Int) * 256) = b.toNat * 256 := by rw [IntKind.wrap_u32]; omega
        have hw3 : (b.toNat : Int) * 256 % 4294967296 = b.toNat * 256 := by omega
        obtain ⟨x, hx⟩ : ∃ x, aV s 1 = x := ⟨_, rfl⟩
        obtain ⟨y, hy⟩ : ∃ y, bV s 1 = y := ⟨_, rfl⟩
        rw [hx, hy] at H1
        have HG : Hid ((aV s 2 : Int) = bits .or .u32 x ((b.toNat : Int) * 256)) := Lib.hid (by rw [← g1, hx]; simp)
        have HO : Hid (bV s 2 = y) := Lib.hid (by rw [← hy]; exact g2)
        clear g1 g2 hx hy hb
        have c0 : wr.drew.cell? ⟨w.heap.size + 1, 0, none⟩ = some (.int .u32 x) := cellAt (show wr.drew.heap[w.heap.size + 1]? = _ from H1.out) 0 rfl
        have f0 : wr.drew.frozen? ⟨w.heap.size + 1, 0, none⟩ = false := by unfold World.frozen?; rw [show wr.drew.heap[w.heap.size + 1]? = _ from H1.out]; simp
        have l1 : w.heap.size + 1 < wr.drew.heap.size := heap_lt (show wr.drew.heap[w.heap.size + 1]? = _ from H1.out)
        go_wp2
        refine wp_region_still_tail 14 (by kernel_rfl) (by kernel_rfl) ?_
        simp only [List.take_succ_cons, List.take_zero, List.drop_succ_cons, List.drop_zero]
        change wpStill _ _ wr.drew _ _ _
        repeat (refine wpStill_step (fun K hK => ?_); go_simp; refine hK _ ?_; clear hK K)
        refine wpStill_nil ?_
        change wpList _ _ _ _ _ wr.drew
        go_wp2
        go_roundg q
        case rel =>
          refine ⟨2, by go_num, by omega, Lib.hid ?_, Lib.hid (((Fr.refl (fun x => x = w.heap.size + 1) wr).setCell (p := ⟨w.heap.size + 1, 0, none⟩) (.inl rfl) _).drew.heap H0.out (by omega)), Lib.hid (HR.out.setCell (p := ⟨w.heap.size + 1, 0, none⟩) (.inr (Nat.le_succ _)) _).drew⟩
          rw [HG.out, HO.out]
          refine (heap_setCell_same H1.out 0 _).trans ?_
          rfl
        case measure => omega
      · obtain ⟨b, hb⟩ := HGET.out 2 (by decide)
        have hix : ∀ W, (Instr.index 9 (.string B) (.int .i64 2)).run Tryz.prog W = .ok (.int .u8 b.toNat) W := HIX.out 2 b hb
        obtain ⟨g1, g2⟩ := aV_step (k := 2) (by decide) hb
        have hbl := b.toNat_lt
        have hw0 : (b.toNat : Int) % 4294967296 = b.toNat := by omega
        have hw1 : IntKind.u32.wrap (b.toNat : Int) = b.toNat := by rw [IntKind.wrap_u32]; omega
        have hw2 : IntKind.u32.wrap ((b.toNat : Int) * 65536) = b.toNat * 65536 := by rw [IntKind.wrap_u32]; omega
        have hw3 : (b.toNat : Int) * 65536 % 4294967296 = b.toNat * 65536 := by omega
        obtain ⟨x, hx⟩ : ∃ x, aV s 2 = x := ⟨_, rfl⟩
        obtain ⟨y, hy⟩ : ∃ y, bV s 2 = y := ⟨_, rfl⟩
        rw [hx, hy] at H1
        have HG : Hid ((aV s 3 : Int) = bits .or .u32 x ((b.toNat : Int) * 65536)) := Lib.hid (by rw [← g1, hx]; simp)
        have HO : Hid (bV s 3 = y) := Lib.hid (by rw [← hy]; exact g2)
        clear g1 g2 hx hy hb
        have c0 : wr.drew.cell? ⟨w.heap.size + 1, 0, none⟩ = some (.int .u32 x) := cellAt (show wr.drew.heap[w.heap.size + 1]? = _ from H1.out) 0 rfl
        have f0 : wr.drew.frozen? ⟨w.heap.size + 1, 0, none⟩ = false := by unfold World.frozen?; rw [show wr.drew.heap[w.heap.size + 1]? = _ from H1.out]; simp
        have l1 : w.heap.size + 1 < wr.drew.heap.size := heap_lt (show wr.drew.heap[w.heap.size + 1]? = _ from H1.out)
        go_wp2
        refine wp_region_still_tail 14 (by kernel_rfl) (by kernel_rfl) ?_
        simp only [List.take_succ_cons, List.take_zero, List.drop_succ_cons, List.drop_zero]
        change wpStill _ _ wr.drew _ _ _
        repeat (refine wpStill_step (fun K hK => ?_); go_simp; refine hK _ ?_; clear hK K)
        refine wpStill_nil ?_
        change wpList _ _ _ _ _ wr.drew
        go_wp2
        go_roundg q
        case rel =>
          refine ⟨3, by go_num, by omega, Lib.hid ?_, Lib.hid (((Fr.refl (fun x => x = w.heap.size + 1) wr).setCell (p := ⟨w.heap.size + 1, 0, none⟩) (.inl rfl) _).drew.heap H0.out (by omega)), Lib.hid (HR.out.setCell (p := ⟨w.heap.size + 1, 0, none⟩) (.inr (Nat.le_succ _)) _).drew⟩
          rw [HG.out, HO.out]
          refine (heap_setCell_same H1.out 0 _).trans ?_
          rfl
        case measure => omega
      · obtain ⟨b, hb⟩ := HGET.out 3 (by decide)
        have hix : ∀ W, (Instr.index 9 (.string B) (.int .i64 3)).run Tryz.prog W = .ok (.int .u8 b.toNat) W := HIX.out 3 b hb
        obtain ⟨g1, g2⟩ := aV_step (k := 3) (by decide) hb
        have hbl := b.toNat_lt
        have hw0 : (b.toNat : Int) % 4294967296 = b.toNat := by omega
        have hw1 : IntKind.u32.wrap (b.toNat : Int) = b.toNat := by rw [IntKind.wrap_u32]; omega
        have hw2 : IntKind.u32.wrap ((b.toNat : Int) * 16777216) = b.toNat * 16777216 := by rw [IntKind.wrap_u32]; omega
        have hw3 : (b.toNat : Int) * 16777216 % 4294967296 = b.toNat * 16777216 := by omega
        obtain ⟨x, hx⟩ : ∃ x, aV s 3 = x := ⟨_, rfl⟩
        obtain ⟨y, hy⟩ : ∃ y, bV s 3 = y := ⟨_, rfl⟩
        rw [hx, hy] at H1
        have HG : Hid ((aV s 4 : Int) = bits .or .u32 x ((b.toNat : Int) * 16777216)) := Lib.hid (by rw [← g1, hx]; simp)
        have HO : Hid (bV s 4 = y) := Lib.hid (by rw [← hy]; exact g2)
        clear g1 g2 hx hy hb
        have c0 : wr.drew.cell? ⟨w.heap.size + 1, 0, none⟩ = some (.int .u32 x) := cellAt (show wr.drew.heap[w.heap.size + 1]? = _ from H1.out) 0 rfl
        have f0 : wr.drew.frozen? ⟨w.heap.size + 1, 0, none⟩ = false := by unfold World.frozen?; rw [show wr.drew.heap[w.heap.size + 1]? = _ from H1.out]; simp
        have l1 : w.heap.size + 1 < wr.drew.heap.size := heap_lt (show wr.drew.heap[w.heap.size + 1]? = _ from H1.out)
        go_wp2
        refine wp_region_still_tail 14 (by kernel_rfl) (by kernel_rfl) ?_
        simp only [List.take_succ_cons, List.take_zero, List.drop_succ_cons, List.drop_zero]
        change wpStill _ _ wr.drew _ _ _
        repeat (refine wpStill_step (fun K hK => ?_); go_simp; refine hK _ ?_; clear hK K)
        refine wpStill_nil ?_
        change wpList _ _ _ _ _ wr.drew
        go_wp2
        go_roundg q
        case rel =>
          refine ⟨4, by go_num, by omega, Lib.hid ?_, Lib.hid (((Fr.refl (fun x => x = w.heap.size + 1) wr).setCell (p := ⟨w.heap.size + 1, 0, none⟩) (.inl rfl) _).drew.heap H0.out (by omega)), Lib.hid (HR.out.setCell (p := ⟨w.heap.size + 1, 0, none⟩) (.inr (Nat.le_succ _)) _).drew⟩
          rw [HG.out, HO.out]
          refine (heap_setCell_same H1.out 0 _).trans ?_
          rfl
        case measure => omega
      · obtain ⟨b, hb⟩ := HGET.out 4 (by decide)
        have hix : ∀ W, (Instr.index 9 (.string B) (.int .i64 4)).run Tryz.prog W = .ok (.int .u8 b.toNat) W := HIX.out 4 b hb
        obtain ⟨g1, g2⟩ := bV_step (k := 4) (by decide) hb
        have hbl := b.toNat_lt
        have hw0 : (b.toNat : Int) % 4294967296 = b.toNat := by omega
        have hw1 : IntKind.u32.wrap (b.toNat : Int) = b.toNat := by rw [IntKind.wrap_u32]; omega
        have hw2 : IntKind.u32.wrap ((b.toNat : Int) * 1) = b.toNat * 1 := by rw [IntKind.wrap_u32]; omega
        have hw3 : (b.toNat : Int) * 1 % 4294967296 = b.toNat * 1 := by omega
        obtain ⟨x, hx⟩ : ∃ x, aV s 4 = x := ⟨_, rfl⟩
        obtain ⟨y, hy⟩ : ∃ y, bV s 4 = y := ⟨_, rfl⟩
        rw [hx, hy] at H1
        have HG : Hid ((bV s 5 : Int) = bits .or .u32 y ((b.toNat : Int))) := Lib.hid (by rw [← g1, hy]; simp)
        have HO : Hid (aV s 5 = x) := Lib.hid (by rw [← hx]; exact g2)
        clear g1 g2 hx hy hb
        have c0 : wr.drew.cell? ⟨w.heap.size + 1, 1, none⟩ = some (.int .u32 y) := cellAt (show wr.drew.heap[w.heap.size + 1]? = _ from H1.out) 1 rfl
        have f0 : wr.drew.frozen? ⟨w.heap.size + 1, 1, none⟩ = false := by unfold World.frozen?; rw [show wr.drew.heap[w.heap.size + 1]? = _ from H1.out]; simp
        have l1 : w.heap.size + 1 < wr.drew.heap.size := heap_lt (show wr.drew.heap[w.heap.size + 1]? = _ from H1.out)
        go_wp2
        refine wp_region_still_tail 14 (by kernel_rfl) (by kernel_rfl) ?_
        simp only [List.take_succ_cons, List.take_zero, List.drop_succ_cons, List.drop_zero]
        change wpStill _ _ wr.drew _ _ _
        repeat (refine wpStill_step (fun K hK => ?_); go_simp; refine hK _ ?_; clear hK K)
        refine wpStill_nil ?_
        change wpList _ _ _ _ _ wr.drew
        go_wp2
        go_roundg q
        case rel =>
          refine ⟨5, by go_num, by omega, Lib.hid ?_, Lib.hid (((Fr.refl (fun x => x = w.heap.size + 1) wr).setCell (p := ⟨w.heap.size + 1, 1, none⟩) (.inl rfl) _).drew.heap H0.out (by omega)), Lib.hid (HR.out.setCell (p := ⟨w.heap.size + 1, 1, none⟩) (.inr (Nat.le_succ _)) _).drew⟩
          rw [HG.out, HO.out]
          refine (heap_setCell_same H1.out 1 _).trans ?_
          rfl
        case measure => omega
      · obtain ⟨b, hb⟩ := HGET.out 5 (by decide)
        have hix : ∀ W, (Instr.index 9 (.string B) (.int .i64 5)).run Tryz.prog W = .ok (.int .u8 b.toNat) W := HIX.out 5 b hb
        obtain ⟨g1, g2⟩ := bV_step (k := 5) (by decide) hb
        have hbl := b.toNat_lt
        have hw0 : (b.toNat : Int) % 4294967296 = b.toNat := by omega
        have hw1 : IntKind.u32.wrap (b.toNat : Int) = b.toNat := by rw [IntKind.wrap_u32]; omega
        have hw2 : IntKind.u32.wrap ((b.toNat : Int) * 256) = b.toNat * 256 := by rw [IntKind.wrap_u32]; omega
        have hw3 : (b.toNat : Int) * 256 % 4294967296 = b.toNat * 256 := by omega
        obtain ⟨x, hx⟩ : ∃ x, aV s 5 = x := ⟨_, rfl⟩
        obtain ⟨y, hy⟩ : ∃ y, bV s 5 = y := ⟨_, rfl⟩
        rw [hx, hy] at H1
        have HG : Hid ((bV s 6 : Int) = bits .or .u32 y ((b.toNat : Int) * 256)) := Lib.hid (by rw [← g1, hy]; simp)
        have HO : Hid (aV s 6 = x) := Lib.hid (by rw [← hx]; exact g2)
        clear g1 g2 hx hy hb
        have c0 : wr.drew.cell? ⟨w.heap.size + 1, 1, none⟩ = some (.int .u32 y) := cellAt (show wr.drew.heap[w.heap.size + 1]? = _ from H1.out) 1 rfl
        have f0 : wr.drew.frozen? ⟨w.heap.size + 1, 1, none⟩ = false := by unfold World.frozen?; rw [show wr.drew.heap[w.heap.size + 1]? = _ from H1.out]; simp
        have l1 : w.heap.size + 1 < wr.drew.heap.size := heap_lt (show wr.drew.heap[w.heap.size + 1]? = _ from H1.out)
        go_wp2
        refine wp_region_still_tail 14 (by kernel_rfl) (by kernel_rfl) ?_
        simp only [List.take_succ_cons, List.take_zero, List.drop_succ_cons, List.drop_zero]
        change wpStill _ _ wr.drew _ _ _
        repeat (refine wpStill_step (fun K hK => ?_); go_simp; refine hK _ ?_; clear hK K)
        refine wpStill_nil ?_
        change wpList _ _ _ _ _ wr.drew
        go_wp2
        go_roundg q
        case rel =>
          refine ⟨6, by go_num, by omega, Lib.hid ?_, Lib.hid (((Fr.refl (fun x => x = w.heap.size + 1) wr).setCell (p := ⟨w.heap.size + 1, 1, none⟩) (.inl rfl) _).drew.heap H0.out (by omega)), Lib.hid (HR.out.setCell (p := ⟨w.heap.size + 1, 1, none⟩) (.inr (Nat.le_succ _)) _).drew⟩
          rw [HG.out, HO.out]
          refine (heap_setCell_same H1.out 1 _).trans ?_
          rfl
        case measure => omega
      · obtain ⟨b, hb⟩ := HGET.out 6 (by decide)
        have hix : ∀ W, (Instr.index 9 (.string B) (.int .i64 6)).run Tryz.prog W = .ok (.int .u8 b.toNat) W := HIX.out 6 b hb
        obtain ⟨g1, g2⟩ := bV_step (k := 6) (by decide) hb
        have hbl := b.toNat_lt
        have hw0 : (b.toNat : Int) % 4294967296 = b.toNat := by omega
        have hw1 : IntKind.u32.wrap (b.toNat : Int) = b.toNat := by rw [IntKind.wrap_u32]; omega
        have hw2 : IntKind.u32.wrap ((b.toNat : Int) * 65536) = b.toNat * 65536 := by rw [IntKind.wrap_u32]; omega
        have hw3 : (b.toNat : Int) * 65536 % 4294967296 = b.toNat * 65536 := by omega
        obtain ⟨x, hx⟩ : ∃ x, aV s 6 = x := ⟨_, rfl⟩
        obtain ⟨y, hy⟩ : ∃ y, bV s 6 = y := ⟨_, rfl⟩
        rw [hx, hy] at H1
        have HG : Hid ((bV s 7 : Int) = bits .or .u32 y ((b.toNat : Int) * 65536)) := Lib.hid (by rw [← g1, hy]; simp)
        have HO : Hid (aV s 7 = x) := Lib.hid (by rw [← hx]; exact g2)
        clear g1 g2 hx hy hb
        have c0 : wr.drew.cell? ⟨w.heap.size + 1, 1, none⟩ = some (.int .u32 y) := cellAt (show wr.drew.heap[w.heap.size + 1]? = _ from H1.out) 1 rfl
        have f0 : wr.drew.frozen? ⟨w.heap.size + 1, 1, none⟩ = false := by unfold World.frozen?; rw [show wr.drew.heap[w.heap.size + 1]? = _ from H1.out]; simp
        have l1 : w.heap.size + 1 < wr.drew.heap.size := heap_lt (show wr.drew.heap[w.heap.size + 1]? = _ from H1.out)
        go_wp2
        refine wp_region_still_tail 14 (by kernel_rfl) (by kernel_rfl) ?_
        simp only [List.take_succ_cons, List.take_zero, List.drop_succ_cons, List.drop_zero]
        change wpStill _ _ wr.drew _ _ _
        repeat (refine wpStill_step (fun K hK => ?_); go_simp; refine hK _ ?_; clear hK K)
        refine wpStill_nil ?_
        change wpList _ _ _ _ _ wr.drew
        go_wp2
        go_roundg q
        case rel =>
          refine ⟨7, by go_num, by omega, Lib.hid ?_, Lib.hid (((Fr.refl (fun x => x = w.heap.size + 1) wr).setCell (p := ⟨w.heap.size + 1, 1, none⟩) (.inl rfl) _).drew.heap H0.out (by omega)), Lib.hid (HR.out.setCell (p := ⟨w.heap.size + 1, 1, none⟩) (.inr (Nat.le_succ _)) _).drew⟩
          rw [HG.out, HO.out]
          refine (heap_setCell_same H1.out 1 _).trans ?_
          rfl
        case measure => omega
      · obtain ⟨b, hb⟩ := HGET.out 7 (by decide)
        have hix : ∀ W, (Instr.index 9 (.string B) (.int .i64 7)).run Tryz.prog W = .ok (.int .u8 b.toNat) W := HIX.out 7 b hb
        obtain ⟨g1, g2⟩ := bV_step (k := 7) (by decide) hb
        have hbl := b.toNat_lt
        have hw0 : (b.toNat : Int) % 4294967296 = b.toNat := by omega
        have hw1 : IntKind.u32.wrap (b.toNat : Int) = b.toNat := by rw [IntKind.wrap_u32]; omega
        have hw2 : IntKind.u32.wrap ((b.toNat : Int) * 16777216) = b.toNat * 16777216 := by rw [IntKind.wrap_u32]; omega
        have hw3 : (b.toNat : Int) * 16777216 % 4294967296 = b.toNat * 16777216 := by omega
        obtain ⟨x, hx⟩ : ∃ x, aV s 7 = x := ⟨_, rfl⟩
        obtain ⟨y, hy⟩ : ∃ y, bV s 7 = y := ⟨_, rfl⟩
        rw [hx, hy] at H1
        have HG : Hid ((bV s 8 : Int) = bits .or .u32 y ((b.toNat : Int) * 16777216)) := Lib.hid (by rw [← g1, hy]; simp)
        have HO : Hid (aV s 8 = x) := Lib.hid (by rw [← hx]; exact g2)
        clear g1 g2 hx hy hb
        have c0 : wr.drew.cell? ⟨w.heap.size + 1, 1, none⟩ = some (.int .u32 y) := cellAt (show wr.drew.heap[w.heap.size + 1]? = _ from H1.out) 1 rfl
        have f0 : wr.drew.frozen? ⟨w.heap.size + 1, 1, none⟩ = false := by unfold World.frozen?; rw [show wr.drew.heap[w.heap.size + 1]? = _ from H1.out]; simp
        have l1 : w.heap.size + 1 < wr.drew.heap.size := heap_lt (show wr.drew.heap[w.heap.size + 1]? = _ from H1.out)
        go_wp2
        refine wp_region_still_tail 14 (by kernel_rfl) (by kernel_rfl) ?_
        simp only [List.take_succ_cons, List.take_zero, List.drop_succ_cons, List.drop_zero]
        change wpStill _ _ wr.drew _ _ _
        repeat (refine wpStill_step (fun K hK => ?_); go_simp; refine hK _ ?_; clear hK K)
        refine wpStill_nil ?_
        change wpList _ _ _ _ _ wr.drew
        go_wp2
        go_roundg q
        case rel =>
          refine ⟨8, by go_num, by omega, Lib.hid ?_, Lib.hid (((Fr.refl (fun x => x = w.heap.size + 1) wr).setCell (p := ⟨w.heap.size + 1, 1, none⟩) (.inl rfl) _).drew.heap H0.out (by omega)), Lib.hid (HR.out.setCell (p := ⟨w.heap.size + 1, 1, none⟩) (.inr (Nat.le_succ _)) _).drew⟩
          rw [HG.out, HO.out]
          refine (heap_setCell_same H1.out 1 _).trans ?_
          rfl
        case measure => omega
end Go.Proofs.YtillejdjghlicaaGreatDoor
