/- The package index: a list copied (own), a place taken out of it (cut), one put into it (put), at pairs and at ints. The condition: lists are short. The package index: a node taken, a node dropped. The condition: not too many nodes. -/
import Derived.Test.YthljnnjpmdgkoaaG30
import Derived.Test.YthljnnjpmdgkoaaG04
import Derived.StillTailTactics
namespace Go.Proofs.Ythljnnjpmdgkoaa
open Go Go.Proofs Go.RowKit
set_option maxRecDepth 100000
theorem Sl.inner {w : World} {e : TypeId} {sz : Nat} {g o n cap : Nat} {xs : List Value} (h : Sl w e sz (.slice (some ⟨g, o, none⟩) n cap) n xs) : ∃ cur, w.heap[g]? = some (.cells cur e (0, 0)) ∧ n ≤ cap ∧ cap ≤ maxLen ∧ o + cap * sz ≤ cur.size ∧ (cur.toList.drop o).take (n * sz) = xs := by
  rcases h.2 with ⟨h0, _⟩ | ⟨g', o', cap', cur, hv, hg, h1, h2, h3, h4⟩
  · cases h0
  · cases hv
    exact ⟨cur, hg, h1, h2, h3, h4⟩
theorem SlF.inner {α : Type} {f : α → List Value} {w : World} {e sz g o cap : Nat} {L : List α} (h : SlF w e sz f (.slice (some ⟨g, o, none⟩) L.length cap) L) : ∃ cur, w.heap[g]? = some (.cells cur e (0, 0)) ∧ L.length ≤ cap ∧ cap ≤ maxLen ∧ o + cap * sz ≤ cur.size ∧ (cur.toList.drop o).take (L.length * sz) = L.flatMap f := Sl.inner h
theorem SlF.cells {α : Type} {f : α → List Value} {w : World} {e sz g o cap : Nat} {L : List α} (hf : ∀ x, (f x).length = sz) (h : SlF w e sz f (.slice (some ⟨g, o, none⟩) L.length cap) L) (j : Nat) (u : Value) (hu : (L.flatMap f)[j]? = some u) : w.cell? ((⟨g, o, none⟩ : Addr).add j) = some u := by
  have hadd : (⟨g, o, none⟩ : Addr).add j = ⟨g, o + j, none⟩ := by unfold Addr.add; split <;> simp_all
  rw [hadd]
  exact Sl.cell h j hu
/-- The tail of a slice. -/
theorem SlF.drop {α : Type} {f : α → List Value} {w : World} {e sz g o cap : Nat} {L : List α} (hf : ∀ x, (f x).length = sz) (h : SlF w e sz f (.slice (some ⟨g, o, none⟩) L.length cap) L) (k : Nat) (hk : k ≤ L.length) :
    SlF w e sz f (.slice (some ⟨g, o + k * sz, none⟩) (L.length - k) (cap - k)) (L.drop k) := by
  obtain ⟨cur, hc, h1, h2, h3, h4⟩ := h.inner
  have hm : k * sz + (cap - k) * sz = cap * sz := by rw [← Nat.add_mul]; congr 1; omega
  refine ⟨flat_length hf _, .inr ⟨g, o + k * sz, cap - k, cur, by rw [List.length_drop], hc, by rw [List.length_drop]; omega, by omega, by omega, ?_⟩⟩
  have h5 : (L.drop k).flatMap f = (L.flatMap f).drop (k * sz) := by
    have h6 := congrArg (fun l => List.flatMap f l) (List.take_append_drop k L)
    simp only [List.flatMap_append] at h6
    have h7 : ((L.take k).flatMap f).length = k * sz := by rw [flat_length hf]; congr 1; simp; omega
    conv => rhs; rw [← h6]
    rw [← h7, List.drop_left]
  rw [h5, ← h4, List.drop_take, List.drop_drop, List.length_drop, Nat.sub_mul]
theorem one_pairC : ∀ (L : List (ByteArray × Int)), ∀ u ∈ L.flatMap pairC, u.oneCell' = true := by
  intro L u hu
  obtain ⟨y, _, hy⟩ := List.mem_flatMap.1 hu
  simp [pairC] at hy
  rcases hy with rfl | rfl <;> rfl
theorem one_nat1 : ∀ (L : List Nat), ∀ u ∈ L.flatMap nat1, u.oneCell' = true := by
  intro L u hu
  obtain ⟨y, _, hy⟩ := List.mem_flatMap.1 hu
  simp [nat1] at hy
  subst hy; rfl

def flatLenPair (L : List (ByteArray × Int)) : Prop := (L.flatMap pairC).length = L.length * 2
def flatLenNat (L : List Nat) : Prop := (L.flatMap nat1).length = L.length * 1

set_option maxHeartbeats 1000000 in
theorem ownPair_calls (w : World) (v : Value) (L : List (ByteArray × Int)) (hv : SlF w 127 2 pairC v L) (hl : L.length ≤ 1000) :
    Calls Try.prog 152 #[v] w fun e w' => ∃ g, e = .returned (.slice (some ⟨g, 0, none⟩) L.length L.length) ∧ SlF w' 127 2 pairC (.slice (some ⟨g, 0, none⟩) L.length L.length) L ∧ Fr No w w' ∧ w.heap.size ≤ g := by
  obtain ⟨i0, hi0, hz0, hz1, hz2⟩ := info_parts info127
  have hl0 : flatLenPair L := flat_length pairC_length L
  obtain ⟨a, cap, rfl, hc1, hc2, ha⟩ := hv.shape
  have hmk : ∀ W, (Instr.makeSlice 124 (.int .i64 (L.length : Int)) (.int .i64 (L.length : Int))).run Try.prog W = .ok (.slice (some ⟨W.heap.size, 0, none⟩) L.length L.length) (W.alloc (.cells (madeCells (Value.cells (.agg #[.string ByteArray.empty, .int .i64 0])) (L.length * 2)) 127)) := by
    intro W
    have := run_make (P := Try.prog) W 124 127 i0 _ Try.underlying124 hi0 hz0 .i64 .i64 L.length L.length (by omega) (by omega) (by rw [hz2]; omega) (by omega)
    rw [hz1] at this
    simpa using this
  have HV := Lib.hid hv
  have HA := Lib.hid ha
  have HL := Lib.hid hl0
  clear hv ha hl0
  have hn : (L.flatMap pairC).length = Nat.min L.length L.length * i0.size := by rw [hz1, flat_length pairC_length, show Nat.min L.length L.length = L.length from Nat.min_self _]
  have hpos : 0 < (L.flatMap pairC).length → (some (⟨w.heap.size, 0, none⟩ : Addr) = some ⟨w.heap.size, 0, none⟩ ∧ ∃ ad, a = some ad ∧ ∀ j u, (L.flatMap pairC)[j]? = some u → (w.alloc (.cells (madeCells (Value.cells (.agg #[.string ByteArray.empty, .int .i64 0])) (L.length * 2)) 127)).cell? (ad.add j) = some u) := by
    intro hp
    rw [flat_length pairC_length] at hp
    obtain ⟨g0, o0, rfl⟩ := HA.out (by omega)
    exact ⟨rfl, _, rfl, fun j u hu => SlF.cells pairC_length (HV.out.alloc _) j u hu⟩
  have hfit : 0 + (L.flatMap pairC).length ≤ (madeCells (Value.cells (.agg #[.string ByteArray.empty, .int .i64 0])) (L.length * 2)).size := by rw [flat_length pairC_length, size_madeCells]; omega
  have HN := Lib.hid hn
  have HP := Lib.hid hpos
  have HFT := Lib.hid hfit
  clear hn hpos hfit
  go_enter Try.func152, Try.ntmps152
  go_wp2_with (refine wpList_copy_sl rfl _ _ 124 124 127 i0 rfl Try.underlying124 hi0 _ _ L.length L.length L.length cap w.heap.size 0 (madeCells (Value.cells (.agg #[.string ByteArray.empty, .int .i64 0])) (L.length * 2)) 127 (L.flatMap pairC) rfl rfl (alloc_at _ _ _ rfl) HN.out HP.out HFT.out (one_pairC L) ?_)
  intro w2 hw2 hg2
  have hf : Fr No w (w.alloc (Obj.cells (madeCells (Value.cells (.agg #[.string ByteArray.empty, .int .i64 0])) (L.length * 2)) 127)) := (Fr.refl No w).alloc _
  have hmin : Nat.min L.length L.length = L.length := Nat.min_self _
  go_wp2
  go_ret
  refine ⟨w.heap.size, rfl, ⟨flat_length pairC_length L, .inr ⟨w.heap.size, 0, L.length, _, rfl, hw2, Nat.le_refl _, by unfold maxLen; omega, ?_, ?_⟩⟩, ?_, Nat.le_refl _⟩
  · have := HL.out; unfold flatLenPair at this
    simp [this]
  · have := HL.out; unfold flatLenPair at this
    have hm : (madeCells (Value.cells (.agg #[.string ByteArray.empty, .int .i64 0])) (L.length * 2)).toList.length = L.length * 2 := by rw [Array.length_toList, size_madeCells] <;> omega
    simp only [List.take_zero, List.nil_append, List.drop_zero, Nat.zero_add]
    rw [List.take_left' this]
  · refine ⟨hg2.os.trans hf.os, hg2.tape.trans hf.tape, hg2.output.trans hf.output, Nat.le_trans hf.size hg2.size, fun k hk _ => (hg2.block k (Nat.lt_of_lt_of_le hk hf.size) fun e => ?_).trans (hf.block k hk id)⟩
    cases e
    omega

set_option maxHeartbeats 1000000 in
theorem ownNat_calls (w : World) (v : Value) (L : List (Nat)) (hv : SlF w 3 1 nat1 v L) (hl : L.length ≤ 1000) :
    Calls Try.prog 153 #[v] w fun e w' => ∃ g, e = .returned (.slice (some ⟨g, 0, none⟩) L.length L.length) ∧ SlF w' 3 1 nat1 (.slice (some ⟨g, 0, none⟩) L.length L.length) L ∧ Fr No w w' ∧ w.heap.size ≤ g := by
  obtain ⟨i0, hi0, hz0, hz1, hz2⟩ := info_parts info3
  have hl0 : flatLenNat L := flat_length nat1_length L
  obtain ⟨a, cap, rfl, hc1, hc2, ha⟩ := hv.shape
  have hmk : ∀ W, (Instr.makeSlice 149 (.int .i64 (L.length : Int)) (.int .i64 (L.length : Int))).run Try.prog W = .ok (.slice (some ⟨W.heap.size, 0, none⟩) L.length L.length) (W.alloc (.cells (madeCells (Value.cells (.int .i64 0)) (L.length)) 3)) := by
    intro W
    have := run_make (P := Try.prog) W 149 3 i0 _ Try.underlying149 hi0 hz0 .i64 .i64 L.length L.length (by omega) (by omega) (by rw [hz2]; omega) (by omega)
    rw [hz1] at this
    simpa using this
  have HV := Lib.hid hv
  have HA := Lib.hid ha
  have HL := Lib.hid hl0
  clear hv ha hl0
  have hn : (L.flatMap nat1).length = Nat.min L.length L.length * i0.size := by rw [hz1, flat_length nat1_length, show Nat.min L.length L.length = L.length from Nat.min_self _]
  have hpos : 0 < (L.flatMap nat1).length → (some (⟨w.heap.size, 0, none⟩ : Addr) = some ⟨w.heap.size, 0, none⟩ ∧ ∃ ad, a = some ad ∧ ∀ j u, (L.flatMap nat1)[j]? = some u → (w.alloc (.cells (madeCells (Value.cells (.int .i64 0)) (L.length)) 3)).cell? (ad.add j) = some u) := by
    intro hp
    rw [flat_length nat1_length] at hp
    obtain ⟨g0, o0, rfl⟩ := HA.out (by omega)
    exact ⟨rfl, _, rfl, fun j u hu => SlF.cells nat1_length (HV.out.alloc _) j u hu⟩
  have hfit : 0 + (L.flatMap nat1).length ≤ (madeCells (Value.cells (.int .i64 0)) (L.length)).size := by rw [flat_length nat1_length, size_madeCells]; omega
  have HN := Lib.hid hn
  have HP := Lib.hid hpos
  have HFT := Lib.hid hfit
  clear hn hpos hfit
  go_enter Try.func153, Try.ntmps153
  go_wp2_with (refine wpList_copy_sl rfl _ _ 149 149 3 i0 rfl Try.underlying149 hi0 _ _ L.length L.length L.length cap w.heap.size 0 (madeCells (Value.cells (.int .i64 0)) (L.length)) 3 (L.flatMap nat1) rfl rfl (alloc_at _ _ _ rfl) HN.out HP.out HFT.out (one_nat1 L) ?_)
  intro w2 hw2 hg2
  have hf : Fr No w (w.alloc (Obj.cells (madeCells (Value.cells (.int .i64 0)) (L.length)) 3)) := (Fr.refl No w).alloc _
  have hmin : Nat.min L.length L.length = L.length := Nat.min_self _
  go_wp2
  go_ret
  refine ⟨w.heap.size, rfl, ⟨flat_length nat1_length L, .inr ⟨w.heap.size, 0, L.length, _, rfl, hw2, Nat.le_refl _, by unfold maxLen; omega, ?_, ?_⟩⟩, ?_, Nat.le_refl _⟩
  · have := HL.out; unfold flatLenNat at this
    simp [this]
  · have := HL.out; unfold flatLenNat at this
    have hm : (madeCells (Value.cells (.int .i64 0)) (L.length)).toList.length = L.length * 1 := by rw [Array.length_toList, size_madeCells] <;> omega
    simp only [List.take_zero, List.nil_append, List.drop_zero, Nat.zero_add]
    rw [List.take_left' this]
  · refine ⟨hg2.os.trans hf.os, hg2.tape.trans hf.tape, hg2.output.trans hf.output, Nat.le_trans hf.size hg2.size, fun k hk _ => (hg2.block k (Nat.lt_of_lt_of_le hk hf.size) fun e => ?_).trans (hf.block k hk id)⟩
    cases e
    omega

theorem cut_eq {α : Type} (L : List α) (i : Nat) (hi : i < L.length) : (L.take i ++ (L.drop (i + 1)).take (L.length - (i + 1)) ++ L.drop (i + (L.length - (i + 1)))).take (L.length - 1) = L.take i ++ L.drop (i + 1) := by
  rw [List.take_of_length_le (l := L.drop (i + 1)) (by simp), List.take_append_of_le_length (by simp; omega), List.take_of_length_le (by simp; omega)]

set_option maxHeartbeats 1000000 in
theorem cutPair_calls (w : World) (v : Value) (L : List (ByteArray × Int)) (i : Nat) (hv : SlF w 127 2 pairC v L) (hi : i < L.length) (hl : L.length ≤ 1000) :
    Calls Try.prog 136 #[v, .int .i64 i] w fun e w' => ∃ g o cap, e = .returned (.slice (some ⟨g, o, none⟩) (L.length - 1) cap) ∧ SlF w' 127 2 pairC (.slice (some ⟨g, o, none⟩) (L.length - 1) cap) (L.take i ++ L.drop (i + 1)) ∧
      Fr (fun b => v.ownBlock = some b) w w' ∧ v.ownBlock = some g := by
  obtain ⟨i0, hi0, hz0, hz1, hz2⟩ := info_parts info127
  obtain ⟨a, cap, rfl, hc1, hc2, ha⟩ := hv.shape
  obtain ⟨g, o, rfl⟩ := ha (by omega)
  obtain ⟨cur, hcur, _, _, hfit0, _⟩ := hv.inner
  have hcs : (((L.drop (i + 1)).take (L.length - (i + 1))).flatMap pairC).length = (L.length - (i + 1)) * 2 := by
    rw [flat_length pairC_length]; congr 1; simp
  have hn : (((L.drop (i + 1)).take (L.length - (i + 1))).flatMap pairC).length = Nat.min (L.length - (i + 1)) (L.length - i) * i0.size := by
    rw [hcs, hz1, show Nat.min (L.length - (i + 1)) (L.length - i) = L.length - (i + 1) from Nat.min_eq_left (by omega)]
  have hmul : (i + 1) * 2 + (L.length - (i + 1)) * 2 = L.length * 2 := by rw [← Nat.add_mul]; congr 1; omega
  have hmul2 : i * 2 + 1 * 2 = (i + 1) * 2 := by rw [← Nat.add_mul]
  have hmc : L.length * 2 ≤ cap * 2 := Nat.mul_le_mul_right _ hc1
  have hfit : o + i * 2 + (((L.drop (i + 1)).take (L.length - (i + 1))).flatMap pairC).length ≤ cur.size := by rw [hcs]; omega
  have hpos : 0 < (((L.drop (i + 1)).take (L.length - (i + 1))).flatMap pairC).length → ((if cap = i then some (⟨g, o, none⟩ : Addr) else some ⟨g, o + i * 2, none⟩) = some ⟨g, o + i * 2, none⟩ ∧ ∃ ad, (if cap = i + 1 then some (⟨g, o, none⟩ : Addr) else some ⟨g, o + (i + 1) * 2, none⟩) = some ad ∧
      ∀ j u, (((L.drop (i + 1)).take (L.length - (i + 1))).flatMap pairC)[j]? = some u → w.drew.cell? (ad.add j) = some u) := by
    intro hp
    rw [hcs] at hp
    have hil : i + 1 < L.length := by
      rcases Nat.lt_or_ge (i + 1) L.length with h | h
      · exact h
      · rw [show L.length - (i + 1) = 0 by omega] at hp; simp at hp
    rw [if_neg (by omega), if_neg (by omega)]
    refine ⟨by simp, _, rfl, fun j u hu => ?_⟩
    rw [List.take_of_length_le (by simp)] at hu
    have h1 := (hv.drop pairC_length (i + 1) (by omega)).drew
    have h2 : SlF w.drew 127 2 pairC (.slice (some ⟨g, o + (i + 1) * 2, none⟩) (L.drop (i + 1)).length (cap - (i + 1))) (L.drop (i + 1)) := by rw [List.length_drop]; exact h1
    have h3 := SlF.cells pairC_length h2 j u hu
    simpa using h3
  have hcw : w.drew.heap[g]? = some (.cells cur 127 (0, 0)) := hcur
  have HN := Lib.hid hn
  have HP := Lib.hid hpos
  have HFT := Lib.hid hfit
  have HV := Lib.hid hv
  have HCS := Lib.hid hcs
  have HCW := Lib.hid hcw
  clear hn hpos hfit hv hcs hcw ha hmul hmul2 hmc hcur hfit0
  have hi1 : (i : Int) + 1 ≤ (L.length : Int) := by omega
  have hi2 : (i : Int) ≤ (L.length : Int) := by omega
  have hi3 : i + 1 ≤ L.length := by omega
  have hi4 : i ≤ L.length := by omega
  have hi5 : (0 : Int) ≤ (i : Int) + 1 := by omega
  have hi6 : (0 : Int) ≤ (i : Int) := by omega
  go_enter Try.func136, Try.ntmps136
  go_wp2_with fail
  refine wp_region_still_tail 7 (by kernel_rfl) (by kernel_rfl) ?_
  simp only [List.take_succ_cons, List.take_zero, List.drop_succ_cons, List.drop_zero]
  change wpStill _ _ w.drew _ _ _
  repeat (refine wpStill_step (fun K hK => ?_); go_simp; (try go_bits); refine hK _ ?_; clear hK K)
  refine wpStill_nil ?_
  change wpList _ _ _ _ _ w.drew
  refine wpList_copy_sl rfl _ _ 124 124 127 i0 rfl Try.underlying124 hi0 _ _ _ _ _ _ g (o + i * 2) cur 127 (((L.drop (i + 1)).take (L.length - (i + 1))).flatMap pairC) rfl rfl HCW.out HN.out HP.out HFT.out (one_pairC _) ?_
  intro w2 hw2 hg2
  generalize (if cap = i then some (⟨g, o, none⟩ : Addr) else some ⟨g, o + i * 2, none⟩) = A1
  generalize (if cap = i + 1 then some (⟨g, o, none⟩ : Addr) else some ⟨g, o + (i + 1) * 2, none⟩) = A2
  have hs2 := SlF.copied (w := w.drew) (w' := w2) (L := L) pairC_length HV.out.drew (i + 1) i (L.length - (i + 1)) (by omega) (by omega) cur HCW.out (by rw [HCS.out] at hw2; exact hw2)
  have HS2 := Lib.hid hs2
  have HG2 := Lib.hid hg2
  clear hs2 hw2 hg2
  have hj1 : (0 : Int) ≤ (L.length : Int) - 1 := by omega
  have hj2 : (L.length : Int) - 1 ≤ (cap : Int) := by omega
  have hj3 : ((L.length : Int) - 1).toNat = L.length - 1 := by omega
  go_wp2
  go_ret
  refine ⟨g, o, cap, rfl, ?_, ((Fr.refl _ w).drew).grown HG2.out fun k hk => .inl (by cases hk; rfl), rfl⟩
  have h4 := HS2.out
  have hl2 : (L.take i ++ (L.drop (i + 1)).take (L.length - (i + 1)) ++ L.drop (i + (L.length - (i + 1)))).length = L.length := by simp; omega
  have h5 := SlF.take pairC_length (by rw [hl2]; exact h4) (L.length - 1) (by rw [hl2]; omega)
  rw [cut_eq L i hi] at h5
  exact h5

set_option maxHeartbeats 1000000 in
theorem cutNat_calls (w : World) (v : Value) (L : List (Nat)) (i : Nat) (hv : SlF w 3 1 nat1 v L) (hi : i < L.length) (hl : L.length ≤ 1000) :
    Calls Try.prog 150 #[v, .int .i64 i] w fun e w' => ∃ g o cap, e = .returned (.slice (some ⟨g, o, none⟩) (L.length - 1) cap) ∧ SlF w' 3 1 nat1 (.slice (some ⟨g, o, none⟩) (L.length - 1) cap) (L.take i ++ L.drop (i + 1)) ∧
      Fr (fun b => v.ownBlock = some b) w w' ∧ v.ownBlock = some g := by
  obtain ⟨i0, hi0, hz0, hz1, hz2⟩ := info_parts info3
  obtain ⟨a, cap, rfl, hc1, hc2, ha⟩ := hv.shape
  obtain ⟨g, o, rfl⟩ := ha (by omega)
  obtain ⟨cur, hcur, _, _, hfit0, _⟩ := hv.inner
  have hcs : (((L.drop (i + 1)).take (L.length - (i + 1))).flatMap nat1).length = (L.length - (i + 1)) * 1 := by
    rw [flat_length nat1_length]; congr 1; simp
  have hn : (((L.drop (i + 1)).take (L.length - (i + 1))).flatMap nat1).length = Nat.min (L.length - (i + 1)) (L.length - i) * i0.size := by
    rw [hcs, hz1, show Nat.min (L.length - (i + 1)) (L.length - i) = L.length - (i + 1) from Nat.min_eq_left (by omega)]
  have hmul : (i + 1) * 1 + (L.length - (i + 1)) * 1 = L.length * 1 := by rw [← Nat.add_mul]; congr 1; omega
  have hmul2 : i * 1 + 1 * 1 = (i + 1) * 1 := by rw [← Nat.add_mul]
  have hmc : L.length * 1 ≤ cap * 1 := Nat.mul_le_mul_right _ hc1
  have hfit : o + i * 1 + (((L.drop (i + 1)).take (L.length - (i + 1))).flatMap nat1).length ≤ cur.size := by rw [hcs]; omega
  have hpos : 0 < (((L.drop (i + 1)).take (L.length - (i + 1))).flatMap nat1).length → ((if cap = i then some (⟨g, o, none⟩ : Addr) else some ⟨g, o + i, none⟩) = some ⟨g, o + i * 1, none⟩ ∧ ∃ ad, (if cap = i + 1 then some (⟨g, o, none⟩ : Addr) else some ⟨g, o + (i + 1), none⟩) = some ad ∧
      ∀ j u, (((L.drop (i + 1)).take (L.length - (i + 1))).flatMap nat1)[j]? = some u → w.drew.cell? (ad.add j) = some u) := by
    intro hp
    rw [hcs] at hp
    have hil : i + 1 < L.length := by
      rcases Nat.lt_or_ge (i + 1) L.length with h | h
      · exact h
      · rw [show L.length - (i + 1) = 0 by omega] at hp; simp at hp
    rw [if_neg (by omega), if_neg (by omega)]
    refine ⟨by simp, _, rfl, fun j u hu => ?_⟩
    rw [List.take_of_length_le (by simp)] at hu
    have h1 := (hv.drop nat1_length (i + 1) (by omega)).drew
    have h2 : SlF w.drew 3 1 nat1 (.slice (some ⟨g, o + (i + 1) * 1, none⟩) (L.drop (i + 1)).length (cap - (i + 1))) (L.drop (i + 1)) := by rw [List.length_drop]; exact h1
    have h3 := SlF.cells nat1_length h2 j u hu
    simpa using h3
  have hcw : w.drew.heap[g]? = some (.cells cur 3 (0, 0)) := hcur
  have HN := Lib.hid hn
  have HP := Lib.hid hpos
  have HFT := Lib.hid hfit
  have HV := Lib.hid hv
  have HCS := Lib.hid hcs
  have HCW := Lib.hid hcw
  clear hn hpos hfit hv hcs hcw ha hmul hmul2 hmc hcur hfit0
  have hi1 : (i : Int) + 1 ≤ (L.length : Int) := by omega
  have hi2 : (i : Int) ≤ (L.length : Int) := by omega
  have hi3 : i + 1 ≤ L.length := by omega
  have hi4 : i ≤ L.length := by omega
  have hi5 : (0 : Int) ≤ (i : Int) + 1 := by omega
  have hi6 : (0 : Int) ≤ (i : Int) := by omega
  go_enter Try.func150, Try.ntmps150
  go_wp2_with fail
  refine wp_region_still_tail 7 (by kernel_rfl) (by kernel_rfl) ?_
  simp only [List.take_succ_cons, List.take_zero, List.drop_succ_cons, List.drop_zero]
  change wpStill _ _ w.drew _ _ _
  repeat (refine wpStill_step (fun K hK => ?_); go_simp; (try go_bits); refine hK _ ?_; clear hK K)
  refine wpStill_nil ?_
  change wpList _ _ _ _ _ w.drew
  refine wpList_copy_sl rfl _ _ 149 149 3 i0 rfl Try.underlying149 hi0 _ _ _ _ _ _ g (o + i * 1) cur 3 (((L.drop (i + 1)).take (L.length - (i + 1))).flatMap nat1) rfl rfl HCW.out HN.out HP.out HFT.out (one_nat1 _) ?_
  intro w2 hw2 hg2
  generalize (if cap = i then some (⟨g, o, none⟩ : Addr) else some ⟨g, o + i, none⟩) = A1
  generalize (if cap = i + 1 then some (⟨g, o, none⟩ : Addr) else some ⟨g, o + (i + 1), none⟩) = A2
  have hs2 := SlF.copied (w := w.drew) (w' := w2) (L := L) nat1_length HV.out.drew (i + 1) i (L.length - (i + 1)) (by omega) (by omega) cur HCW.out (by rw [HCS.out] at hw2; exact hw2)
  have HS2 := Lib.hid hs2
  have HG2 := Lib.hid hg2
  clear hs2 hw2 hg2
  have hj1 : (0 : Int) ≤ (L.length : Int) - 1 := by omega
  have hj2 : (L.length : Int) - 1 ≤ (cap : Int) := by omega
  have hj3 : ((L.length : Int) - 1).toNat = L.length - 1 := by omega
  go_wp2
  go_ret
  refine ⟨g, o, cap, rfl, ?_, ((Fr.refl _ w).drew).grown HG2.out fun k hk => .inl (by cases hk; rfl), rfl⟩
  have h4 := HS2.out
  have hl2 : (L.take i ++ (L.drop (i + 1)).take (L.length - (i + 1)) ++ L.drop (i + (L.length - (i + 1)))).length = L.length := by simp; omega
  have h5 := SlF.take nat1_length (by rw [hl2]; exact h4) (L.length - 1) (by rw [hl2]; omega)
  rw [cut_eq L i hi] at h5
  exact h5

set_option maxHeartbeats 1000000 in
theorem putNat_calls (w : World) (v : Value) (L : List Nat) (i : Nat) (x : Nat) (hv : SlF w 3 1 nat1 v L) (hi : i ≤ L.length) (hl : L.length ≤ 1000) :
    Calls Try.prog 149 #[v, .int .i64 i, .int .i64 x] w fun e w' => ∃ g o cap, e = .returned (.slice (some ⟨g, o, none⟩) (L.length + 1) cap) ∧
      SlF w' 3 1 nat1 (.slice (some ⟨g, o, none⟩) (L.length + 1) cap) (L.take i ++ x :: L.drop i) ∧ Fr (fun b => v.ownBlock = some b) w w' ∧ (v.ownBlock = some g ∨ w.heap.size ≤ g) := by
  obtain ⟨i0, hi0, hz0, hz1, hz2⟩ := info_parts info3
  have hnew := cells_new w [.int .i64 (x : Int)] 3 (0, 0)
  have HV := Lib.hid hv; clear hv
  have hil : (0 : Int) ≤ (i : Int) := by omega
  go_enter Try.func149, Try.ntmps149
  go_wp2_with (at_builtin; refine wpList_append_f rfl _ _ 149 rfl 3 i0 _ 1 8 Try.underlying149 hi0 hz0 hz1 hz2 rfl (by decide) v L rfl (HV.out.alloc _) w.heap.size 1 x rfl (by simpa [nat1] using hnew) rfl (by intro u hu; simp [nat1] at hu; subst hu; rfl) (by unfold maxLen; omega) (by omega) ?_)
  intro g o cap w1 hs1 hg1 hb1 hlt1
  have hgl := HV.out.lt
  have hF1 : Fr (fun b => v.ownBlock = some b) w w1 := (((Fr.refl _ w).alloc _).grown hg1 fun k hk => .inl hk)
  have hgnew : v.ownBlock = some g ∨ w.heap.size ≤ g := by
    rcases hb1 with e | e
    · exact .inl e
    · right; omega
  have hL1 : (L ++ [x]).length = L.length + 1 := by simp
  obtain ⟨cur, hcur, hncap, _, hfit0, _⟩ := SlF.inner (L := L ++ [x]) (by rw [hL1]; exact hs1)
  rw [hL1] at hncap
  have hcs : ((((L ++ [x]).drop i).take (L.length - i)).flatMap nat1).length = (L.length - i) * 1 := by
    rw [flat_length nat1_length]; congr 1; simp; omega
  have hn : ((((L ++ [x]).drop i).take (L.length - i)).flatMap nat1).length = Nat.min (L.length + 1 - i) (L.length - i) * i0.size := by
    rw [hcs, hz1, show Nat.min (L.length + 1 - i) (L.length - i) = L.length - i from Nat.min_eq_right (by omega)]
  have hfit : o + (i + 1) + ((((L ++ [x]).drop i).take (L.length - i)).flatMap nat1).length ≤ cur.size := by rw [hcs]; omega
  have hpos : 0 < ((((L ++ [x]).drop i).take (L.length - i)).flatMap nat1).length → ((if cap = i + 1 then some (⟨g, o, none⟩ : Addr) else some ⟨g, o + (i + 1), none⟩) = some ⟨g, o + (i + 1), none⟩ ∧ ∃ ad, (if cap = i then some (⟨g, o, none⟩ : Addr) else some ⟨g, o + i, none⟩) = some ad ∧
      ∀ j u, ((((L ++ [x]).drop i).take (L.length - i)).flatMap nat1)[j]? = some u → w1.drew.cell? (ad.add j) = some u) := by
    intro hp
    rw [hcs] at hp
    rw [if_neg (by omega), if_neg (by omega)]
    refine ⟨rfl, _, rfl, fun j u hu => ?_⟩
    have hj := (List.getElem?_eq_some_iff.1 hu).1
    rw [hcs] at hj
    have h1 := (SlF.drop (L := L ++ [x]) nat1_length (by rw [hL1]; exact hs1) i (by rw [hL1]; omega)).drew
    have h2 : SlF w1.drew 3 1 nat1 (.slice (some ⟨g, o + i * 1, none⟩) ((L ++ [x]).drop i).length (cap - i)) ((L ++ [x]).drop i) := by rw [List.length_drop]; exact h1
    have hu2 : (((L ++ [x]).drop i).flatMap nat1)[j]? = some u := by
      have h6 := flat_take nat1_length ((L ++ [x]).drop i) (L.length - i)
      rw [← h6, List.getElem?_take, if_pos (by omega)] at hu
      exact hu
    have h3 := SlF.cells nat1_length h2 j u hu2
    simpa using h3
  have hcw : w1.drew.heap[g]? = some (.cells cur 3 (0, 0)) := hcur
  have H1 := Lib.hid hs1
  have HG1 := Lib.hid hg1
  have HL := Lib.hid hL1
  have HN := Lib.hid hn
  have HP := Lib.hid hpos
  have HFT := Lib.hid hfit
  have HCS := Lib.hid hcs
  have HCW := Lib.hid hcw
  clear hs1 hg1 hL1 hnew hn hpos hfit hcs hcw hcur hfit0
  have hi1 : (i : Int) + 1 ≤ (L.length : Int) + 1 := by omega
  have hi5 : (0 : Int) ≤ (i : Int) + 1 := by omega
  have hi2 : (i : Int) ≤ (L.length : Int) + 1 := by omega
  have hi3 : i + 1 ≤ L.length + 1 := by omega
  have hi4 : i ≤ L.length + 1 := by omega
  go_wp2_with fail
  refine wp_region_still_tail 7 (by kernel_rfl) (by kernel_rfl) ?_
  simp only [List.take_succ_cons, List.take_zero, List.drop_succ_cons, List.drop_zero]
  change wpStill _ _ w1.drew _ _ _
  repeat (refine wpStill_step (fun K hK => ?_); go_simp; (try go_bits); refine hK _ ?_; clear hK K)
  refine wpStill_nil ?_
  change wpList _ _ _ _ _ w1.drew
  refine wpList_copy_sl rfl _ _ 149 149 3 i0 rfl Try.underlying149 hi0 _ _ _ _ _ _ g (o + (i + 1)) cur 3 ((((L ++ [x]).drop i).take (L.length - i)).flatMap nat1) rfl rfl HCW.out HN.out HP.out HFT.out (one_nat1 _) ?_
  intro w2 hw2 hgr2
  generalize (if cap = i + 1 then some (⟨g, o, none⟩ : Addr) else some ⟨g, o + (i + 1), none⟩) = A1
  generalize (if cap = i then some (⟨g, o, none⟩ : Addr) else some ⟨g, o + i, none⟩) = A2
  have hs2 := SlF.copied (w := w1.drew) (w' := w2) (L := L ++ [x]) nat1_length (by have := H1.out; rw [HL.out]; exact this) i (i + 1) (L.length - i) (by simp; omega) (by simp; omega) cur HCW.out (by rw [HCS.out] at hw2; simpa using hw2)
  have HE := Lib.hid (insert_eq L x i hi)
  generalize hL2 : ((L ++ [x]).take (i + 1) ++ ((L ++ [x]).drop i).take (L.length - i) ++ (L ++ [x]).drop (i + 1 + (L.length - i))) = L2 at hs2 HE
  have hL2l : L2.length = L.length + 1 := by rw [← hL2]; simp; omega
  obtain ⟨y, hy⟩ : ∃ y, L2[i]? = some y := ⟨_, List.getElem?_eq_getElem (by omega)⟩
  have hs2' : SlF w2 3 1 nat1 (.slice (some ⟨g, o, none⟩) L2.length cap) L2 := by rw [hL2l]; rwa [HL.out] at hs2
  have d0 := hs2'.cell1 nat1_length i hy rfl
  have f0 := hs2'.free (o + i)
  have H2 := Lib.hid hs2'
  have HY := Lib.hid hy
  have HL2 := Lib.hid hL2l
  have HG2 := Lib.hid hgr2
  have hi6 : (i : Int) < (L.length : Int) + 1 := by omega
  have hi7 : i < L.length + 1 := by omega
  clear hs2 hs2' hy hL2 hL2l hgr2 hw2
  go_wp2
  go_ret
  refine ⟨g, o, cap, rfl, ?_, ?_, hgnew⟩
  · have e1 := SlF.set nat1_length H2.out i 0 (by omega) y x (.int .i64 x) HY.out rfl
    rw [HE.out, HL2.out] at e1
    simpa using e1
  · have hF2 : Fr (fun b => v.ownBlock = some b) w w2 := hF1.drew.grown HG2.out fun k hk => by cases hk; exact hgnew
    exact hF2.setCell (p := ⟨g, o + i, none⟩) hgnew _

end Go.Proofs.Ythljnnjpmdgkoaa

namespace Go.Proofs.Ythljnnjpmdgkoaa
open Go Go.Proofs Go.RowKit
set_option maxRecDepth 100000
theorem info198 : (Try.prog.info? 198).map (fun i => (i.zero, i.size, i.bytes)) = some (some (.agg #[.slice none 0 0, .slice none 0 0]), 2, 48) := by kernel_rfl
def nz0 : Nz := ⟨nd0, .slice none 0 0, .slice none 0 0⟩

theorem takeZ {Z : List Nz} : ndsZ (Z ++ [nz0]) = ndsZ Z ++ [nd0] := by unfold ndsZ; simp [nz0]

set_option maxHeartbeats 1000000 in
theorem take_some (w : World) (t : Nat) (A : Arr) (fl : List Nat) (root : Nat) (many : Int) (F : Nat → Prop) (h : TreeZ w t A fl root many F) (hA : A.length ≤ 1099511627) (hl : fl.length ≤ 1099511627) (hne : fl ≠ []) :
    Calls Try.prog 142 #[.pointer (some ⟨t, 0, none⟩)] w fun e w' => e = .returned (.int .i64 (takeI A fl : Int)) ∧ ∃ F', TreeZ w' t (takeA A fl) fl.dropLast root many F' ∧ Fr F w w' ∧ ∀ b, F' b → F b ∨ w.heap.size ≤ b := by
  obtain ⟨nv, fv, Z, h, rfl, hF⟩ := h
  have c1 := h.obj.cell 1 rfl
  have f1 := h.obj.free 1
  have hpos : 0 < fl.length := List.length_pos_iff.2 hne
  obtain ⟨a, cap, rfl, hc1, hc2, ha⟩ := h.free.shape
  obtain ⟨fb, fo, rfl⟩ := ha hpos
  have hx : fl[fl.length - 1]? = some (fl.getLast hne) := by
    rw [List.getLast_eq_getElem]; exact List.getElem?_eq_getElem _
  have d0 := h.free.cell1 nat1_length (fl.length - 1) hx rfl
  have htI : takeI (ndsZ Z) fl = fl.getLast hne := by unfold takeI; rw [List.getLast?_eq_some_getLast hne]; rfl
  have htA : takeA (ndsZ Z) fl = ndsZ Z := by unfold takeA; rw [if_neg hne]
  have hs := h.free.take nat1_length (fl.length - 1) (by omega)
  rw [← List.dropLast_eq_take] at hs
  have hln : fl.dropLast.length = fl.length - 1 := by simp
  have HS : Hid (SlF w 3 1 nat1 (.slice (some ⟨fb, fo, none⟩) (fl.length - 1) cap) fl.dropLast) := Lib.hid hs
  have H := Lib.hid h
  have HI := Lib.hid htI
  have HTA := Lib.hid htA
  have HFF := Lib.hid hF
  generalize fl.getLast hne = x at *
  have hz0 : (0 : Int) < (fl.length : Int) := by omega
  have hj1 : (0 : Int) ≤ (fl.length : Int) - 1 := by omega
  have hj2 : (fl.length : Int) - 1 ≤ (cap : Int) := by omega
  have hj3 : ((fl.length : Int) - 1).toNat = fl.length - 1 := by omega
  have hj4 : (fl.length : Int) - 1 < (fl.length : Int) := by omega
  have hj5 : (fl.length : Int) ≤ 1099511627 := by omega
  clear h hs htI htA hF hx ha hln
  generalize hN : fl.length = n at *
  go_enter Try.func142, Try.ntmps142
  go_wp2
  go_ret
  have hset := H.out.setFree (w1 := w) (fl' := fl.dropLast) (fv' := .slice (some ⟨fb, fo, none⟩) (n - 1) cap) (Fr.refl _ w) HS.out (fun b e => .inl e)
  obtain ⟨q1, q2, q3⟩ := hset
  refine ⟨by rw [HI.out]; rfl, _, ⟨_, _, Z, q1, HTA.out.symm, fun b => Iff.rfl⟩, q2.mono fun b _ e => (HFF.out b).2 ?_, fun b hb => ?_⟩
  · rcases e with e | e
    · exact .inl e
    · exact .inr (.inr (.inl e))
  · rcases q3 b hb with e | e
    · exact .inl ((HFF.out b).2 e)
    · exact .inr e

set_option maxHeartbeats 1000000 in
theorem take_none (w : World) (t : Nat) (A : Arr) (root : Nat) (many : Int) (F : Nat → Prop) (h : TreeZ w t A [] root many F) (hA : A.length ≤ 1099511627) :
    Calls Try.prog 142 #[.pointer (some ⟨t, 0, none⟩)] w fun e w' => e = .returned (.int .i64 (takeI A [] : Int)) ∧ ∃ F', TreeZ w' t (takeA A []) [] root many F' ∧ Fr F w w' ∧ ∀ b, F' b → F b ∨ w.heap.size ≤ b := by
  obtain ⟨nv, fv, Z, h, rfl, hF⟩ := h
  rw [ndsZ_len] at hA
  have c0 := h.obj.cell 0 rfl
  have c1 := h.obj.cell 1 rfl
  have f0 := h.obj.free 0
  obtain ⟨i0, hi0, hz0, hz1, hz2⟩ := info_parts info198
  obtain ⟨a, cap, rfl, hc1, hc2, ha⟩ := h.free.shape
  have hnew := cells_new w [.slice none 0 0, .slice none 0 0] 198 (0, 0)
  have H := Lib.hid h
  have HFF := Lib.hid hF
  have HN := Lib.hid h.nodes
  have hlt := h.obj.lt
  have hnt : ¬ nv.ownBlock = some t := h.a1.1
  clear h hF ha
  go_enter Try.func142, Try.ntmps142
  go_wp2_with (at_builtin; refine wpList_append_f rfl _ _ 175 rfl 198 i0 _ 2 48 Try.underlying175 hi0 hz0 hz1 hz2 rfl (by decide) nv Z rfl (HN.out.alloc _) w.heap.size 1 nz0 rfl (by simpa [nzC, nz0] using hnew) rfl (by intro u hu; simp [nzC, nz0] at hu; subst hu; rfl) (by unfold maxLen; omega) (by omega) ?_)
  intro g o cap' w1 hs1 hg1 hb1 hlt1
  have hF1 : Fr (fun b => nv.ownBlock = some b) w w1 := (((Fr.refl _ w).alloc _).grown hg1 fun k hk => .inl hk)
  have e0 := hF1.cell c0 hnt
  have e1 := hF1.cell c1 hnt
  have g0 := hF1.free c0 f0 hnt
  have HS1 := Lib.hid hs1
  have HB1 := Lib.hid hb1
  have HF1 := Lib.hid hF1
  clear hs1 hg1 hb1 hF1 c0 c1 f0 hnew
  have hj : (0 : Int) ≤ (Z.length : Int) := by omega
  go_wp2
  go_ret
  have hL : (Z ++ [nz0]).length = Z.length + 1 := by simp
  have hset := H.out.snoc (w1 := w1) (nv' := .slice (some ⟨g, o, none⟩) (Z.length + 1) cap') HF1.out HS1.out fun b e => by
    obtain rfl : g = b := by simpa [Value.ownBlock] using e
    rcases HB1.out with e | e
    · exact .inl e
    · right; omega
  obtain ⟨q1, q2, q3⟩ := hset
  refine ⟨?_, _, ⟨_, _, _, q1, by unfold takeA; rw [if_pos rfl]; exact takeZ, fun b => Iff.rfl⟩, q2.mono fun b _ e => (HFF.out b).2 ?_, fun b hb => ?_⟩
  · unfold takeI
    rw [List.getLast?_nil, ndsZ_len]
    rfl
  · rcases e with e | e
    · exact .inl e
    · exact .inr (.inl e)
  · rcases q3 b hb with e | e
    · exact .inl ((HFF.out b).2 e)
    · exact .inr e

theorem take_calls (w : World) (t : Nat) (A : Arr) (fl : List Nat) (root : Nat) (many : Int) (F : Nat → Prop) (h : TreeZ w t A fl root many F) (hA : A.length ≤ 1099511627) (hl : fl.length ≤ 1099511627) :
    Calls Try.prog 142 #[.pointer (some ⟨t, 0, none⟩)] w fun e w' => e = .returned (.int .i64 (takeI A fl : Int)) ∧ ∃ F', TreeZ w' t (takeA A fl) fl.dropLast root many F' ∧ Fr F w w' ∧ ∀ b, F' b → F b ∨ w.heap.size ≤ b := by
  by_cases hne : fl = []
  · subst hne; exact take_none w t A root many F h hA
  · exact take_some w t A fl root many F h hA hl hne

/-- A node is emptied, and counted free. -/
def dropA (A : Arr) (at_ : Nat) : Arr := A.set at_ nd0
set_option maxHeartbeats 1000000 in
theorem drop_calls (w : World) (t : Nat) (A : Arr) (fl : List Nat) (root : Nat) (many : Int) (F : Nat → Prop) (h : TreeZ w t A fl root many F) (at_ : Nat) (hat : at_ < A.length) (hA : A.length ≤ 1099511627) (hl : fl.length ≤ 1099511627) :
    Calls Try.prog 120 #[.pointer (some ⟨t, 0, none⟩), .int .i64 at_] w fun e w' => e = .returned (.tuple #[]) ∧ ∃ F', TreeZ w' t (A.set at_ nd0) (fl ++ [at_]) root many F' ∧ Fr F w w' ∧ ∀ b, F' b → F b ∨ w.heap.size ≤ b := by
  obtain ⟨nv, fv, Z, h, rfl, hF⟩ := h
  obtain ⟨z, hz, _⟩ := ndsZ_some hat
  rw [ndsZ_len] at hA hat
  have c0 := h.obj.cell 0 rfl
  have c1 := h.obj.cell 1 rfl
  have f1 := h.obj.free 1
  obtain ⟨i0, hi0, hz0, hz1, hz2⟩ := info_parts info3
  obtain ⟨a, cap, rfl, hc1, hc2, ha⟩ := h.nodes.shape
  obtain ⟨nb, no, rfl⟩ := ha (by omega)
  have n0 := h.nodes.cell0 nzC_length at_ hz rfl
  have n1 := h.nodes.cell nzC_length at_ 1 hz rfl
  have nf := h.nodes.free (no + at_ * 2)
  have nf1 := h.nodes.free (no + at_ * 2 + 1)
  have htn : t ≠ nb := fun e => h.a1.1 (by rw [e]; rfl)
  have hp := h.setPairs (w1 := w) (pv' := .slice none 0 0) (P' := []) at_ z hz (Fr.refl _ w) (SlF.nil _ _ _ _) (fun b e => by simp [Value.ownBlock] at e)
  obtain ⟨p1, p2, p3⟩ := hp
  have hz2' : (Z.set at_ ⟨⟨[], z.nd.kids⟩, .slice none 0 0, z.kv⟩)[at_]? = some ⟨⟨[], z.nd.kids⟩, .slice none 0 0, z.kv⟩ := List.getElem?_set_self hat
  have p1' : TreeR (w.setCell ⟨nb, no + at_ * 2, none⟩ (.slice none 0 0)) t (.slice (some ⟨nb, no, none⟩) (Z.set at_ ⟨⟨[], z.nd.kids⟩, .slice none 0 0, z.kv⟩).length cap) fv (Z.set at_ ⟨⟨[], z.nd.kids⟩, .slice none 0 0, z.kv⟩) fl root many := by rw [List.length_set]; exact p1
  have hk := p1'.setKids (w1 := w.setCell ⟨nb, no + at_ * 2, none⟩ (.slice none 0 0)) (kv' := .slice none 0 0) (K' := []) at_ _ hz2' (Fr.refl _ _) (SlF.nil _ _ _ _) (fun b e => by simp [Value.ownBlock] at e)
  obtain ⟨k1, k2, k3⟩ := hk
  rw [List.set_set, List.length_set] at k1
  have hFz : ∀ b, treeF t (.slice (some ⟨nb, no, none⟩) Z.length cap) fv (Z.set at_ nz0) b → treeF t (.slice (some ⟨nb, no, none⟩) Z.length cap) fv Z b ∨ w.heap.size ≤ b :=
    treeF_set hz fun b hb => by rcases hb with e | e <;> simp [Value.ownBlock, nz0] at e
  have hK1 : TreeR ((w.setCell ⟨nb, no + at_ * 2, none⟩ (.slice none 0 0)).setCell ⟨nb, no + at_ * 2 + 1, none⟩ (.slice none 0 0)) t (.slice (some ⟨nb, no, none⟩) Z.length cap) fv (Z.set at_ nz0) fl root many := k1
  have hFR : Fr F w ((w.setCell ⟨nb, no + at_ * 2, none⟩ (.slice none 0 0)).setCell ⟨nb, no + at_ * 2 + 1, none⟩ (.slice none 0 0)) := by
    refine (((Fr.refl F w).setCell (p := ⟨nb, no + at_ * 2, none⟩) (.inl ?_) _).setCell (p := ⟨nb, no + at_ * 2 + 1, none⟩) (.inl ?_) _) <;> exact (hF nb).2 (.inr (.inl rfl))
  have hlnb := h.nodes.lt nb rfl
  have hlt := h.obj.lt
  have H := Lib.hid hK1
  have HFZ := Lib.hid hFz
  have HFF := Lib.hid hF
  have HFR := Lib.hid hFR
  clear h hF ha p1 p2 p3 p1' k1 k2 k3 hK1 hFz hFR hz hz2'
  have hj : (at_ : Int) < (Z.length : Int) := by omega
  have hnew := cells_new ((w.setCell ⟨nb, no + at_ * 2, none⟩ (.slice none 0 0)).setCell ⟨nb, no + at_ * 2 + 1, none⟩ (.slice none 0 0)) [.int .i64 (at_ : Int)] 3 (0, 0)
  have hsz : ((w.setCell ⟨nb, no + at_ * 2, none⟩ (.slice none 0 0)).setCell ⟨nb, no + at_ * 2 + 1, none⟩ (.slice none 0 0)).heap.size = w.heap.size := by simp
  rw [hsz] at hnew
  have HSZ := Lib.hid hsz
  clear hsz
  go_enter Try.func120, Try.ntmps120
  go_wp2_with (at_builtin; refine wpList_append_f rfl _ _ 149 rfl 3 i0 _ 1 8 Try.underlying149 hi0 hz0 hz1 hz2 rfl (by decide) fv fl rfl (H.out.free.alloc _) w.heap.size 1 at_ rfl (by simpa [nat1] using hnew) rfl (by intro u hu; simp [nat1] at hu; subst hu; rfl) (by unfold maxLen; omega) (by omega) ?_)
  generalize ((w.setCell ⟨nb, no + at_ * 2, none⟩ (.slice none 0 0)).setCell ⟨nb, no + at_ * 2 + 1, none⟩ (.slice none 0 0)) = W1 at *
  intro g o cap' w1 hs1 hg1 hb1 hlt1
  have hF1 : Fr (fun b => fv.ownBlock = some b) W1 w1 := (((Fr.refl _ W1).alloc _).grown hg1 fun k hk => .inl hk)
  have hnt : ¬ fv.ownBlock = some t := H.out.a1.2.1
  have e1 := hF1.cell (H.out.obj.cell 1 rfl) hnt
  have g1 := hF1.free (H.out.obj.cell 1 rfl) (H.out.obj.free 1) hnt
  have HS1 := Lib.hid hs1
  have HB1 := Lib.hid hb1
  have HF1 := Lib.hid hF1
  clear hs1 hg1 hb1 hF1 c0 c1 f1 hnew n0 n1 nf nf1
  go_wp2
  refine bodyPost_end (results_none rfl _ _ _) rfl ⟨rfl, ?_⟩
  have hset := H.out.setFree (w1 := w1) (fl' := fl ++ [at_]) (fv' := .slice (some ⟨g, o, none⟩) (fl.length + 1) cap') HF1.out HS1.out fun b e => by
    obtain rfl : g = b := by simpa [Value.ownBlock] using e
    rcases HB1.out with e | e
    · exact .inl e
    · right; have := HSZ.out; omega
  obtain ⟨q1, q2, q3⟩ := hset
  refine ⟨_, ⟨_, _, _, q1, by rw [ndsZ_set]; rfl, fun b => Iff.rfl⟩, HFR.out.trans q2 fun b hb e => (HFF.out b).2 ?_, fun b hb => ?_⟩
  · rcases e with e | e
    · exact .inl e
    · exact .inr (.inr (.inl e))
  · rcases q3 b hb with e | e
    · rcases HFZ.out b e with e | e
      · exact .inl ((HFF.out b).2 e)
      · exact .inr e
    · right; have := HSZ.out; omega
end Go.Proofs.Ythljnnjpmdgkoaa
