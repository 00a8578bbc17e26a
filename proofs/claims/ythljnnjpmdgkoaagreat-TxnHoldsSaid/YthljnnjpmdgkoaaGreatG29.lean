/- Lemmas for the claim. Conditions stand in each. -/
import Derived.Test.YthljnnjpmdgkoaaGreatG28
import Derived.Test.YthljnnjpmdgkoaaGreatG03
import Derived.Test.YthljnnjpmdgkoaaGreatG06
import Derived.StillTailTactics
namespace Go.Proofs.YthljnnjpmdgkoaaGreat
open Go Go.Proofs Go.RowKit
set_option maxRecDepth 100000
theorem Sl.inner {w : World} {e : TypeId} {sz : Nat} {g o n cap : Nat} {xs : List Value} (h : Sl w e sz (.slice (some ⟨g, o, none⟩) n cap) n xs) : ∃ cur, w.heap[g]? = some (.cells cur e (0, 0)) ∧ n ≤ cap ∧ cap ≤ maxLen ∧ o + cap * sz ≤ cur.size ∧ (cur.toList.drop o).take (n * sz) = xs := by
 rcases h.2 with ⟨h0, _⟩ | ⟨g', o', cap', cur, hv, hg, h1, h2, h3, h4⟩
 · cases h0
 cases hv
 exact ⟨cur, hg, h1, h2, h3, h4⟩
theorem SlF.inner {α : Type} {f : α → List Value} {w : World} {e sz g o cap : Nat} {L : List α} (h : SlF w e sz f (.slice (some ⟨g, o, none⟩) L.length cap) L) : ∃ cur, w.heap[g]? = some (.cells cur e (0, 0)) ∧ L.length ≤ cap ∧ cap ≤ maxLen ∧ o + cap * sz ≤ cur.size ∧ (cur.toList.drop o).take (L.length * sz) = L.flatMap f := Sl.inner h
theorem SlF.cells {α : Type} {f : α → List Value} {w : World} {e sz g o cap : Nat} {L : List α} (_hf : ∀ x, (f x).length = sz) (h : SlF w e sz f (.slice (some ⟨g, o, none⟩) L.length cap) L) (j : Nat) (u : Value) (hu : (L.flatMap f)[j]? = some u) : w.cell? ((⟨g, o, none⟩ : Addr).add j) = some u := by
 have hadd : (⟨g, o, none⟩ : Addr).add j = ⟨g, o + j, none⟩ := by unfold Addr.add; split <;> simp_all
 rw [hadd]; exact Sl.cell h j hu
theorem SlF.drop {α : Type} {f : α → List Value} {w : World} {e sz g o cap : Nat} {L : List α} (hf : ∀ x, (f x).length = sz) (h : SlF w e sz f (.slice (some ⟨g, o, none⟩) L.length cap) L) (k : Nat) (hk : k ≤ L.length) :
 SlF w e sz f (.slice (some ⟨g, o + k * sz, none⟩) (L.length - k) (cap - k)) (L.drop k) := by
 obtain ⟨cur, hc, h1, h2, h3, h4⟩ := h.inner; have hm : k * sz + (cap - k) * sz = cap * sz := by rw [← Nat.add_mul]; congr 1; omega
 refine ⟨zam hf _, .inr ⟨g, o + k * sz, cap - k, cur, by rw [List.length_drop], hc, by rw [List.length_drop]; omega, by omega, by omega, ?_⟩⟩
 have h5 : (L.drop k).flatMap f = (L.flatMap f).drop (k * sz) := by
  have h6 := congrArg (fun l => List.flatMap f l) (List.take_append_drop k L); simp only [List.flatMap_append] at h6; have h7 : ((L.take k).flatMap f).length = k * sz := (by rw [zam hf]; congr 1; simp; omega)
  conv => rhs; rw [← h6]
  rw [← h7, List.drop_left]
 rw [h5, ← h4, List.drop_take, List.drop_drop, List.length_drop, Nat.sub_mul]
theorem zls : ∀ (L : List (ByteArray × Int)), ∀ u ∈ L.flatMap pairC, u.oneCell' = true := by
 intro L u hu; obtain ⟨y, _, hy⟩ := List.mem_flatMap.1 hu; simp [pairC] at hy; rcases hy with rfl | rfl <;> rfl
theorem zka : ∀ (L : List Nat), ∀ u ∈ L.flatMap nat1, u.oneCell' = true := by
 intro L u hu; obtain ⟨y, _, hy⟩ := List.mem_flatMap.1 hu; simp [nat1] at hy; subst hy; rfl
def zfs (L : List (ByteArray × Int)) : Prop := (L.flatMap pairC).length = L.length * 2
def zgp (L : List Nat) : Prop := (L.flatMap nat1).length = L.length * 1
set_option maxHeartbeats 1000000 in
theorem zjy (w : World) (v : Value) (L : List (ByteArray × Int)) (hv : SlF w 122 2 pairC v L) (hl : L.length ≤ 1000) :
 Calls Tryz.prog 175 #[v] w fun e w' => ∃ g, e = .returned (.slice (some ⟨g, 0, none⟩) L.length L.length) ∧ SlF w' 122 2 pairC (.slice (some ⟨g, 0, none⟩) L.length L.length) L ∧ Fr No w w' ∧ w.heap.size ≤ g := by
 obtain ⟨i0, hi0, hz0, hz1, hz2⟩ := info_parts info127; have hl0 : zfs L := zam zae L; obtain ⟨a, cap, rfl, hc1, hc2, ha⟩ := hv.shape
 have hmk : ∀ W, (Instr.makeSlice 119 (.int .i64 (L.length : Int)) (.int .i64 (L.length : Int))).run Tryz.prog W = .ok (.slice (some ⟨W.heap.size, 0, none⟩) L.length L.length) (W.alloc (.cells (madeCells (Value.cells (.agg #[.string ByteArray.empty, .int .i64 0])) (L.length * 2)) 122)) := by
  intro W; have := run_make (P := Tryz.prog) W 119 122 i0 _ Tryz.underlying119 hi0 hz0 .i64 .i64 L.length L.length (by omega) (by omega) (by rw [hz2]; omega) (by omega); rw [hz1] at this; simpa using this
 have HV := H_ hv; have HA := H_ ha; have HL := H_ hl0; clear hv ha hl0; have hn : (L.flatMap pairC).length = Nat.min L.length L.length * i0.size := by rw [hz1, zam zae, show Nat.min L.length L.length = L.length from Nat.min_self _]
 have hpos : 0 < (L.flatMap pairC).length → (some (⟨w.heap.size, 0, none⟩ : Addr) = some ⟨w.heap.size, 0, none⟩ ∧ ∃ ad, a = some ad ∧ ∀ j u, (L.flatMap pairC)[j]? = some u → (w.alloc (.cells (madeCells (Value.cells (.agg #[.string ByteArray.empty, .int .i64 0])) (L.length * 2)) 122)).cell? (ad.add j) = some u) := by
  intro hp; rw [zam zae] at hp; obtain ⟨g0, o0, rfl⟩ := HA.out (by omega); exact ⟨rfl, _, rfl, fun j u hu => SlF.cells zae (HV.out.alloc _) j u hu⟩
 have hfit : 0 + (L.flatMap pairC).length ≤ (madeCells (Value.cells (.agg #[.string ByteArray.empty, .int .i64 0])) (L.length * 2)).size := by rw [zam zae, size_madeCells]; omega
 have HN := H_ hn; have HP := H_ hpos; have HFT := H_ hfit; clear hn hpos hfit; go_enter Tryz.func175, Tryz.ntmps175; go_wp2_with (refine zbo rfl _ _ 119 119 122 i0 rfl Tryz.underlying119 hi0 _ _ L.length L.length L.length cap w.heap.size 0 (madeCells (Value.cells (.agg #[.string ByteArray.empty, .int .i64 0])) (L.length * 2)) 122 (L.flatMap pairC) rfl rfl (zad _ _ _ rfl) HN.out HP.out HFT.out (zls L) ?_); intro w2 hw2 hg2; have hf : Fr No w (w.alloc (Obj.cells (madeCells (Value.cells (.agg #[.string ByteArray.empty, .int .i64 0])) (L.length * 2)) 122)) := (Fr.refl No w).alloc _; have hmin : Nat.min L.length L.length = L.length := Nat.min_self _; go_wp2; go_ret; refine ⟨w.heap.size, rfl, ⟨zam zae L, .inr ⟨w.heap.size, 0, L.length, _, rfl, hw2, Nat.le_refl _, by unfold maxLen; omega, ?_, ?_⟩⟩, ?_, Nat.le_refl _⟩
 · have := HL.out; unfold zfs at this
   simp [this]
 · have := HL.out; unfold zfs at this
   have hm : (madeCells (Value.cells (.agg #[.string ByteArray.empty, .int .i64 0])) (L.length * 2)).toList.length = L.length * 2 := (by rw [Array.length_toList, size_madeCells] <;> omega); simp only [List.drop_zero]; rw [List.take_left' this]
 refine ⟨hg2.os.trans hf.os, hg2.tape.trans hf.tape, hg2.output.trans hf.output, Nat.le_trans hf.size hg2.size, fun k hk _ => (hg2.block k (Nat.lt_of_lt_of_le hk hf.size) fun e => ?_).trans (hf.block k hk id)⟩
 cases e
 omega
set_option maxHeartbeats 1000000 in
theorem zln (w : World) (v : Value) (L : List (Nat)) (hv : SlF w 3 1 nat1 v L) (hl : L.length ≤ 1000) :
 Calls Tryz.prog 176 #[v] w fun e w' => ∃ g, e = .returned (.slice (some ⟨g, 0, none⟩) L.length L.length) ∧ SlF w' 3 1 nat1 (.slice (some ⟨g, 0, none⟩) L.length L.length) L ∧ Fr No w w' ∧ w.heap.size ≤ g := by
 obtain ⟨i0, hi0, hz0, hz1, hz2⟩ := info_parts info3; have hl0 : zgp L := zam zah L; obtain ⟨a, cap, rfl, hc1, hc2, ha⟩ := hv.shape
 have hmk : ∀ W, (Instr.makeSlice 76 (.int .i64 (L.length : Int)) (.int .i64 (L.length : Int))).run Tryz.prog W = .ok (.slice (some ⟨W.heap.size, 0, none⟩) L.length L.length) (W.alloc (.cells (madeCells (Value.cells (.int .i64 0)) (L.length)) 3)) := by
  intro W; have := run_make (P := Tryz.prog) W 76 3 i0 _ Tryz.underlying76 hi0 hz0 .i64 .i64 L.length L.length (by omega) (by omega) (by rw [hz2]; omega) (by omega); rw [hz1] at this; simpa using this
 have HV := H_ hv; have HA := H_ ha; have HL := H_ hl0; clear hv ha hl0; have hn : (L.flatMap nat1).length = Nat.min L.length L.length * i0.size := by rw [hz1, zam zah, show Nat.min L.length L.length = L.length from Nat.min_self _]
 have hpos : 0 < (L.flatMap nat1).length → (some (⟨w.heap.size, 0, none⟩ : Addr) = some ⟨w.heap.size, 0, none⟩ ∧ ∃ ad, a = some ad ∧ ∀ j u, (L.flatMap nat1)[j]? = some u → (w.alloc (.cells (madeCells (Value.cells (.int .i64 0)) (L.length)) 3)).cell? (ad.add j) = some u) := by
  intro hp; rw [zam zah] at hp; obtain ⟨g0, o0, rfl⟩ := HA.out (by omega); exact ⟨rfl, _, rfl, fun j u hu => SlF.cells zah (HV.out.alloc _) j u hu⟩
 have hfit : 0 + (L.flatMap nat1).length ≤ (madeCells (Value.cells (.int .i64 0)) (L.length)).size := by rw [zam zah, size_madeCells]; omega
 have HN := H_ hn; have HP := H_ hpos; have HFT := H_ hfit; clear hn hpos hfit; go_enter Tryz.func176, Tryz.ntmps176; go_wp2_with (refine zbo rfl _ _ 76 76 3 i0 rfl Tryz.underlying76 hi0 _ _ L.length L.length L.length cap w.heap.size 0 (madeCells (Value.cells (.int .i64 0)) (L.length)) 3 (L.flatMap nat1) rfl rfl (zad _ _ _ rfl) HN.out HP.out HFT.out (zka L) ?_); intro w2 hw2 hg2; have hf : Fr No w (w.alloc (Obj.cells (madeCells (Value.cells (.int .i64 0)) (L.length)) 3)) := (Fr.refl No w).alloc _; have hmin : Nat.min L.length L.length = L.length := Nat.min_self _; go_wp2; go_ret; refine ⟨w.heap.size, rfl, ⟨zam zah L, .inr ⟨w.heap.size, 0, L.length, _, rfl, hw2, Nat.le_refl _, by unfold maxLen; omega, ?_, ?_⟩⟩, ?_, Nat.le_refl _⟩
 · have := HL.out; unfold zgp at this
   simp [this]
 · have := HL.out; unfold zgp at this
   have hm : (madeCells (Value.cells (.int .i64 0)) (L.length)).toList.length = L.length * 1 := (by rw [Array.length_toList, size_madeCells] <;> omega); simp only [List.drop_zero]; rw [List.take_left' this]
 refine ⟨hg2.os.trans hf.os, hg2.tape.trans hf.tape, hg2.output.trans hf.output, Nat.le_trans hf.size hg2.size, fun k hk _ => (hg2.block k (Nat.lt_of_lt_of_le hk hf.size) fun e => ?_).trans (hf.block k hk id)⟩
 cases e
 omega
theorem cut_eq {α : Type} (L : List α) (i : Nat) (hi : i < L.length) : (L.take i ++ (L.drop (i + 1)).take (L.length - (i + 1)) ++ L.drop (i + (L.length - (i + 1)))).take (L.length - 1) = L.take i ++ L.drop (i + 1) := by
 rw [List.take_of_length_le (l := L.drop (i + 1)) (by simp), List.take_append_of_le_length (by simp; omega), List.take_of_length_le (by simp; omega)]
set_option maxHeartbeats 1000000 in
theorem zed (w : World) (v : Value) (L : List (ByteArray × Int)) (i : Nat) (hv : SlF w 122 2 pairC v L) (hi : i < L.length) (hl : L.length ≤ 1000) :
 Calls Tryz.prog 170 #[v, .int .i64 i] w fun e w' => ∃ g o cap, e = .returned (.slice (some ⟨g, o, none⟩) (L.length - 1) cap) ∧ SlF w' 122 2 pairC (.slice (some ⟨g, o, none⟩) (L.length - 1) cap) (L.take i ++ L.drop (i + 1)) ∧
  Fr (fun b => v.ownBlock = some b) w w' ∧ v.ownBlock = some g := by
 obtain ⟨i0, hi0, hz0, hz1, hz2⟩ := info_parts info127; obtain ⟨a, cap, rfl, hc1, hc2, ha⟩ := hv.shape; obtain ⟨g, o, rfl⟩ := ha (by omega); obtain ⟨cur, hcur, _, _, hfit0, _⟩ := hv.inner
 have hcs : (((L.drop (i + 1)).take (L.length - (i + 1))).flatMap pairC).length = (L.length - (i + 1)) * 2 := by
  rw [zam zae]; congr 1; simp
 have hn : (((L.drop (i + 1)).take (L.length - (i + 1))).flatMap pairC).length = Nat.min (L.length - (i + 1)) (L.length - i) * i0.size := by
  rw [hcs, hz1, show Nat.min (L.length - (i + 1)) (L.length - i) = L.length - (i + 1) from Nat.min_eq_left (by omega)]
 have hmul : (i + 1) * 2 + (L.length - (i + 1)) * 2 = L.length * 2 := by rw [← Nat.add_mul]; congr 1; omega
 have hmul2 : i * 2 + 1 * 2 = (i + 1) * 2 := by rw [← Nat.add_mul]
 have hmc : L.length * 2 ≤ cap * 2 := Nat.mul_le_mul_right _ hc1; have hfit : o + i * 2 + (((L.drop (i + 1)).take (L.length - (i + 1))).flatMap pairC).length ≤ cur.size := by rw [hcs]; omega
 have hpos : 0 < (((L.drop (i + 1)).take (L.length - (i + 1))).flatMap pairC).length → ((if cap = i then some (⟨g, o, none⟩ : Addr) else some ⟨g, o + i * 2, none⟩) = some ⟨g, o + i * 2, none⟩ ∧ ∃ ad, (if cap = i + 1 then some (⟨g, o, none⟩ : Addr) else some ⟨g, o + (i + 1) * 2, none⟩) = some ad ∧
  ∀ j u, (((L.drop (i + 1)).take (L.length - (i + 1))).flatMap pairC)[j]? = some u → w.drew.cell? (ad.add j) = some u) := by
  intro hp; rw [hcs] at hp
  have hil : i + 1 < L.length := by
   rcases Nat.lt_or_ge (i + 1) L.length with h | h
   · exact h
   rw [show L.length - (i + 1) = 0 by omega] at hp; simp at hp
  rw [if_neg (by omega), if_neg (by omega)]; refine ⟨by simp, _, rfl, fun j u hu => ?_⟩; rw [List.take_of_length_le (by simp)] at hu; have h1 := (hv.drop zae (i + 1) (by omega)).drew; have h2 : SlF w.drew 122 2 pairC (.slice (some ⟨g, o + (i + 1) * 2, none⟩) (L.drop (i + 1)).length (cap - (i + 1))) (L.drop (i + 1)) := (by rw [List.length_drop]; exact h1); have h3 := SlF.cells zae h2 j u hu; simpa using h3
 have hcw : w.drew.heap[g]? = some (.cells cur 122 (0, 0)) := hcur; have HN := H_ hn; have HP := H_ hpos; have HFT := H_ hfit; have HV := H_ hv; have HCS := H_ hcs; have HCW := H_ hcw; clear hn hpos hfit hv hcs hcw ha hmul hmul2 hmc hcur hfit0; have hi1 : (i : Int) + 1 ≤ (L.length : Int) := by omega
 have hi2 : (i : Int) ≤ (L.length : Int) := by omega
 have hi3 : i + 1 ≤ L.length := by omega
 have hi4 : i ≤ L.length := by omega
 have hi5 : (0 : Int) ≤ (i : Int) + 1 := by omega
 have hi6 : (0 : Int) ≤ (i : Int) := by omega
 go_enter Tryz.func170, Tryz.ntmps170; go_wp2_with fail; refine wp_region_still_tail 7 (by kernel_rfl) (by kernel_rfl) ?_; simp only [List.take_succ_cons, List.take_zero, List.drop_succ_cons, List.drop_zero]; change wpStill _ _ w.drew _ _ _
 repeat (refine wpStill_step (fun K hK => ?_); go_simp; (try go_bits); refine hK _ ?_; clear hK K)
 refine wpStill_nil ?_; change wpList _ _ _ _ _ w.drew; refine zbo rfl _ _ 119 119 122 i0 rfl Tryz.underlying119 hi0 _ _ _ _ _ _ g (o + i * 2) cur 122 (((L.drop (i + 1)).take (L.length - (i + 1))).flatMap pairC) rfl rfl HCW.out HN.out HP.out HFT.out (zls _) ?_; intro w2 hw2 hg2; generalize (if cap = i then some (⟨g, o, none⟩ : Addr) else some ⟨g, o + i * 2, none⟩) = A1; generalize (if cap = i + 1 then some (⟨g, o, none⟩ : Addr) else some ⟨g, o + (i + 1) * 2, none⟩) = A2; have hs2 := SlF.copied (w := w.drew) (w' := w2) (L := L) zae HV.out.drew (i + 1) i (L.length - (i + 1)) (by omega) (by omega) cur HCW.out (by rw [HCS.out] at hw2; exact hw2); have HS2 := H_ hs2; have HG2 := H_ hg2; clear hs2 hw2 hg2; have hj1 : (0 : Int) ≤ (L.length : Int) - 1 := by omega
 have hj2 : (L.length : Int) - 1 ≤ (cap : Int) := by omega
 have hj3 : ((L.length : Int) - 1).toNat = L.length - 1 := by omega
 go_wp2; go_ret; refine ⟨g, o, cap, rfl, ?_, ((Fr.refl _ w).drew).grown HG2.out fun k hk => .inl (by cases hk; rfl), rfl⟩; have h4 := HS2.out; have hl2 : (L.take i ++ (L.drop (i + 1)).take (L.length - (i + 1)) ++ L.drop (i + (L.length - (i + 1)))).length = L.length := by simp; omega
 have h5 := SlF.take zae (by rw [hl2]; exact h4) (L.length - 1) (by rw [hl2]; omega); rw [cut_eq L i hi] at h5; exact h5
set_option maxHeartbeats 1000000 in
theorem zgx (w : World) (v : Value) (L : List (Nat)) (i : Nat) (hv : SlF w 3 1 nat1 v L) (hi : i < L.length) (hl : L.length ≤ 1000) :
 Calls Tryz.prog 182 #[v, .int .i64 i] w fun e w' => ∃ g o cap, e = .returned (.slice (some ⟨g, o, none⟩) (L.length - 1) cap) ∧ SlF w' 3 1 nat1 (.slice (some ⟨g, o, none⟩) (L.length - 1) cap) (L.take i ++ L.drop (i + 1)) ∧
  Fr (fun b => v.ownBlock = some b) w w' ∧ v.ownBlock = some g := by
 obtain ⟨i0, hi0, hz0, hz1, hz2⟩ := info_parts info3; obtain ⟨a, cap, rfl, hc1, hc2, ha⟩ := hv.shape; obtain ⟨g, o, rfl⟩ := ha (by omega); obtain ⟨cur, hcur, _, _, hfit0, _⟩ := hv.inner
 have hcs : (((L.drop (i + 1)).take (L.length - (i + 1))).flatMap nat1).length = (L.length - (i + 1)) * 1 := by
  rw [zam zah]; congr 1; simp
 have hn : (((L.drop (i + 1)).take (L.length - (i + 1))).flatMap nat1).length = Nat.min (L.length - (i + 1)) (L.length - i) * i0.size := by
  rw [hcs, hz1, show Nat.min (L.length - (i + 1)) (L.length - i) = L.length - (i + 1) from Nat.min_eq_left (by omega)]
 have hmul : (i + 1) * 1 + (L.length - (i + 1)) * 1 = L.length * 1 := by rw [← Nat.add_mul]; congr 1; omega
 have hmul2 : i * 1 + 1 * 1 = (i + 1) * 1 := by rw [← Nat.add_mul]
 have hmc : L.length * 1 ≤ cap * 1 := Nat.mul_le_mul_right _ hc1; have hfit : o + i * 1 + (((L.drop (i + 1)).take (L.length - (i + 1))).flatMap nat1).length ≤ cur.size := by rw [hcs]; omega
 have hpos : 0 < (((L.drop (i + 1)).take (L.length - (i + 1))).flatMap nat1).length → ((if cap = i then some (⟨g, o, none⟩ : Addr) else some ⟨g, o + i, none⟩) = some ⟨g, o + i * 1, none⟩ ∧ ∃ ad, (if cap = i + 1 then some (⟨g, o, none⟩ : Addr) else some ⟨g, o + (i + 1), none⟩) = some ad ∧
  ∀ j u, (((L.drop (i + 1)).take (L.length - (i + 1))).flatMap nat1)[j]? = some u → w.drew.cell? (ad.add j) = some u) := by
  intro hp; rw [hcs] at hp
  have hil : i + 1 < L.length := by
   rcases Nat.lt_or_ge (i + 1) L.length with h | h
   · exact h
   rw [show L.length - (i + 1) = 0 by omega] at hp; simp at hp
  rw [if_neg (by omega), if_neg (by omega)]; refine ⟨by simp, _, rfl, fun j u hu => ?_⟩; rw [List.take_of_length_le (by simp)] at hu; have h1 := (hv.drop zah (i + 1) (by omega)).drew; have h2 : SlF w.drew 3 1 nat1 (.slice (some ⟨g, o + (i + 1) * 1, none⟩) (L.drop (i + 1)).length (cap - (i + 1))) (L.drop (i + 1)) := (by rw [List.length_drop]; exact h1); have h3 := SlF.cells zah h2 j u hu; simpa using h3
 have hcw : w.drew.heap[g]? = some (.cells cur 3 (0, 0)) := hcur; have HN := H_ hn; have HP := H_ hpos; have HFT := H_ hfit; have HV := H_ hv; have HCS := H_ hcs; have HCW := H_ hcw; clear hn hpos hfit hv hcs hcw ha hmul hmul2 hmc hcur hfit0; have hi1 : (i : Int) + 1 ≤ (L.length : Int) := by omega
 have hi2 : (i : Int) ≤ (L.length : Int) := by omega
 have hi3 : i + 1 ≤ L.length := by omega
 have hi4 : i ≤ L.length := by omega
 have hi5 : (0 : Int) ≤ (i : Int) + 1 := by omega
 have hi6 : (0 : Int) ≤ (i : Int) := by omega
 go_enter Tryz.func182, Tryz.ntmps182; go_wp2_with fail; refine wp_region_still_tail 7 (by kernel_rfl) (by kernel_rfl) ?_; simp only [List.take_succ_cons, List.take_zero, List.drop_succ_cons, List.drop_zero]; change wpStill _ _ w.drew _ _ _
 repeat (refine wpStill_step (fun K hK => ?_); go_simp; (try go_bits); refine hK _ ?_; clear hK K)
 refine wpStill_nil ?_; change wpList _ _ _ _ _ w.drew; refine zbo rfl _ _ 76 76 3 i0 rfl Tryz.underlying76 hi0 _ _ _ _ _ _ g (o + i * 1) cur 3 (((L.drop (i + 1)).take (L.length - (i + 1))).flatMap nat1) rfl rfl HCW.out HN.out HP.out HFT.out (zka _) ?_; intro w2 hw2 hg2; generalize (if cap = i then some (⟨g, o, none⟩ : Addr) else some ⟨g, o + i, none⟩) = A1; generalize (if cap = i + 1 then some (⟨g, o, none⟩ : Addr) else some ⟨g, o + (i + 1), none⟩) = A2; have hs2 := SlF.copied (w := w.drew) (w' := w2) (L := L) zah HV.out.drew (i + 1) i (L.length - (i + 1)) (by omega) (by omega) cur HCW.out (by rw [HCS.out] at hw2; exact hw2); have HS2 := H_ hs2; have HG2 := H_ hg2; clear hs2 hw2 hg2; have hj1 : (0 : Int) ≤ (L.length : Int) - 1 := by omega
 have hj2 : (L.length : Int) - 1 ≤ (cap : Int) := by omega
 have hj3 : ((L.length : Int) - 1).toNat = L.length - 1 := by omega
 go_wp2; go_ret; refine ⟨g, o, cap, rfl, ?_, ((Fr.refl _ w).drew).grown HG2.out fun k hk => .inl (by cases hk; rfl), rfl⟩; have h4 := HS2.out; have hl2 : (L.take i ++ (L.drop (i + 1)).take (L.length - (i + 1)) ++ L.drop (i + (L.length - (i + 1)))).length = L.length := by simp; omega
 have h5 := SlF.take zah (by rw [hl2]; exact h4) (L.length - 1) (by rw [hl2]; omega); rw [cut_eq L i hi] at h5; exact h5
set_option maxHeartbeats 1000000 in
theorem zgt (w : World) (v : Value) (L : List Nat) (i : Nat) (x : Nat) (hv : SlF w 3 1 nat1 v L) (hi : i ≤ L.length) (hl : L.length ≤ 1000) :
 Calls Tryz.prog 177 #[v, .int .i64 i, .int .i64 x] w fun e w' => ∃ g o cap, e = .returned (.slice (some ⟨g, o, none⟩) (L.length + 1) cap) ∧
  SlF w' 3 1 nat1 (.slice (some ⟨g, o, none⟩) (L.length + 1) cap) (L.take i ++ x :: L.drop i) ∧ Fr (fun b => v.ownBlock = some b) w w' ∧ (v.ownBlock = some g ∨ w.heap.size ≤ g) := by
 obtain ⟨i0, hi0, hz0, hz1, hz2⟩ := info_parts info3; have hnew := zax w [.int .i64 (x : Int)] 3 (0, 0); have HV := H_ hv; clear hv; have hil : (0 : Int) ≤ (i : Int) := by omega
 go_enter Tryz.func177, Tryz.ntmps177; go_wp2_with (at_builtin; refine zap rfl _ _ 76 rfl 3 i0 _ 1 8 Tryz.underlying76 hi0 hz0 hz1 hz2 rfl (by decide) v L rfl (HV.out.alloc _) w.heap.size 1 x rfl (by simpa [nat1] using hnew) rfl (by intro u hu; simp [nat1] at hu; subst hu; rfl) (by unfold maxLen; omega) (by omega) ?_); intro g o cap w1 hs1 hg1 hb1 hlt1; have hgl := HV.out.lt; have hF1 : Fr (fun b => v.ownBlock = some b) w w1 := (((Fr.refl _ w).alloc _).grown hg1 fun k hk => .inl hk)
 have hgnew : v.ownBlock = some g ∨ w.heap.size ≤ g := by
  rcases hb1 with e | e
  · exact .inl e
  right; omega
 have hL1 : (L ++ [x]).length = L.length + 1 := by simp
 obtain ⟨cur, hcur, hncap, _, hfit0, _⟩ := SlF.inner (L := L ++ [x]) (by rw [hL1]; exact hs1); rw [hL1] at hncap
 have hcs : ((((L ++ [x]).drop i).take (L.length - i)).flatMap nat1).length = (L.length - i) * 1 := by
  rw [zam zah]; congr 1; simp; omega
 have hn : ((((L ++ [x]).drop i).take (L.length - i)).flatMap nat1).length = Nat.min (L.length + 1 - i) (L.length - i) * i0.size := by
  rw [hcs, hz1, show Nat.min (L.length + 1 - i) (L.length - i) = L.length - i from Nat.min_eq_right (by omega)]
 have hfit : o + (i + 1) + ((((L ++ [x]).drop i).take (L.length - i)).flatMap nat1).length ≤ cur.size := by rw [hcs]; omega
 have hpos : 0 < ((((L ++ [x]).drop i).take (L.length - i)).flatMap nat1).length → ((if cap = i + 1 then some (⟨g, o, none⟩ : Addr) else some ⟨g, o + (i + 1), none⟩) = some ⟨g, o + (i + 1), none⟩ ∧ ∃ ad, (if cap = i then some (⟨g, o, none⟩ : Addr) else some ⟨g, o + i, none⟩) = some ad ∧
  ∀ j u, ((((L ++ [x]).drop i).take (L.length - i)).flatMap nat1)[j]? = some u → w1.drew.cell? (ad.add j) = some u) := by
  intro hp; rw [hcs] at hp; rw [if_neg (by omega), if_neg (by omega)]; refine ⟨rfl, _, rfl, fun j u hu => ?_⟩; have hj := (List.getElem?_eq_some_iff.1 hu).1; rw [hcs] at hj; have h1 := (SlF.drop (L := L ++ [x]) zah (by rw [hL1]; exact hs1) i (by rw [hL1]; omega)).drew; have h2 : SlF w1.drew 3 1 nat1 (.slice (some ⟨g, o + i * 1, none⟩) ((L ++ [x]).drop i).length (cap - i)) ((L ++ [x]).drop i) := (by rw [List.length_drop]; exact h1)
  have hu2 : (((L ++ [x]).drop i).flatMap nat1)[j]? = some u := by
   have h6 := zdm zah ((L ++ [x]).drop i) (L.length - i); rw [← h6, List.getElem?_take, if_pos (by omega)] at hu; exact hu
  have h3 := SlF.cells zah h2 j u hu2; simpa using h3
 have hcw : w1.drew.heap[g]? = some (.cells cur 3 (0, 0)) := hcur; have H1 := H_ hs1; have HG1 := H_ hg1; have HL := H_ hL1; have HN := H_ hn; have HP := H_ hpos; have HFT := H_ hfit; have HCS := H_ hcs; have HCW := H_ hcw; clear hs1 hg1 hL1 hnew hn hpos hfit hcs hcw hcur hfit0; have hi1 : (i : Int) + 1 ≤ (L.length : Int) + 1 := by omega
 have hi5 : (0 : Int) ≤ (i : Int) + 1 := by omega
 have hi2 : (i : Int) ≤ (L.length : Int) + 1 := by omega
 have hi3 : i + 1 ≤ L.length + 1 := by omega
 have hi4 : i ≤ L.length + 1 := by omega
 go_wp2_with fail; refine wp_region_still_tail 7 (by kernel_rfl) (by kernel_rfl) ?_; simp only [List.take_succ_cons, List.take_zero, List.drop_succ_cons, List.drop_zero]; change wpStill _ _ w1.drew _ _ _
 repeat (refine wpStill_step (fun K hK => ?_); go_simp; (try go_bits); refine hK _ ?_; clear hK K)
 refine wpStill_nil ?_; change wpList _ _ _ _ _ w1.drew; refine zbo rfl _ _ 76 76 3 i0 rfl Tryz.underlying76 hi0 _ _ _ _ _ _ g (o + (i + 1)) cur 3 ((((L ++ [x]).drop i).take (L.length - i)).flatMap nat1) rfl rfl HCW.out HN.out HP.out HFT.out (zka _) ?_; intro w2 hw2 hgr2; generalize (if cap = i + 1 then some (⟨g, o, none⟩ : Addr) else some ⟨g, o + (i + 1), none⟩) = A1; generalize (if cap = i then some (⟨g, o, none⟩ : Addr) else some ⟨g, o + i, none⟩) = A2; have hs2 := SlF.copied (w := w1.drew) (w' := w2) (L := L ++ [x]) zah (by have := H1.out; rw [HL.out]; exact this) i (i + 1) (L.length - i) (by simp; omega) (by simp; omega) cur HCW.out (by rw [HCS.out] at hw2; simpa using hw2); have HE := H_ (zmd L x i hi); generalize hL2 : ((L ++ [x]).take (i + 1) ++ ((L ++ [x]).drop i).take (L.length - i) ++ (L ++ [x]).drop (i + 1 + (L.length - i))) = L2 at hs2 HE
 have hL2l : L2.length = L.length + 1 := by rw [← hL2]; simp; omega
 obtain ⟨y, hy⟩ : ∃ y, L2[i]? = some y := ⟨_, List.getElem?_eq_getElem (by omega)⟩; have hs2' : SlF w2 3 1 nat1 (.slice (some ⟨g, o, none⟩) L2.length cap) L2 := by rw [hL2l]; rwa [HL.out] at hs2
 have d0 := hs2'.cell1 zah i hy rfl; have f0 := hs2'.free (o + i); have H2 := H_ hs2'; have HY := H_ hy; have HL2 := H_ hL2l; have HG2 := H_ hgr2; have hi6 : (i : Int) < (L.length : Int) + 1 := by omega
 have hi7 : i < L.length + 1 := by omega
 clear hs2 hs2' hy hL2 hL2l hgr2 hw2; go_wp2; go_ret; refine ⟨g, o, cap, rfl, ?_, ?_, hgnew⟩
 · have e1 := SlF.set zah H2.out i 0 (by omega) y x (.int .i64 x) HY.out rfl
   rw [HE.out, HL2.out] at e1; simpa using e1
 have hF2 : Fr (fun b => v.ownBlock = some b) w w2 := hF1.drew.grown HG2.out fun k hk => by cases hk; exact hgnew
 exact hF2.setCell (p := ⟨g, o + i, none⟩) hgnew _
open Go Go.RowKit
theorem zhn {P : Program} (w : World) (t ty e : TypeId) (i : TypeInfo) (ht : P.underlying t = some (.slice e)) (hi : P.info? e = some i) (a sp : Option Addr) (n cap c : Nat) (hn : n ≤ cap) :
 (Builtin.append_ #[t, t] ty #[.slice a n cap, .slice sp 0 c]).run P w = .ok (.slice a n cap) w := by
 cases a <;> cases sp <;> simp [Builtin.append_, run_underlying ht, sizeOf, typeInfo, hi, Builtin.lenOf, hn, Builtin.firstCells, loadCells, loadCellsFrom, storeCells]
theorem ziq {α : Type} {f : α → List Value} {P : Program} (w : World) (t ty e : TypeId) (i : TypeInfo) (z : Value) (ht : P.underlying t = some (.slice e)) (hi : P.info? e = some i) (hz : i.zero = some z) (hzs : z.cells.size = i.size) (hsz : 0 < i.size)
 (hf : ∀ x, (f x).length = i.size) (h1 : ∀ x, ∀ u ∈ f x, u.oneCell' = true) (v x : Value) (L M : List α) (hv : SlF w e i.size f v L) (hx : SlF w e i.size f x M) (h63 : L.length + M.length ≤ maxLen) (hbytes : (L.length + M.length) * i.bytes ≤ 140737488355328) :
 ∃ v' w', (Builtin.append_ #[t, t] ty #[v, x]).run P w = .ok v' w' ∧ SlF w' e i.size f v' (L ++ M) ∧ Fr (fun b => v.ownBlock = some b) w w' ∧ (∀ b, v'.ownBlock = some b → v.ownBlock = some b ∨ w.heap.size ≤ b) := by
 rcases Nat.eq_zero_or_pos M.length with h0 | hp
 · obtain rfl := List.eq_nil_of_length_eq_zero h0
   obtain ⟨a, cap, rfl, hc, _⟩ := hv.shape; obtain ⟨sp, c, rfl, _⟩ := hx.shape; exact ⟨_, w, zhn w t ty e i ht hi a sp _ cap c hc, by rw [List.append_nil]; exact hv, Fr.refl _ w, fun b hb => .inl hb⟩
 obtain ⟨sp, c, rfl, hc1, hc2, hsp⟩ := hx.shape
 obtain ⟨g0, o0, rfl⟩ := hsp hp
 obtain ⟨g, o, cap, w', hr, h2, h3, h4, h5⟩ := zcq (P := P) w t ty e i z ht hi hz hzs hsz v L.length (L.flatMap f) hv ⟨g0, o0, none⟩ M.length c (M.flatMap f) (zam hf M) hp
  (fun j u hu => SlF.cells hf hx j u hu) (fun u hu => by obtain ⟨y, _, hy⟩ := List.mem_flatMap.1 hu; exact h1 y u hy) h63 hbytes
 refine ⟨_, w', hr, ?_, (Fr.refl _ w).grown h3 fun k hk => .inl hk, fun b hb => ?_⟩
 · unfold SlF
   rw [List.length_append, List.flatMap_append]; exact h2
 obtain rfl : g = b := by simpa [Value.ownBlock] using hb
 rcases h4 with e | e
 · exact .inl e
 right; omega
theorem zbf {α : Type} {f : α → List Value} {P : Program} {w : World} {ops : Array Oper} {o : Oper} {a : Act} {K : Act → World → Prop} {Q : Exit → Act → World → Prop} {E : Prop} (hgd : o.guard = none) (s x : Operand) (t : TypeId)
 (ho : o.op = .call { callee := .builtin .append, args := #[s, x], argTypes := #[t, t] })
 (e : TypeId) (i : TypeInfo) (z : Value) (sz bytes : Nat) (ht : P.underlying t = some (.slice e)) (hi : P.info? e = some i) (hz : i.zero = some z) (hsize : i.size = sz) (hby : i.bytes = bytes) (hzs : z.cells.size = sz) (hsz : 0 < sz)
 (hf : ∀ x, (f x).length = sz) (h1 : ∀ x, ∀ u ∈ f x, u.oneCell' = true) (v xv : Value) (L M : List α) (hs : a.eval s = v) (hx : a.eval x = xv) (hv : SlF w e sz f v L) (hxv : SlF w e sz f xv M)
 (h63 : L.length + M.length ≤ maxLen) (hbytes : (L.length + M.length) * bytes ≤ 140737488355328)
 (h : ∀ v' w', SlF w' e sz f v' (L ++ M) → Fr (fun b => v.ownBlock = some b) w w' → (∀ b, v'.ownBlock = some b → v.ownBlock = some b ∨ w.heap.size ≤ b) → K (a.put o.dst v') w') :
 if Region.wanted o (yielded ops a.tmps) = true then Oper.wp P o a w K Q else E := by
 have hw : Region.wanted o (yielded ops a.tmps) = true := by simp [Region.wanted, hgd]
 rw [if_pos hw]; subst hsize; subst hby; obtain ⟨v', w', hr, h2, h3, h4⟩ := ziq (P := P) (f := f) w t o.type e i z ht hi hz hzs hsz hf h1 v xv L M hv hxv h63 hbytes; unfold Oper.wp execOp; simp only [ho, resolve, invoke, builtin, Sem.run_bind, Sem.run_pure, Result.andThen_ok, List.map_toArray, List.map_cons, List.map_nil, hs, hx, hr]; exact h v' w' h2 h3 h4
end Go.Proofs.YthljnnjpmdgkoaaGreat