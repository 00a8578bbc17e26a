/- Frames in memory: All. The condition: no more than 2^40 bytes. -/
import Derived.Test.YtillejdjghlicaaGreatDoorFrC
import Derived.Test.YtillejdjghlicaaGreatDoorLib4
namespace Go.Proofs.YtillejdjghlicaaGreatDoor
open Go Go.Proofs Go.RowKit
set_option maxRecDepth 100000

theorem nxtB_ok {S : List UInt8 → Nat} {r : List UInt8} (h : (nxtB S r).1 = 0) : 8 ≤ (nxtB S r).2.2 ∧ (nxtB S r).2.2 ≤ r.length := by
  unfold nxtB at *
  split at h
  · cases h
  · split at h
    · cases h
    · split at h
      · cases h
      · split at h
        · cases h
        · rename_i h1 h2 h3 h4
          rw [if_neg h1, if_neg h2, if_neg h3, if_neg h4]
          rw [List.length_drop] at h3
          dsimp only
          omega
theorem toB_empty (l : List UInt8) : (toB l).toList.isEmpty = l.isEmpty := by
  rw [Lib.toList_data]
  show (txt (toB l)).isEmpty = _
  rw [txt_toB]
/-- What is left to read behind some rounds. -/
def allI (S : List UInt8 → Nat) (s : List UInt8) (k : Nat) (r : List UInt8) (O : List (List UInt8)) : Prop :=
  r.length ≤ k ∧ r.length ≤ s.length ∧ O.length + r.length ≤ s.length ∧ allB S s = (O ++ (allN S k r).1, (s.length - r.length) + (allN S k r).2.1, (allN S k r).2.2)
theorem allI_start (S : List UInt8 → Nat) (s : List UInt8) : allI S s s.length s [] := ⟨Nat.le_refl _, Nat.le_refl _, by simp, by rw [Nat.sub_self, Nat.zero_add]; rfl⟩
theorem allI_end {S : List UInt8 → Nat} {s r : List UInt8} {k : Nat} {O : List (List UInt8)} (h : allI S s k r O) (hr : r = []) : allB S s = (O, s.length, 0) := by
  obtain ⟨_, _, _, h⟩ := h
  subst hr
  rw [h]
  have : allN S k [] = ([], 0, 0) := by cases k <;> rfl
  rw [this]
  simp
theorem allI_stop {S : List UInt8 → Nat} {s r : List UInt8} {k : Nat} {O : List (List UInt8)} (h : allI S s k r O) (hr : r ≠ []) (hn : (nxtB S r).1 ≠ 0) : allB S s = (O, s.length - r.length, (nxtB S r).1) := by
  obtain ⟨h1, _, _, h⟩ := h
  have hl := List.length_pos_iff.2 hr
  obtain ⟨k, rfl⟩ : ∃ m, k = m + 1 := ⟨k - 1, by omega⟩
  rw [h]
  unfold allN
  rw [if_neg (by omega), if_pos hn]
  simp
theorem allI_next {S : List UInt8 → Nat} {s r : List UInt8} {k : Nat} {O : List (List UInt8)} (h : allI S s (k + 1) r O) (hr : r ≠ []) (hn : (nxtB S r).1 = 0) : allI S s k (r.drop (nxtB S r).2.2) (O ++ [(nxtB S r).2.1]) := by
  obtain ⟨h1, h2, h3, h⟩ := h
  have hl := List.length_pos_iff.2 hr
  obtain ⟨g1, g2⟩ := nxtB_ok hn
  refine ⟨by rw [List.length_drop]; omega, by rw [List.length_drop]; omega, by rw [List.length_drop, List.length_append, List.length_singleton]; omega, ?_⟩
  rw [h]
  conv => lhs; unfold allN
  rw [if_neg (by omega), if_neg (by simpa using hn)]
  rw [List.length_drop, List.append_assoc]
  congr 2
  dsimp only
  omega
set_option maxHeartbeats 8000000 in
theorem all_calls (w : World) (s : List UInt8) (hm : s.length ≤ 1073741824) :
    Calls Tryz.prog 43 #[.string (toB s)] w fun e w' => ∃ v, e = .returned (.tuple #[v, .int .i64 (allB sumS s).2.1, .int .i64 (allB sumS s).2.2]) ∧ SlF w' 9 1 strB v ((allB sumS s).1.map toB) ∧ (∀ b, v.ownBlock = some b → w.heap.size ≤ b) ∧ Fr No w w' := by
  obtain ⟨i0, hi, hz0, hz1, hz2⟩ := info_parts infoStr
  have hsz := toB_size s
  have HST := Lib.hid (allI_start sumS s)
  obtain ⟨B, hB⟩ : ∃ B, toB s = B := ⟨_, rfl⟩
  have HB := Lib.hid hB
  rw [hB] at hsz ⊢
  clear hB
  go_enter Tryz.func43, Tryz.ntmps43
  go_upto_region 3 with fail
  go_loopg [5, 6] s.length (fun g s5 s6 wr => ∃ (r : List UInt8) (O : List (List UInt8)), s6 = .string (toB r) ∧ Hid (allI sumS s g r O) ∧ Hid (SlF wr 9 1 strB s5 (O.map toB)) ∧ Hid (∀ b, s5.ownBlock = some b → w.heap.size ≤ b) ∧ Hid (Fr No w wr))
  case atStart => exact ⟨s, [], by rw [HB.out], HST, Lib.hid (SlF.nil _ _ _ _), Lib.hid (by intro b hb; simp [Value.ownBlock] at hb), Lib.hid (Fr.refl _ _)⟩
  case round =>
    obtain ⟨r, O, rfl, HI, HO, HN, HF⟩ := hrel
    have hem := toB_empty r
    have hrz := toB_size r
    have hlen : r.length ≤ s.length ∧ O.length + r.length ≤ s.length := ⟨HI.out.2.1, HI.out.2.2.1⟩
    by_cases hr : r = []
    · have hr' : r.isEmpty = true := by rw [hr]; rfl
      rw [hr'] at hem
      have HE := Lib.hid (allI_end HI.out hr)
      generalize toB r = R at *
      go_wp2
      go_ret3
      exact ⟨u5, by rw [HE.out]; rfl, by rw [HE.out]; exact HO.out, HN.out, HF.out⟩
    · have hr' : r.isEmpty = false := by cases r with
        | nil => exact absurd rfl hr
        | cons => rfl
      rw [hr'] at hem
      have HC := Lib.hid fun W => next_calls W r (by omega)
      have hwr : IntKind.i64.wrap ((s.length : Int) - (r.length : Int)) = (s.length : Int) - (r.length : Int) := by rw [IntKind.wrap_i64]; omega
      by_cases hn : (nxtB sumS r).1 = 0
      · have HX := Lib.hid fun k (h : allI sumS s (k + 1) r O) => allI_next h hr hn
        obtain ⟨g1, g2⟩ := nxtB_ok hn
        have hdr := toB_drop r (nxtB sumS r).2.2
        rw [hn] at HC
        obtain ⟨n, hnn⟩ : ∃ n, (nxtB sumS r).2.2 = n := ⟨_, rfl⟩
        obtain ⟨b, hb⟩ : ∃ b, (nxtB sumS r).2.1 = b := ⟨_, rfl⟩
        rw [hnn] at g1 g2 hdr HC HX
        rw [hb] at HC HX
        rw [hrz] at hdr
        clear hnn hb hn
        have h0n : (0 : Int) ≤ (n : Int) := by omega
        have hnl : (n : Int) ≤ (r.length : Int) := by omega
        have HLE : Hid ((O.map toB).length + 1 ≤ 1073741824) := Lib.hid (by rw [List.length_map]; have := List.length_pos_iff.2 hr; omega)
        have hpos : 0 < r.length := List.length_pos_iff.2 hr
        obtain ⟨q, rfl⟩ : ∃ q, gk = q + 1 := ⟨gk - 1, by have := HI.out.1; omega⟩
        obtain ⟨R2, hR2⟩ : ∃ R2, toB (r.drop n) = R2 := ⟨_, rfl⟩
        rw [hR2] at hdr
        have HR2 := Lib.hid hR2
        obtain ⟨Y, hY⟩ : ∃ Y, toB b = Y := ⟨_, rfl⟩
        rw [hY] at HC
        have HY := Lib.hid hY
        clear hR2 hY hlen hr hr'
        generalize toB r = R at *
        go_upto_region 7 with (go_at_call 62; (with_reducible refine (HC.out _).mono ?_); rintro e w2 ⟨rfl, hf2⟩)
        have HO2 := Lib.hid (HO.out.fr0 hf2)
        have HF2 := Lib.hid (HF.out.trans0 hf2)
        have hnew := cells_new w2.drew (strB Y) 9 (0, 0)
        clear hf2
        go_region_law (refine step_append_f rfl _ _ 22 rfl 9 i0 _ 1 16 Tryz.underlying22 hi hz0 hz1 hz2 rfl (by decide) _ (O.map toB) rfl (HO2.out.fr0 ((Fr.refl No w2).drew.alloc _)) w2.heap.size 1 Y rfl hnew rfl (by intro u hu; simp [strB] at hu; subst hu; rfl) (by have := HLE.out; unfold maxLen; omega) (by have := HLE.out; omega) ?_; intro g1 o' cap w6 hs6 hg6 hb6 hlt6)
        have hf6 : Fr No w w6 := (HF2.out.drew.alloc _).grown hg6 fun k hk => .inr (HN.out k hk)
        have hn6 : w.heap.size ≤ g1 := hb6.elim (fun h => HN.out g1 h) fun h => by rw [h]; exact (HF2.out.alloc (.cells #[.string Y] 9)).drew.size
        rw [← HY.out, show O.map toB ++ [toB b] = (O ++ [b]).map toB by rw [List.map_append]; rfl] at hs6
        have HS6 := Lib.hid hs6
        have HF6 := Lib.hid hf6
        clear hs6 hg6 hb6 hf6
        go_wp2
        go_roundg q
        case rel => exact ⟨r.drop n, O ++ [b], by rw [HR2.out], Lib.hid (HX.out q HI.out), Lib.hid (by have := HS6.out; simpa using this), Lib.hid (by intro k hk; simp [Value.ownBlock] at hk; omega), HF6⟩
        case measure => omega
      · have HX := Lib.hid (allI_stop HI.out hr hn)
        have hn' : ((nxtB sumS r).1 == 0) = false := by simpa using hn
        have hn2 : ((nxtB sumS r).1 != 0) = true := by simpa using hn
        generalize (nxtB sumS r).1 = e0 at *
        generalize (nxtB sumS r).2.1 = b at *
        generalize (nxtB sumS r).2.2 = n at *
        generalize toB r = R at *
        clear hr hr'
        go_wp2_with (go_at_call 62; (with_reducible refine (HC.out _).mono ?_); rintro e w2 ⟨rfl, hf2⟩)
        go_ret3
        have hsub : ((s.length - r.length : Nat) : Int) = (s.length : Int) - (r.length : Int) := by omega
        exact ⟨u5, by rw [HX.out]; dsimp only; rw [hsub]; rfl, by rw [HX.out]; exact HO.out.fr0 hf2, HN.out, HF.out.trans0 hf2⟩
end Go.Proofs.YtillejdjghlicaaGreatDoor
