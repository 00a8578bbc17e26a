/- A disk in memory: Used, Append. The condition: names are not too long, and not too many bytes. -/
import Derived.Test.YtillejdjghlicaaGreatDoorDskG
namespace Go.Proofs.YtillejdjghlicaaGreatDoor
open Go Go.Proofs Go.RowKit Go.WideElems Go.ChangeMaps Go.WideMaps
set_option maxRecDepth 100000

theorem sumD_cons (f : ByteArray → Option (ByteArray × Int)) (l : List ByteArray) (n : ByteArray) : sumD f (n :: l) = (dataD f n).size + sumD f l := by
  unfold sumD
  rw [List.map_cons, List.sum_cons]
theorem sumD_append (f : ByteArray → Option (ByteArray × Int)) (l m : List ByteArray) : sumD f (l ++ m) = sumD f l + sumD f m := by
  unfold sumD
  rw [List.map_append, List.sum_append]
theorem sumD_le (f : ByteArray → Option (ByteArray × Int)) : ∀ (l m : List ByteArray), l.Nodup → (∀ n ∈ l, n ∈ m) → sumD f l ≤ sumD f m
  | [], m, _, _ => by rw [show sumD f [] = 0 from rfl]; exact Nat.zero_le _
  | a :: l, m, hn, hs => by
    obtain ⟨m1, m2, rfl⟩ := List.append_of_mem (hs a (List.mem_cons_self ..))
    obtain ⟨h1, h2⟩ := List.nodup_cons.1 hn
    have := sumD_le f l (m1 ++ m2) h2 fun n hn' => by
      have h3 := hs n (List.mem_cons_of_mem _ hn')
      rcases List.mem_append.1 h3 with h | h
      · exact List.mem_append_left _ h
      · rcases List.mem_cons.1 h with h | h
        · exact absurd (h ▸ hn') h1
        · exact List.mem_append_right _ h
    rw [sumD_cons, sumD_append, sumD_cons]
    rw [sumD_append] at this
    omega
/-- How many bytes all files have. -/
def SumIs (f : ByteArray → Option (ByteArray × Int)) (z : Nat) : Prop := ∃ l : List ByteArray, l.Nodup ∧ (∀ n, n ∈ l ↔ (f n).isSome = true) ∧ sumD f l = z
theorem dsum_calls {w : World} {d m : Nat} {f : ByteArray → Option (ByteArray × Int)} {lim armed : Int} {dead : Bool} (a : DkAt w d m f lim armed dead) {z : Nat} (hz : SumIs f z) (hlt : z ≤ 4611686018427387903) :
    Calls Tryz.prog 34 #[.pointer (some ⟨d, 0, none⟩)] w fun e w' => e = .returned (.int .i64 z) ∧ Fr No w w' := by
  obtain ⟨l0, h1, h2, rfl⟩ := hz
  refine (dall_calls a fun l hl hs => Nat.le_trans (sumD_le f l l0 hl fun n hn => (h2 n).2 (hs n hn)) hlt).mono ?_
  rintro e w' ⟨l, g1, g2, rfl, hf⟩
  have : sumD f l = sumD f l0 := Nat.le_antisymm (sumD_le f l l0 g1 fun n hn => (h2 n).2 ((g2 n).1 hn)) (sumD_le f l0 l h1 fun n hn => (g2 n).2 ((h2 n).1 hn))
  exact ⟨by rw [this], hf⟩
theorem dused_calls {w : World} {d m : Nat} {f : ByteArray → Option (ByteArray × Int)} {lim armed : Int} (a : DkAt w d m f lim armed false) {z : Nat} (hz : SumIs f z) (hlt : z ≤ 4611686018427387903) :
    Calls Tryz.prog 12 #[.pointer (some ⟨d, 0, none⟩)] w fun e w' => e = .returned (.int .i64 z) ∧ Fr No w w' := by
  have hl := dlives_calls a
  have hs := dsum_calls a hz hlt
  have HL := Lib.hid hl
  have HS := Lib.hid hs
  clear hl hs a
  go_enter Tryz.func12, Tryz.ntmps12
  go_wp2_with (first
    | (go_at_call 33; (with_reducible refine HL.out.mono ?_); rintro e w1 ⟨rfl, rfl⟩)
    | (go_at_call 34; (with_reducible refine HS.out.mono ?_); rintro e w1 ⟨rfl, hf1⟩))
  go_ret
  exact ⟨rfl, hf1⟩
/-- What Append answers. -/
def appE (lim armed : Int) (dead : Bool) (z s : Nat) : Int := if dead = true then 20 else if lim - z < s then 22 else actE armed dead
def AppTo (w w' : World) (d m : Nat) (f f' : ByteArray → Option (ByteArray × Int)) (lim armed : Int) (dead : Bool) (z s : Nat) (e : Ending) : Prop :=
  e = .returned (.int .i64 (appE lim armed dead z s)) ∧
    DkAt w' d m (if dead = true ∨ lim - z < s then f else f') lim (if dead = true ∨ lim - z < s then armed else actA armed) (if dead = true ∨ lim - z < s then dead else actD armed dead) ∧ Fr (fun b => b = d ∨ b = m) w w'
set_option maxHeartbeats 4000000 in
theorem dappend_calls {w : World} {d m : Nat} {f : ByteArray → Option (ByteArray × Int)} {lim armed : Int} {dead : Bool} (a : DkAt w d m f lim armed dead) (ha : armed ≤ 9223372036854775807) {z : Nat} (hz : SumIs f z) (hlt : z ≤ 4611686018427387903) (hlim : 0 ≤ lim ∧ lim ≤ 1073741824) (n x : ByteArray) (hn : n.size ≤ maxLen) (hn0 : n.toList.isEmpty = false) (hx : x.size ≤ 1073741824) (hd : (dataD f n).size ≤ 1073741824) :
    Calls Tryz.prog 28 #[.pointer (some ⟨d, 0, none⟩), .string n, .string x] w fun e w' => AppTo w w' d m f (setD f n (dataD f n ++ x, synD f n)) lim armed dead z x.size e := by
  have hl := dlives_calls a
  have A := Lib.hid a
  have HL := Lib.hid hl
  have HNN := Lib.hid hn
  have HZ := Lib.hid hz
  have AC := Lib.hid fun W f' (hW : DkAt W d m f' lim armed dead) => dact_calls hW ha
  unfold AppTo appE
  cases dead with
  | true =>
    simp only [true_or, if_true]
    clear hl hn a
    go_enter Tryz.func28, Tryz.ntmps28
    go_wp2_with (go_at_call 33; (with_reducible refine HL.out.mono ?_); rintro e w1 ⟨rfl, rfl⟩)
    go_ret
    exact ⟨rfl, A.out, Fr.refl _ _⟩
  | false =>
    simp only [Bool.false_eq_true, if_false, false_or]
    have c1 : w.drew.cell? ⟨d, 1, none⟩ = some (.int .i64 lim) := cellAt (show w.drew.heap[d]? = _ from a.obj) 1 rfl
    have ld : d < w.drew.heap.size := heap_lt a.obj
    have HS := Lib.hid fun W (hW : Fr No w W) => dsum_calls (a.fr0 hW) hz hlt
    have HC := Lib.hid fun W (hW : Fr No w W) => (cellAt (a.fr0 hW).obj 1 rfl : W.cell? ⟨d, 1, none⟩ = some (.int .i64 lim))
    have hwr : IntKind.i64.wrap (lim - (z : Int)) = lim - (z : Int) := by rw [IntKind.wrap_i64]; omega
    by_cases hk : lim - (z : Int) < x.size
    · rw [if_pos hk, if_pos hk, if_pos hk, if_pos hk]
      clear hl hn a
      go_enter Tryz.func28, Tryz.ntmps28
      go_upto_region 6 with (go_at_call 33; (with_reducible refine HL.out.mono ?_); rintro e w1 ⟨rfl, rfl⟩)
      go_region_held3 (fun W => W.cell? ⟨d, 1, none⟩ = some (.int .i64 lim))
        (first | with_reducible exact c1 | with_reducible exact b2 | fail)
        (first | (go_at_call 34; (with_reducible refine (HS.out _ (Fr.refl No w).drew).mono ?_); rintro e w2 ⟨rfl, hf2⟩; have g2 := (Fr.refl No w).drew.trans0 hf2; have b2 := HC.out w2 g2))
      go_wp2
      go_ret
      exact ⟨rfl, A.out.fr0 g2, g2.mono fun _ _ h => h.elim⟩
    · rw [if_neg hk, if_neg hk, if_neg hk, if_neg hk]
      have hae : actE armed false = if actD armed false = true then 20 else 0 := rfl
      rw [hae]
      have HXS : Hid (n.size ≤ maxLen ∧ x.size ≤ 1073741824 ∧ (dataD f n).size ≤ 1073741824) := Lib.hid ⟨hn, hx, hd⟩
      obtain ⟨x1, hx1⟩ : ∃ x1, dataD f n = x1 := ⟨_, rfl⟩
      obtain ⟨x2, hx2⟩ : ∃ x2, synD f n = x2 := ⟨_, rfl⟩
      have HV : Hid (((fun n => (f n).map fileV) n).getD (.agg #[.string ByteArray.empty, .int .i64 0]) = .agg #[.string x1, .int .i64 x2]) := Lib.hid (by
        rw [← hx1, ← hx2]
        unfold dataD synD
        dsimp only
        cases f n <;> rfl)
      rw [hx1, hx2]
      rw [hx1] at HXS hd
      generalize actD armed false = ad at *
      generalize actA armed = aa at *
      clear hl hn a hx1 hx2 hae
      go_enter Tryz.func28, Tryz.ntmps28
      go_upto_region 6 with (go_at_call 33; (with_reducible refine HL.out.mono ?_); rintro e w1 ⟨rfl, rfl⟩)
      go_region_held3 (fun W => W.cell? ⟨d, 1, none⟩ = some (.int .i64 lim))
        (first | with_reducible exact c1 | with_reducible exact b2 | fail)
        (first | (go_at_call 34; (with_reducible refine (HS.out _ (Fr.refl No w).drew).mono ?_); rintro e w2 ⟨rfl, hf2⟩; have g2 := (Fr.refl No w).drew.trans0 hf2; have b2 := HC.out w2 g2))
      have a2 := A.out.fr0 g2
      have HG2 := Lib.hid g2
      clear c1 ld b2 hf2 g2
      go_upto_region 8 with fail
      have c0 : w2.cell? ⟨d, 0, none⟩ = some (.map (some m)) := cellAt a2.obj 0 rfl
      have ld := heap_lt a2.obj
      have HM := Lib.hid a2.map
      have A2 := Lib.hid a2
      have HBX := Lib.hid (alloc_at w2 (.cells #[.string x1, .int .i64 x2] 65) _ rfl)
      have HFX : Hid (Fr No w2 (w2.alloc (.cells #[.string x1, .int .i64 x2] 65))) := Lib.hid ((Fr.refl No w2).alloc _)
      clear a2
      go_upto_region 9 with (refine wpList_lookS rfl _ _ 45 rfl 9 65 Tryz.underlying45 Tryz.underlying9 m _ rfl HM.out n rfl HNN.out _ (zero65 _) _ HV.out ?_)
      have hx0 := HBX.out
      generalize hW3 : w2.alloc (.cells #[.string x1, .int .i64 x2] 65) = W3 at *
      have k0 : W3.cell? ⟨w2.heap.size, 0, none⟩ = some (.string x1) := cellAt hx0 0 rfl
      have fk : W3.frozen? ⟨w2.heap.size, 0, none⟩ = false := by unfold World.frozen?; rw [hx0]; simp
      have lk := heap_lt hx0
      clear c0 ld hW3 hx0
      go_upto_region 10 with fail
      have hb4 : (W3.setCell ⟨w2.heap.size, 0, none⟩ (.string (x1 ++ x))).heap[w2.heap.size]? = some (.cells #[.string (x1 ++ x), .int .i64 x2] 65 (0, 0)) := by
        rw [heap_setCell_same HBX.out 0 _]
        rfl
      have hf4 : Fr No w2 (W3.setCell ⟨w2.heap.size, 0, none⟩ (.string (x1 ++ x))) := HFX.out.setCell (p := ⟨w2.heap.size, 0, none⟩) (.inr (Nat.le_refl _)) _
      have a4 := A2.out.fr0 hf4.drew
      have HF4 := Lib.hid hf4
      clear k0 fk lk hf4
      obtain ⟨x3, hx3⟩ : ∃ x3, x1 ++ x = x3 := ⟨_, rfl⟩
      rw [hx3] at hb4 HF4 a4 ⊢
      have HX3 := Lib.hid hx3
      clear hx3
      generalize W3.setCell ⟨w2.heap.size, 0, none⟩ (.string x3) = W4 at *
      have c0 : W4.drew.cell? ⟨d, 0, none⟩ = some (.map (some m)) := cellAt a4.obj 0 rfl
      have k0 : W4.drew.cell? ⟨w2.heap.size, 0, none⟩ = some (.string x3) := cellAt (show W4.drew.heap[w2.heap.size]? = _ from hb4) 0 rfl
      have k1 : W4.drew.cell? ⟨w2.heap.size, 1, none⟩ = some (.int .i64 x2) := cellAt (show W4.drew.heap[w2.heap.size]? = _ from hb4) 1 rfl
      have ld : d < W4.drew.heap.size := heap_lt a4.obj
      have lk : w2.heap.size < W4.drew.heap.size := heap_lt hb4
      have HM4 := Lib.hid a4.map
      have A4 := Lib.hid a4
      clear a4 hb4
      refine wp_region_still_tail 6 (by kernel_rfl) (by kernel_rfl) ?_
      simp only [List.take_succ_cons, List.take_zero, List.drop_succ_cons, List.drop_zero]
      change wpStill _ _ W4.drew _ _ _
      repeat (refine wpStill_step (fun K hK => ?_); go_simp; refine hK _ ?_; clear hK K)
      refine wpStill_nil ?_
      change wpList _ _ _ _ _ W4.drew
      refine wpList_storeS rfl _ _ _ 45 rfl 9 65 Tryz.underlying45 Tryz.underlying9 m _ rfl HM4.out n rfl HNN.out (fileV (x3, x2)) rfl ?_
      rintro w5 hm5 hf5 hz5
      rw [map_setD] at hm5
      have A5 : Hid (DkAt w5 d m (setD f n (x3, x2)) lim armed false) := Lib.hid ⟨hf5.heap A4.out.obj A4.out.ne, hm5, A4.out.ne⟩
      have HF5 := Lib.hid hf5
      clear c0 k0 k1 ld lk hm5 hf5
      go_wp2_with (go_at_call 46; (with_reducible refine (AC.out _ _ A5.out).mono ?_); rintro e w6 ⟨rfl, a6, hf6⟩)
      all_goals
        go_ret
        exact ⟨rfl, by rw [HX3.out]; simpa only [*] using a6, (((HG2.out.mono fun _ _ h => h.elim).trans (HF4.out.drew.mono fun _ _ h => h.elim) fun _ _ h => h).trans (HF5.out.mono fun _ _ h => .inr h) fun _ _ h => h).trans (hf6.mono fun _ _ h => .inl h) fun _ _ h => h⟩
end Go.Proofs.YtillejdjghlicaaGreatDoor
