/- Frames in memory: Next. The condition: no more than 2^40 bytes. -/
import Derived.Test.YtillejdjghlicaaGreatDoorFrB
namespace Go.Proofs.YtillejdjghlicaaGreatDoor
open Go Go.Proofs Go.RowKit
set_option maxRecDepth 100000

theorem toB_drop (l : List UInt8) (k : Nat) : (toB l).extract k (toB l).size = toB (l.drop k) := by
  apply txt_inj
  rw [txt_toB, toB_size]
  have : (List.drop k l).take (l.length - k) = List.drop k l := List.take_of_length_le (by rw [List.length_drop]; omega)
  simpa [txt, toB] using this
set_option maxHeartbeats 8000000 in
theorem next_calls (w : World) (s : List UInt8) (hm : s.length ≤ 1099511627776) :
    Calls Tryz.prog 62 #[.string (toB s)] w fun e w' => e = .returned (.tuple #[.string (toB (nxtB sumS s).2.1), .int .i64 (nxtB sumS s).2.2, .int .i64 (nxtB sumS s).1]) ∧ Fr No w w' := by
  have hsz := toB_size s
  unfold nxtB
  by_cases h8 : s.length < 8
  · rw [if_pos h8]
    have h8' : (s.length : Int) < 8 := by omega
    generalize toB s = B at *
    go_enter Tryz.func62, Tryz.ntmps62
    go_wp2
    go_ret3
    exact ⟨rfl, Fr.refl _ _⟩
  · rw [if_neg h8]
    have h8' : ¬ (s.length : Int) < 8 := by omega
    have HR := Lib.hid fun W => read_calls W s (by omega) hm
    obtain ⟨x, hx⟩ : ∃ x, leV (s.take 4) = x := ⟨_, rfl⟩
    obtain ⟨y, hy⟩ : ∃ y, leV ((s.drop 4).take 4) = y := ⟨_, rfl⟩
    have hdr := toB_drop s 8
    rw [hsz] at hdr
    rw [hx, hy] at HR
    rw [hx, hy]
    obtain ⟨r, hr⟩ : ∃ r, s.drop 8 = r := ⟨_, rfl⟩
    have hrl : r.length ≤ 1099511627776 := by rw [← hr, List.length_drop]; omega
    rw [hr] at hdr ⊢
    have hrz := toB_size r
    have hrt := toB_take r x
    obtain ⟨r2, hr2⟩ : ∃ r2, r.take x = r2 := ⟨_, rfl⟩
    rw [hr2] at hrt ⊢
    have hr2l : r2.length ≤ 1099511627776 := by rw [← hr2, List.length_take]; omega
    have HS := Lib.hid fun W => sum_calls W (toB r2) (by rw [toB_size]; exact hr2l)
    rw [txt_toB] at HS
    generalize toB s = B at *
    generalize toB r = Br at *
    obtain ⟨B2, hB2⟩ : ∃ B2, toB r2 = B2 := ⟨_, rfl⟩
    rw [hB2] at hrt HS
    have HB2 := Lib.hid hB2
    clear hB2
    generalize sumS r2 = z at *
    have h8k : (8 : Int) ≤ (B.size : Int) := by omega
    have h8s : (8 : Int) ≤ (s.length : Int) := by omega
    have hx0 : (0 : Int) ≤ (x : Int) := by omega
    clear hx hy hr hr2 hr2l hm h8
    go_enter Tryz.func62, Tryz.ntmps62
    go_upto_region 3 with fail
    go_region_held3 (fun W => True)
      (trivial)
      (first | (go_at_call 85; (with_reducible refine (HR.out _).mono ?_); rintro e w2 ⟨rfl, hf2⟩; first | (have b2 := hf2.heap (alloc_at _ (.cells #[.int .i64 0, .int .u32 0] 79) _ rfl) (fun h => h); have k0 := cellAt b2 0 rfl; have k1 := cellAt b2 1 rfl; have kf : ∀ j, w2.frozen? ⟨_, j, none⟩ = false := (fun j => by unfold World.frozen?; rw [b2]; simp); have kl := heap_lt b2) | skip))
    all_goals
      first
        | (have hb := alloc_at w2 (.cells #[.int .i64 x, .int .u32 y] 79) _ rfl
           have hg : Fr No w (w2.alloc (.cells #[.int .i64 x, .int .u32 y] 79)) := ((Fr.refl No w).drew.trans0 hf2).alloc _
           generalize w2.alloc (.cells #[.int .i64 x, .int .u32 y] 79) = W at *
           clear hf2
           generalize w2.heap.size = b at *)
        | (have hb := (heap_setCell_same (heap_setCell_same b2 0 (.int .i64 x)) 1 (.int .u32 y)).trans (show _ = some (Obj.cells #[.int .i64 x, .int .u32 y] 79 (0, 0)) from rfl)
           have hg : Fr No w ((w2.setCell ⟨w.heap.size, 0, none⟩ (.int .i64 x)).setCell ⟨w.heap.size, 1, none⟩ (.int .u32 y)) := ((((Fr.refl No w).alloc _).drew.trans0 hf2).setCell (p := ⟨w.heap.size, 0, none⟩) (.inr (Nat.le_refl _)) _).setCell (p := ⟨w.heap.size, 1, none⟩) (.inr (Nat.le_refl _)) _
           clear k0 k1 kf kl
           generalize (w2.setCell ⟨w.heap.size, 0, none⟩ (.int .i64 x)).setCell ⟨w.heap.size, 1, none⟩ (.int .u32 y) = W at *
           clear hf2 b2
           have HG0 := Lib.hid hg
           clear hg
           generalize hbb : w.heap.size = b at *
           clear hbb
           have hg := HG0.out
           clear HG0)
      have c0 := cellAt hb 0 (v := .int .i64 x) rfl
      have c1 := cellAt hb 1 (v := .int .u32 y) rfl
      have kl := heap_lt hb
      have HG := Lib.hid hg
      have HB := Lib.hid hb
      clear hb hg
      by_cases h1 : x < 1
      · have h1' : (x : Int) < 1 := by omega
        go_wp2
        go_ret3
        exact ⟨rfl, HG.out⟩
      · have h1' : ¬ (x : Int) < 1 := by omega
        by_cases h2 : 65536 < x
        · have h2' : (x : Int) > 65536 := by omega
          go_wp2
          go_ret3
          exact ⟨rfl, HG.out⟩
        · have h2' : ¬ (x : Int) > 65536 := by omega
          have hor : ¬ (x < 1 ∨ 65536 < x) := by omega
          by_cases h3 : r.length < x
          · have h3' : (x : Int) > r.length := by omega
            go_wp2
            go_ret3
            exact ⟨rfl, HG.out⟩
          · have h3' : ¬ (x : Int) > r.length := by omega
            have h3k : (x : Int) ≤ (r.length : Int) := by omega
            have h3b : (x : Int) ≤ (Br.size : Int) := by omega
            go_upto_region 8 with fail
            go_region_held3 (fun W => W.cell? ⟨b, 0, none⟩ = some (.int .i64 x) ∧ W.cell? ⟨b, 1, none⟩ = some (.int .u32 y))
              (first | exact ⟨c0, c1⟩ | exact ⟨k0, k1⟩)
              (first | (go_at_call 44; (with_reducible refine (HS.out _).mono ?_); rintro e w4 ⟨rfl, hf4⟩; have k0 : w4.cell? ⟨b, 0, none⟩ = some (.int .i64 x) := hf4.cell0 (show W.drew.cell? ⟨b, 0, none⟩ = _ from c0); have k1 : w4.cell? ⟨b, 1, none⟩ = some (.int .u32 y) := hf4.cell0 (show W.drew.cell? ⟨b, 1, none⟩ = _ from c1); have hb4 := hf4.heap (show W.drew.heap[b]? = _ from HB.out) (fun h => h); have kl4 := heap_lt hb4; have hg4 := HG.out.drew.trans0 hf4))
            have HG4 := Lib.hid hg4
            clear hb4 hg4 c0 c1 kl hf4 HB
            by_cases h5 : z = y
            · have h5' : ((z : Int) != (y : Int)) = false := by rw [h5]; simp
              rw [h5']
              have hwr : IntKind.i64.wrap (8 + (x : Int)) = 8 + (x : Int) := by rw [IntKind.wrap_i64]; omega
              have k0' : w4.drew.cell? ⟨b, 0, none⟩ = some (.int .i64 x) := k0
              go_upto_region 10 with fail
              go_region_held3 (fun W => W.cell? ⟨b, 0, none⟩ = some (.int .i64 x)) (first | exact k0 | exact k0') (fail)
              go_wp2
              go_ret3
              exact ⟨by rw [← HB2.out]; rfl, HG4.out.drew⟩
            · have h5' : ((z : Int) != (y : Int)) = true := by simp; omega
              rw [h5']
              go_wp2
              go_ret3
              exact ⟨rfl, HG4.out⟩
end Go.Proofs.YtillejdjghlicaaGreatDoor
