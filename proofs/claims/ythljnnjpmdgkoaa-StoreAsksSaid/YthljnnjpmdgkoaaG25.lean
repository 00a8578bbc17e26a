/- The statement StoreAsks's function returns true, whatever its arguments are. -/
import Derived.Test.YthljnnjpmdgkoaaG23
import Derived.Test.YthljnnjpmdgkoaaG24
namespace Go.Proofs.Ythljnnjpmdgkoaa
open Go Go.Proofs Go.RowKit
set_option maxRecDepth 100000

set_option maxHeartbeats 8000000 in
theorem storeAsks_walk {TA : TreeRel} (hT : TreeOk TA 1000000) (hTD : TreeDl TA) (w : World) (v : Value) (l : List CalQ) (g : Rg) (hv : CalR w v l) :
    Calls Try.prog 7 #[v, rgV g] w fun e w' => e = .returned (.bool true) ∧ Fr No w w' := by
  have hfc := fun W (h : Fr No w W) => fewCals_calls W v l ⟨hv.sl.fr0 h, fun i q hq => (hv.ops i q hq).fr0 h, fun i q hq => (hv.keys i q hq).fr0 h⟩
  have hdn := fun (hf : fewCals l = true) W (h : Fr No w W) => done_calls hT hTD W v l ⟨hv.sl.fr0 h, fun i q hq => (hv.ops i q hq).fr0 h, fun i q hq => (hv.keys i q hq).fr0 h⟩ hf
  obtain ⟨va, vcap, hve, _, _, _⟩ := hv.sl.shape
  clear hv
  subst hve
  have hf0 : ∀ g : Rg, Fr No w (w.alloc (Obj.cells #[.string g.key, .string g.end_, .int .i64 g.rev, .int .i64 g.limit, .bool g.keys, .bool g.count, .bool g.desc] 38)) := fun g => (Fr.refl No w).alloc _
  have hbx : ∀ g : Rg, (w.alloc (Obj.cells #[.string g.key, .string g.end_, .int .i64 g.rev, .int .i64 g.limit, .bool g.keys, .bool g.count, .bool g.desc] 38)).heap[w.heap.size]? = some (.cells #[.string g.key, .string g.end_, .int .i64 g.rev, .int .i64 g.limit, .bool g.keys, .bool g.count, .bool g.desc] 38 (0, 0)) := fun g => alloc_at _ _ _ rfl
  have hf0 := hf0 g
  have hbx := hbx g
  by_cases hfew : fewCals l = true ∧ g.key.size ≤ 3000 ∧ g.end_.size ≤ 3000
  · obtain ⟨hf, hs1, hs2⟩ := hfew
    have hl30 := (fewCals_parts hf).1
    have hG := dones_good hf l.length (Nat.le_refl _)
    rw [hf] at hfc
    have hdn := hdn hf
    generalize donesT l l.length = SD at *
    obtain ⟨S, D⟩ := SD
    dsimp only at hG hdn
    have R0 := fun W s F hS => Range_calls2 (w := W) (s := s) (F := F) hT hG (by omega) hS (bareG g) (by exact hs1)
    have R1 := fun W s F hS => Range_calls2 (w := W) (s := s) (F := F) hT hG (by omega) hS g hs1
    have hk1 : ¬ (3000 : Int) < (g.key.size : Int) := by omega
    have hk2 : ¬ (3000 : Int) < (g.end_.size : Int) := by omega
    rw [allL_bare, getL_bare, moreB_bare] at R0
    have hal : (allL S g S.rev).length ≤ 1099511627 := by
      have h1 := hG.size
      unfold allL betweenS betweenL
      exact Nat.le_trans (List.length_filterMap_le _ _) (Nat.le_trans (List.length_filter_le _ _) (by omega))
    by_cases hL : g.limit < 0
    · have he := rangeE_neg (S := S) hL
      simp only [if_neg he, he, decide_false, Bool.false_and, List.length_nil] at R1
      generalize (if rangeE S (bareG g) = 0 then ((allL S g S.rev).length : Int) else 0) = n0 at *
      generalize (decide (rangeE S (bareG g) = 0) && false) = b0 at *
      generalize (if rangeE S (bareG g) = 0 then allL S g S.rev else []) = l0 at *
      generalize rangeE S (bareG g) = e0 at *
      generalize hee : rangeE S g = e1 at *
      have he' : (e1 == 0) = false := by simpa using he
      have he2 : (e1 != 0) = true := by simpa using he
      unfold rgV at *
      unfold bareG at *
      obtain ⟨g1, g2, g3, g4, g5, g6, g7⟩ := g
      dsimp only at *
      have HFC := Lib.hid hfc
      have HDN := Lib.hid hdn
      have HR0 := Lib.hid R0
      have HR1 := Lib.hid R1
      clear hfc hdn R0 R1 hG hs1 hs2 hf hl30 hee
      go_enter Try.func7, Try.ntmps7
      go_upto_region 4 with (first
        | (go_at_call 28; refine (HFC.out _ hf0).mono ?_; rintro e w1 ⟨rfl, rfl⟩)
        | (go_at_call 29; refine (HDN.out _ hf0).mono ?_; rintro e w2 ⟨s, rfl, F, hs2, hf2, hn2⟩))
      have hb2 := hf2.heap hbx (fun h => h)
      have x0 : w2.cell? ⟨w.heap.size, 0, none⟩ = some (.string g1) := by simp [World.cell?, hb2]
      have x1 : w2.cell? ⟨w.heap.size, 1, none⟩ = some (.string g2) := by simp [World.cell?, hb2]
      have x2 : w2.cell? ⟨w.heap.size, 2, none⟩ = some (.int .i64 g3) := by simp [World.cell?, hb2]
      have x3 : w2.cell? ⟨w.heap.size, 3, none⟩ = some (.int .i64 g4) := by simp [World.cell?, hb2]
      have x4 : w2.cell? ⟨w.heap.size, 4, none⟩ = some (.bool g5) := by simp [World.cell?, hb2]
      have x5 : w2.cell? ⟨w.heap.size, 5, none⟩ = some (.bool g6) := by simp [World.cell?, hb2]
      have x6 : w2.cell? ⟨w.heap.size, 6, none⟩ = some (.bool g7) := by simp [World.cell?, hb2]
      have lx := heap_lt hb2
      have HS2 := Lib.hid hs2
      have HB2 := Lib.hid hb2
      clear hs2 hb2
      go_upto_region 5 with (go_at_call 30; refine (HR0.out _ _ _ HS2.out).mono ?_; rintro e w3 ⟨v3, rfl, hv3, hf3, hn3⟩; obtain ⟨a3, c3, rfl, h31, h32, h33⟩ := hv3.shape)
      have hb3 := hf3.heap HB2.out (fun h => h)
      have y0 : w3.cell? ⟨w.heap.size, 0, none⟩ = some (.string g1) := by simp [World.cell?, hb3]
      have y1 : w3.cell? ⟨w.heap.size, 1, none⟩ = some (.string g2) := by simp [World.cell?, hb3]
      have y2 : w3.cell? ⟨w.heap.size, 2, none⟩ = some (.int .i64 g3) := by simp [World.cell?, hb3]
      have y3 : w3.cell? ⟨w.heap.size, 3, none⟩ = some (.int .i64 g4) := by simp [World.cell?, hb3]
      have y4 : w3.cell? ⟨w.heap.size, 4, none⟩ = some (.bool g5) := by simp [World.cell?, hb3]
      have y5 : w3.cell? ⟨w.heap.size, 5, none⟩ = some (.bool g6) := by simp [World.cell?, hb3]
      have y6 : w3.cell? ⟨w.heap.size, 6, none⟩ = some (.bool g7) := by simp [World.cell?, hb3]
      have ly := heap_lt hb3
      have HV3 := Lib.hid hv3
      have H33 := Lib.hid h33
      have HB3 := Lib.hid hb3
      clear hv3 hb3 h33 x0 x1 x2 x3 x4 x5 x6 lx
      go_upto_region 6 with (go_at_call 30; refine (HR1.out _ _ _ (HS2.out.fr0 hT hf3)).mono ?_; rintro e w4 ⟨v4, rfl, hv4, hf4, hn4⟩; obtain ⟨a4, c4, rfl, h41, h42, h43⟩ := hv4.shape)
      have hb4 := hf4.heap HB3.out (fun h => h)
      have z0 : w4.cell? ⟨w.heap.size, 0, none⟩ = some (.string g1) := by simp [World.cell?, hb4]
      have z1 : w4.cell? ⟨w.heap.size, 1, none⟩ = some (.string g2) := by simp [World.cell?, hb4]
      have z2 : w4.cell? ⟨w.heap.size, 2, none⟩ = some (.int .i64 g3) := by simp [World.cell?, hb4]
      have z3 : w4.cell? ⟨w.heap.size, 3, none⟩ = some (.int .i64 g4) := by simp [World.cell?, hb4]
      have z4 : w4.cell? ⟨w.heap.size, 4, none⟩ = some (.bool g5) := by simp [World.cell?, hb4]
      have z5 : w4.cell? ⟨w.heap.size, 5, none⟩ = some (.bool g6) := by simp [World.cell?, hb4]
      have z6 : w4.cell? ⟨w.heap.size, 6, none⟩ = some (.bool g7) := by simp [World.cell?, hb4]
      have lz := heap_lt hb4
      have HV4 := Lib.hid hv4
      have H43 := Lib.hid h43
      have HB4 := Lib.hid hb4
      clear hv4 hb4 h43 y0 y1 y2 y3 y4 y5 y6 ly
      go_wp2_with (go_at_call 19; refine (awakeS_calls hT hTD _).mono ?_; rintro e w5 ⟨rfl, hf5⟩)
      go_ret
      exact ⟨rfl, (hf0.trans0 hf2).trans0 ((hf3.trans0 hf4).trans0 hf5)⟩
    · rw [rangeE_bare hL] at R0
      by_cases he : rangeE S g = 0
      · simp only [he, if_true, decide_true, Bool.true_and] at R0 R1
        by_cases hcnt : g.count = true
        · rw [(getL_count hcnt).1, (getL_count hcnt).2] at R1
          generalize allL S g S.rev = al at *
          unfold rgV at *
          unfold bareG at *
          obtain ⟨g1, g2, g3, g4, g5, g6, g7⟩ := g
          dsimp only at *
          subst hcnt
          have HFC := Lib.hid hfc
          have HDN := Lib.hid hdn
          have HR0 := Lib.hid R0
          have HR1 := Lib.hid R1
          clear hfc hdn R0 R1 hG hs1 hs2 hf hl30 he
          go_enter Try.func7, Try.ntmps7
          go_upto_region 4 with (first
            | (go_at_call 28; refine (HFC.out _ hf0).mono ?_; rintro e w1 ⟨rfl, rfl⟩)
            | (go_at_call 29; refine (HDN.out _ hf0).mono ?_; rintro e w2 ⟨s, rfl, F, hs2, hf2, hn2⟩))
          have hb2 := hf2.heap hbx (fun h => h)
          have x0 : w2.cell? ⟨w.heap.size, 0, none⟩ = some (.string g1) := by simp [World.cell?, hb2]
          have x1 : w2.cell? ⟨w.heap.size, 1, none⟩ = some (.string g2) := by simp [World.cell?, hb2]
          have x2 : w2.cell? ⟨w.heap.size, 2, none⟩ = some (.int .i64 g3) := by simp [World.cell?, hb2]
          have x3 : w2.cell? ⟨w.heap.size, 3, none⟩ = some (.int .i64 g4) := by simp [World.cell?, hb2]
          have x4 : w2.cell? ⟨w.heap.size, 4, none⟩ = some (.bool g5) := by simp [World.cell?, hb2]
          have x5 : w2.cell? ⟨w.heap.size, 5, none⟩ = some (.bool true) := by simp [World.cell?, hb2]
          have x6 : w2.cell? ⟨w.heap.size, 6, none⟩ = some (.bool g7) := by simp [World.cell?, hb2]
          have lx := heap_lt hb2
          have HS2 := Lib.hid hs2
          have HB2 := Lib.hid hb2
          clear hs2 hb2
          go_upto_region 5 with (go_at_call 30; refine (HR0.out _ _ _ HS2.out).mono ?_; rintro e w3 ⟨v3, rfl, hv3, hf3, hn3⟩; obtain ⟨a3, c3, rfl, h31, h32, h33⟩ := hv3.shape)
          have hb3 := hf3.heap HB2.out (fun h => h)
          have y0 : w3.cell? ⟨w.heap.size, 0, none⟩ = some (.string g1) := by simp [World.cell?, hb3]
          have y1 : w3.cell? ⟨w.heap.size, 1, none⟩ = some (.string g2) := by simp [World.cell?, hb3]
          have y2 : w3.cell? ⟨w.heap.size, 2, none⟩ = some (.int .i64 g3) := by simp [World.cell?, hb3]
          have y3 : w3.cell? ⟨w.heap.size, 3, none⟩ = some (.int .i64 g4) := by simp [World.cell?, hb3]
          have y4 : w3.cell? ⟨w.heap.size, 4, none⟩ = some (.bool g5) := by simp [World.cell?, hb3]
          have y5 : w3.cell? ⟨w.heap.size, 5, none⟩ = some (.bool true) := by simp [World.cell?, hb3]
          have y6 : w3.cell? ⟨w.heap.size, 6, none⟩ = some (.bool g7) := by simp [World.cell?, hb3]
          have ly := heap_lt hb3
          have HV3 := Lib.hid hv3
          have H33 := Lib.hid h33
          have HB3 := Lib.hid hb3
          clear hv3 hb3 h33 x0 x1 x2 x3 x4 x5 x6 lx
          go_upto_region 6 with (go_at_call 30; refine (HR1.out _ _ _ (HS2.out.fr0 hT hf3)).mono ?_; rintro e w4 ⟨v4, rfl, hv4, hf4, hn4⟩; obtain ⟨a4, c4, rfl, h41, h42, h43⟩ := hv4.shape)
          have hb4 := hf4.heap HB3.out (fun h => h)
          have z0 : w4.cell? ⟨w.heap.size, 0, none⟩ = some (.string g1) := by simp [World.cell?, hb4]
          have z1 : w4.cell? ⟨w.heap.size, 1, none⟩ = some (.string g2) := by simp [World.cell?, hb4]
          have z2 : w4.cell? ⟨w.heap.size, 2, none⟩ = some (.int .i64 g3) := by simp [World.cell?, hb4]
          have z3 : w4.cell? ⟨w.heap.size, 3, none⟩ = some (.int .i64 g4) := by simp [World.cell?, hb4]
          have z4 : w4.cell? ⟨w.heap.size, 4, none⟩ = some (.bool g5) := by simp [World.cell?, hb4]
          have z5 : w4.cell? ⟨w.heap.size, 5, none⟩ = some (.bool true) := by simp [World.cell?, hb4]
          have z6 : w4.cell? ⟨w.heap.size, 6, none⟩ = some (.bool g7) := by simp [World.cell?, hb4]
          have lz := heap_lt hb4
          have HV4 := Lib.hid hv4
          have H43 := Lib.hid h43
          have HB4 := Lib.hid hb4
          clear hv4 hb4 h43 y0 y1 y2 y3 y4 y5 y6 ly
          go_wp2_with (go_at_call 19; refine (awakeS_calls hT hTD _).mono ?_; rintro e w5 ⟨rfl, hf5⟩)
          go_ret
          exact ⟨rfl, (hf0.trans0 hf2).trans0 ((hf3.trans0 hf4).trans0 hf5)⟩
        · have hcnt' : g.count = false := by simpa using hcnt
          rw [moreB_want hcnt'] at R1
          obtain ⟨hw1, hw2⟩ := getL_want (S := S) (rev := S.rev) hcnt'
          have hwle := wantN_le g (allL S g S.rev).length
          have hwd : wantN g (allL S g S.rev).length = if 0 < g.limit then (if g.limit < (allL S g S.rev).length then g.limit.toNat else (allL S g S.rev).length) else (allL S g S.rev).length := rfl
          have hpk : ∀ n i, pickN g n i = if g.desc then n - 1 - i else i := fun _ _ => rfl
          generalize wantN g (allL S g S.rev).length = K at *
          generalize getL S g S.rev = gl at *
          generalize allL S g S.rev = al at *
          generalize pickN g = pk at *
          unfold rgV at *
          unfold bareG at *
          obtain ⟨g1, g2, g3, g4, g5, g6, g7⟩ := g
          dsimp only at *
          subst hcnt'
          have HFC := Lib.hid hfc
          have HDN := Lib.hid hdn
          have HR0 := Lib.hid R0
          have HR1 := Lib.hid R1
          have HW2 := Lib.hid hw2
          have HPK := Lib.hid hpk
          clear hfc hdn R0 R1 hG hs1 hs2 hf hl30 he hcnt hw2 hpk
          have hcase : (g4 = 0 ∧ K = al.length) ∨ ((0 < g4 ∧ ¬ g4 = 0) ∧ g4 < (al.length : Int) ∧ g4 = (K : Int)) ∨ ((0 < g4 ∧ ¬ g4 = 0) ∧ ¬ g4 < (al.length : Int) ∧ K = al.length) := by
            by_cases h1 : 0 < g4
            · by_cases h2 : g4 < (al.length : Int)
              · rw [if_pos h1, if_pos h2] at hwd; right; left; omega
              · rw [if_pos h1, if_neg h2] at hwd; right; right; omega
            · rw [if_neg h1] at hwd; left; omega
          clear hwd
          have hgl : gl.length = K := hw1
          rcases hcase with ⟨rfl, hK⟩ | ⟨⟨h1, h1'⟩, h2, h3⟩ | ⟨⟨h1, h1'⟩, h2, h3⟩
          · subst hK
            go_enter Try.func7, Try.ntmps7
            go_upto_region 4 with (first
              | (go_at_call 28; refine (HFC.out _ hf0).mono ?_; rintro e w1 ⟨rfl, rfl⟩)
              | (go_at_call 29; refine (HDN.out _ hf0).mono ?_; rintro e w2 ⟨s, rfl, F, hs2, hf2, hn2⟩))
            have hb2 := hf2.heap hbx (fun h => h)
            have x0 : w2.cell? ⟨w.heap.size, 0, none⟩ = some (.string g1) := by simp [World.cell?, hb2]
            have x1 : w2.cell? ⟨w.heap.size, 1, none⟩ = some (.string g2) := by simp [World.cell?, hb2]
            have x2 : w2.cell? ⟨w.heap.size, 2, none⟩ = some (.int .i64 g3) := by simp [World.cell?, hb2]
            have x3 : w2.cell? ⟨w.heap.size, 3, none⟩ = some (.int .i64 0) := by simp [World.cell?, hb2]
            have x4 : w2.cell? ⟨w.heap.size, 4, none⟩ = some (.bool g5) := by simp [World.cell?, hb2]
            have x5 : w2.cell? ⟨w.heap.size, 5, none⟩ = some (.bool false) := by simp [World.cell?, hb2]
            have x6 : w2.cell? ⟨w.heap.size, 6, none⟩ = some (.bool g7) := by simp [World.cell?, hb2]
            have lx := heap_lt hb2
            have HS2 := Lib.hid hs2
            have HB2 := Lib.hid hb2
            clear hs2 hb2
            go_upto_region 5 with (go_at_call 30; refine (HR0.out _ _ _ HS2.out).mono ?_; rintro e w3 ⟨v3, rfl, hv3, hf3, hn3⟩; obtain ⟨a3, c3, rfl, h31, h32, h33⟩ := hv3.shape)
            have hb3 := hf3.heap HB2.out (fun h => h)
            have y0 : w3.cell? ⟨w.heap.size, 0, none⟩ = some (.string g1) := by simp [World.cell?, hb3]
            have y1 : w3.cell? ⟨w.heap.size, 1, none⟩ = some (.string g2) := by simp [World.cell?, hb3]
            have y2 : w3.cell? ⟨w.heap.size, 2, none⟩ = some (.int .i64 g3) := by simp [World.cell?, hb3]
            have y3 : w3.cell? ⟨w.heap.size, 3, none⟩ = some (.int .i64 0) := by simp [World.cell?, hb3]
            have y4 : w3.cell? ⟨w.heap.size, 4, none⟩ = some (.bool g5) := by simp [World.cell?, hb3]
            have y5 : w3.cell? ⟨w.heap.size, 5, none⟩ = some (.bool false) := by simp [World.cell?, hb3]
            have y6 : w3.cell? ⟨w.heap.size, 6, none⟩ = some (.bool g7) := by simp [World.cell?, hb3]
            have ly := heap_lt hb3
            have HV3 := Lib.hid hv3
            have H33 := Lib.hid h33
            have HB3 := Lib.hid hb3
            clear hv3 hb3 h33 x0 x1 x2 x3 x4 x5 x6 lx
            go_upto_region 6 with (go_at_call 30; refine (HR1.out _ _ _ (HS2.out.fr0 hT hf3)).mono ?_; rintro e w4 ⟨v4, rfl, hv4, hf4, hn4⟩; obtain ⟨a4, c4, rfl, h41, h42, h43⟩ := hv4.shape)
            have hb4 := hf4.heap HB3.out (fun h => h)
            have z0 : w4.cell? ⟨w.heap.size, 0, none⟩ = some (.string g1) := by simp [World.cell?, hb4]
            have z1 : w4.cell? ⟨w.heap.size, 1, none⟩ = some (.string g2) := by simp [World.cell?, hb4]
            have z2 : w4.cell? ⟨w.heap.size, 2, none⟩ = some (.int .i64 g3) := by simp [World.cell?, hb4]
            have z3 : w4.cell? ⟨w.heap.size, 3, none⟩ = some (.int .i64 0) := by simp [World.cell?, hb4]
            have z4 : w4.cell? ⟨w.heap.size, 4, none⟩ = some (.bool g5) := by simp [World.cell?, hb4]
            have z5 : w4.cell? ⟨w.heap.size, 5, none⟩ = some (.bool false) := by simp [World.cell?, hb4]
            have z6 : w4.cell? ⟨w.heap.size, 6, none⟩ = some (.bool g7) := by simp [World.cell?, hb4]
            have lz := heap_lt hb4
            have HV4 := Lib.hid hv4
            have H43 := Lib.hid h43
            have HB4 := Lib.hid hb4
            clear hv4 hb4 h43 y0 y1 y2 y3 y4 y5 y6 ly
            go_wp2
            go_loopg [15] al.length (fun gg s15 wr => ∃ i : Nat, s15 = .int .i64 i ∧ i + gg = al.length ∧ Hid (Fr No w4 wr))
            case atStart => exact ⟨0, rfl, by simp, Lib.hid (Fr.refl No w4)⟩
            case round =>
              obtain ⟨i, rfl, hi, HF⟩ := hrel
              have hbr := HF.out.heap HB4.out (fun h => h)
              have lbr := heap_lt hbr
              cases gk with
              | zero =>
                have hil : ¬ (i : Int) < ((al.length : Nat) : Int) := by omega
                clear hbr
                go_wp2_with (go_at_call 19; refine (awakeS_calls hT hTD _).mono ?_; rintro e w5 ⟨rfl, hf5⟩)
                go_ret
                exact ⟨rfl, (hf0.trans0 hf2).trans0 ((hf3.trans0 hf4).trans0 (HF.out.trans0 hf5))⟩
              | succ gg =>
                have hil : (i : Int) < ((al.length : Nat) : Int) := by omega
                obtain ⟨x, hx⟩ : ∃ x, gl[i]? = some x := ⟨_, List.getElem?_eq_getElem (by omega)⟩
                obtain ⟨y, hy⟩ : ∃ y, al[i]? = some y := ⟨_, List.getElem?_eq_getElem (by omega)⟩
                obtain ⟨z, hz, hxz⟩ := HW2.out i x hx
                rw [HPK.out] at hz
                obtain ⟨b3, o3, rfl⟩ := H33.out (by omega)
                obtain ⟨b4, o4, rfl⟩ := H43.out (by omega)
                obtain ⟨j, hj⟩ : ∃ j : Nat, al.length = i + 1 + j := ⟨al.length - 1 - i, by omega⟩
                have hj2 : (al.length : Int) - 1 - (i : Int) = (j : Int) := by omega
                have hj3 : al.length - 1 - i = j := by omega
                have hj4 : (j : Int) < (al.length : Int) := by omega
                have hj5 : (i : Int) < (al.length : Int) := by omega
                have hfull := (HV3.out.fr0 hf4).fr0 HF.out
                have hout := HV4.out.fr0 HF.out
                have f0 := hfull.cell0 kvC_length i hy rfl
                have q0 := hout.cell0 kvC_length i hx rfl
                have f1 := hfull.cell kvC_length i 1 hy rfl
                have q1 := hout.cell kvC_length i 1 hx rfl
                have f2 := hfull.cell kvC_length i 2 hy rfl
                have q2 := hout.cell kvC_length i 2 hx rfl
                have f3 := hfull.cell kvC_length i 3 hy rfl
                have q3 := hout.cell kvC_length i 3 hx rfl
                have f4 := hfull.cell kvC_length i 4 hy rfl
                have q4 := hout.cell kvC_length i 4 hx rfl
                have f5 := hfull.cell kvC_length i 5 hy rfl
                have q5 := hout.cell kvC_length i 5 hx rfl
                have k4 : wr.cell? ⟨w.heap.size, 4, none⟩ = some (.bool g5) := by simp [World.cell?, hbr]
                have k6 : wr.cell? ⟨w.heap.size, 6, none⟩ = some (.bool g7) := by simp [World.cell?, hbr]
                have lf := World.block_lt_of_cell? _ _ f0
                have lq := World.block_lt_of_cell? _ _ q0
                have HFU := Lib.hid hfull
                clear hfull hout hbr
                cases g7
                · simp only [Bool.false_eq_true, if_false] at hz
                  rw [hy] at hz
                  obtain rfl := Option.some.inj hz
                  obtain ⟨y1, y2, y3, y4, y5, y6⟩ := y
                  cases g5
                  · simp only [Bool.false_eq_true, if_false] at hxz
                    subst hxz
                    dsimp only at *
                    clear hx hy hz hj hj2 hj3
                    go_upto_region 27 with fail
                    go_quiet (fail)
                    have hq := fun o : Obj => ((Fr.refl No wr).alloc o).trans0 (Fr.drewN No (wr.alloc o) nq)
                    go_wp2
                    go_roundg gg
                    case rel => exact ⟨i + 1, by go_num, by omega, Lib.hid (HF.out.trans0 (hq _))⟩
                    case measure => omega
                  · simp only [if_true] at hxz
                    subst hxz
                    unfold bareK at *
                    dsimp only at *
                    clear hx hy hz hj hj2 hj3
                    go_upto_region 27 with fail
                    go_quiet (fail)
                    have hq := fun o : Obj => ((Fr.refl No wr).alloc o).trans0 (Fr.drewN No (wr.alloc o) nq)
                    go_wp2
                    go_roundg gg
                    case rel => exact ⟨i + 1, by go_num, by omega, Lib.hid (HF.out.trans0 (hq _))⟩
                    case measure => omega
                · simp only [if_true] at hz
                  rw [hj3] at hz
                  have d0 := HFU.out.cell0 kvC_length j hz rfl
                  have d1 := HFU.out.cell kvC_length j 1 hz rfl
                  have d2 := HFU.out.cell kvC_length j 2 hz rfl
                  have d3 := HFU.out.cell kvC_length j 3 hz rfl
                  have d4 := HFU.out.cell kvC_length j 4 hz rfl
                  have d5 := HFU.out.cell kvC_length j 5 hz rfl
                  obtain ⟨y1, y2, y3, y4, y5, y6⟩ := y
                  obtain ⟨z1, z2, z3, z4, z5, z6⟩ := z
                  cases g5
                  · simp only [Bool.false_eq_true, if_false] at hxz
                    subst hxz
                    dsimp only at *
                    clear hx hy hz hj hj3
                    go_upto_region 27 with fail
                    go_quiet (fail)
                    have hq := fun o : Obj => ((Fr.refl No wr).alloc o).trans0 (Fr.drewN No (wr.alloc o) nq)
                    go_wp2
                    go_roundg gg
                    case rel => exact ⟨i + 1, by go_num, by omega, Lib.hid (HF.out.trans0 (hq _))⟩
                    case measure => omega
                  · simp only [if_true] at hxz
                    subst hxz
                    unfold bareK at *
                    dsimp only at *
                    clear hx hy hz hj hj3
                    go_upto_region 27 with fail
                    go_quiet (fail)
                    have hq := fun o : Obj => ((Fr.refl No wr).alloc o).trans0 (Fr.drewN No (wr.alloc o) nq)
                    go_wp2
                    go_roundg gg
                    case rel => exact ⟨i + 1, by go_num, by omega, Lib.hid (HF.out.trans0 (hq _))⟩
                    case measure => omega
          · have hmin : min (al.length : Int) g4 = (K : Int) := by omega
            have hKn : K < al.length := by omega
            rw [decide_eq_true hKn] at HR1
            clear h3
            go_enter Try.func7, Try.ntmps7
            go_upto_region 4 with (first
              | (go_at_call 28; refine (HFC.out _ hf0).mono ?_; rintro e w1 ⟨rfl, rfl⟩)
              | (go_at_call 29; refine (HDN.out _ hf0).mono ?_; rintro e w2 ⟨s, rfl, F, hs2, hf2, hn2⟩))
            have hb2 := hf2.heap hbx (fun h => h)
            have x0 : w2.cell? ⟨w.heap.size, 0, none⟩ = some (.string g1) := by simp [World.cell?, hb2]
            have x1 : w2.cell? ⟨w.heap.size, 1, none⟩ = some (.string g2) := by simp [World.cell?, hb2]
            have x2 : w2.cell? ⟨w.heap.size, 2, none⟩ = some (.int .i64 g3) := by simp [World.cell?, hb2]
            have x3 : w2.cell? ⟨w.heap.size, 3, none⟩ = some (.int .i64 g4) := by simp [World.cell?, hb2]
            have x4 : w2.cell? ⟨w.heap.size, 4, none⟩ = some (.bool g5) := by simp [World.cell?, hb2]
            have x5 : w2.cell? ⟨w.heap.size, 5, none⟩ = some (.bool false) := by simp [World.cell?, hb2]
            have x6 : w2.cell? ⟨w.heap.size, 6, none⟩ = some (.bool g7) := by simp [World.cell?, hb2]
            have lx := heap_lt hb2
            have HS2 := Lib.hid hs2
            have HB2 := Lib.hid hb2
            clear hs2 hb2
            go_upto_region 5 with (go_at_call 30; refine (HR0.out _ _ _ HS2.out).mono ?_; rintro e w3 ⟨v3, rfl, hv3, hf3, hn3⟩; obtain ⟨a3, c3, rfl, h31, h32, h33⟩ := hv3.shape)
            have hb3 := hf3.heap HB2.out (fun h => h)
            have y0 : w3.cell? ⟨w.heap.size, 0, none⟩ = some (.string g1) := by simp [World.cell?, hb3]
            have y1 : w3.cell? ⟨w.heap.size, 1, none⟩ = some (.string g2) := by simp [World.cell?, hb3]
            have y2 : w3.cell? ⟨w.heap.size, 2, none⟩ = some (.int .i64 g3) := by simp [World.cell?, hb3]
            have y3 : w3.cell? ⟨w.heap.size, 3, none⟩ = some (.int .i64 g4) := by simp [World.cell?, hb3]
            have y4 : w3.cell? ⟨w.heap.size, 4, none⟩ = some (.bool g5) := by simp [World.cell?, hb3]
            have y5 : w3.cell? ⟨w.heap.size, 5, none⟩ = some (.bool false) := by simp [World.cell?, hb3]
            have y6 : w3.cell? ⟨w.heap.size, 6, none⟩ = some (.bool g7) := by simp [World.cell?, hb3]
            have ly := heap_lt hb3
            have HV3 := Lib.hid hv3
            have H33 := Lib.hid h33
            have HB3 := Lib.hid hb3
            clear hv3 hb3 h33 x0 x1 x2 x3 x4 x5 x6 lx
            go_upto_region 6 with (go_at_call 30; refine (HR1.out _ _ _ (HS2.out.fr0 hT hf3)).mono ?_; rintro e w4 ⟨v4, rfl, hv4, hf4, hn4⟩; obtain ⟨a4, c4, rfl, h41, h42, h43⟩ := hv4.shape)
            have hb4 := hf4.heap HB3.out (fun h => h)
            have z0 : w4.cell? ⟨w.heap.size, 0, none⟩ = some (.string g1) := by simp [World.cell?, hb4]
            have z1 : w4.cell? ⟨w.heap.size, 1, none⟩ = some (.string g2) := by simp [World.cell?, hb4]
            have z2 : w4.cell? ⟨w.heap.size, 2, none⟩ = some (.int .i64 g3) := by simp [World.cell?, hb4]
            have z3 : w4.cell? ⟨w.heap.size, 3, none⟩ = some (.int .i64 g4) := by simp [World.cell?, hb4]
            have z4 : w4.cell? ⟨w.heap.size, 4, none⟩ = some (.bool g5) := by simp [World.cell?, hb4]
            have z5 : w4.cell? ⟨w.heap.size, 5, none⟩ = some (.bool false) := by simp [World.cell?, hb4]
            have z6 : w4.cell? ⟨w.heap.size, 6, none⟩ = some (.bool g7) := by simp [World.cell?, hb4]
            have lz := heap_lt hb4
            have HV4 := Lib.hid hv4
            have H43 := Lib.hid h43
            have HB4 := Lib.hid hb4
            clear hv4 hb4 h43 y0 y1 y2 y3 y4 y5 y6 ly
            go_wp2
            go_loopg [15] K (fun gg s15 wr => ∃ i : Nat, s15 = .int .i64 i ∧ i + gg = K ∧ Hid (Fr No w4 wr))
            case atStart => exact ⟨0, rfl, by simp, Lib.hid (Fr.refl No w4)⟩
            case round =>
              obtain ⟨i, rfl, hi, HF⟩ := hrel
              have hbr := HF.out.heap HB4.out (fun h => h)
              have lbr := heap_lt hbr
              cases gk with
              | zero =>
                have hil : ¬ (i : Int) < ((K : Nat) : Int) := by omega
                clear hbr
                go_wp2_with (go_at_call 19; refine (awakeS_calls hT hTD _).mono ?_; rintro e w5 ⟨rfl, hf5⟩)
                go_ret
                exact ⟨rfl, (hf0.trans0 hf2).trans0 ((hf3.trans0 hf4).trans0 (HF.out.trans0 hf5))⟩
              | succ gg =>
                have hil : (i : Int) < ((K : Nat) : Int) := by omega
                obtain ⟨x, hx⟩ : ∃ x, gl[i]? = some x := ⟨_, List.getElem?_eq_getElem (by omega)⟩
                obtain ⟨y, hy⟩ : ∃ y, al[i]? = some y := ⟨_, List.getElem?_eq_getElem (by omega)⟩
                obtain ⟨z, hz, hxz⟩ := HW2.out i x hx
                rw [HPK.out] at hz
                obtain ⟨b3, o3, rfl⟩ := H33.out (by omega)
                obtain ⟨b4, o4, rfl⟩ := H43.out (by omega)
                obtain ⟨j, hj⟩ : ∃ j : Nat, al.length = i + 1 + j := ⟨al.length - 1 - i, by omega⟩
                have hj2 : (al.length : Int) - 1 - (i : Int) = (j : Int) := by omega
                have hj3 : al.length - 1 - i = j := by omega
                have hj4 : (j : Int) < (al.length : Int) := by omega
                have hj5 : (i : Int) < (al.length : Int) := by omega
                have hfull := (HV3.out.fr0 hf4).fr0 HF.out
                have hout := HV4.out.fr0 HF.out
                have f0 := hfull.cell0 kvC_length i hy rfl
                have q0 := hout.cell0 kvC_length i hx rfl
                have f1 := hfull.cell kvC_length i 1 hy rfl
                have q1 := hout.cell kvC_length i 1 hx rfl
                have f2 := hfull.cell kvC_length i 2 hy rfl
                have q2 := hout.cell kvC_length i 2 hx rfl
                have f3 := hfull.cell kvC_length i 3 hy rfl
                have q3 := hout.cell kvC_length i 3 hx rfl
                have f4 := hfull.cell kvC_length i 4 hy rfl
                have q4 := hout.cell kvC_length i 4 hx rfl
                have f5 := hfull.cell kvC_length i 5 hy rfl
                have q5 := hout.cell kvC_length i 5 hx rfl
                have k4 : wr.cell? ⟨w.heap.size, 4, none⟩ = some (.bool g5) := by simp [World.cell?, hbr]
                have k6 : wr.cell? ⟨w.heap.size, 6, none⟩ = some (.bool g7) := by simp [World.cell?, hbr]
                have lf := World.block_lt_of_cell? _ _ f0
                have lq := World.block_lt_of_cell? _ _ q0
                have HFU := Lib.hid hfull
                clear hfull hout hbr
                cases g7
                · simp only [Bool.false_eq_true, if_false] at hz
                  rw [hy] at hz
                  obtain rfl := Option.some.inj hz
                  obtain ⟨y1, y2, y3, y4, y5, y6⟩ := y
                  cases g5
                  · simp only [Bool.false_eq_true, if_false] at hxz
                    subst hxz
                    dsimp only at *
                    clear hx hy hz hj hj2 hj3
                    go_upto_region 27 with fail
                    go_quiet (fail)
                    have hq := fun o : Obj => ((Fr.refl No wr).alloc o).trans0 (Fr.drewN No (wr.alloc o) nq)
                    go_wp2
                    go_roundg gg
                    case rel => exact ⟨i + 1, by go_num, by omega, Lib.hid (HF.out.trans0 (hq _))⟩
                    case measure => omega
                  · simp only [if_true] at hxz
                    subst hxz
                    unfold bareK at *
                    dsimp only at *
                    clear hx hy hz hj hj2 hj3
                    go_upto_region 27 with fail
                    go_quiet (fail)
                    have hq := fun o : Obj => ((Fr.refl No wr).alloc o).trans0 (Fr.drewN No (wr.alloc o) nq)
                    go_wp2
                    go_roundg gg
                    case rel => exact ⟨i + 1, by go_num, by omega, Lib.hid (HF.out.trans0 (hq _))⟩
                    case measure => omega
                · simp only [if_true] at hz
                  rw [hj3] at hz
                  have d0 := HFU.out.cell0 kvC_length j hz rfl
                  have d1 := HFU.out.cell kvC_length j 1 hz rfl
                  have d2 := HFU.out.cell kvC_length j 2 hz rfl
                  have d3 := HFU.out.cell kvC_length j 3 hz rfl
                  have d4 := HFU.out.cell kvC_length j 4 hz rfl
                  have d5 := HFU.out.cell kvC_length j 5 hz rfl
                  obtain ⟨y1, y2, y3, y4, y5, y6⟩ := y
                  obtain ⟨z1, z2, z3, z4, z5, z6⟩ := z
                  cases g5
                  · simp only [Bool.false_eq_true, if_false] at hxz
                    subst hxz
                    dsimp only at *
                    clear hx hy hz hj hj3
                    go_upto_region 27 with fail
                    go_quiet (fail)
                    have hq := fun o : Obj => ((Fr.refl No wr).alloc o).trans0 (Fr.drewN No (wr.alloc o) nq)
                    go_wp2
                    go_roundg gg
                    case rel => exact ⟨i + 1, by go_num, by omega, Lib.hid (HF.out.trans0 (hq _))⟩
                    case measure => omega
                  · simp only [if_true] at hxz
                    subst hxz
                    unfold bareK at *
                    dsimp only at *
                    clear hx hy hz hj hj3
                    go_upto_region 27 with fail
                    go_quiet (fail)
                    have hq := fun o : Obj => ((Fr.refl No wr).alloc o).trans0 (Fr.drewN No (wr.alloc o) nq)
                    go_wp2
                    go_roundg gg
                    case rel => exact ⟨i + 1, by go_num, by omega, Lib.hid (HF.out.trans0 (hq _))⟩
                    case measure => omega
          · subst h3
            have hmin : min (al.length : Int) g4 = (al.length : Int) := by omega
            go_enter Try.func7, Try.ntmps7
            go_upto_region 4 with (first
              | (go_at_call 28; refine (HFC.out _ hf0).mono ?_; rintro e w1 ⟨rfl, rfl⟩)
              | (go_at_call 29; refine (HDN.out _ hf0).mono ?_; rintro e w2 ⟨s, rfl, F, hs2, hf2, hn2⟩))
            have hb2 := hf2.heap hbx (fun h => h)
            have x0 : w2.cell? ⟨w.heap.size, 0, none⟩ = some (.string g1) := by simp [World.cell?, hb2]
            have x1 : w2.cell? ⟨w.heap.size, 1, none⟩ = some (.string g2) := by simp [World.cell?, hb2]
            have x2 : w2.cell? ⟨w.heap.size, 2, none⟩ = some (.int .i64 g3) := by simp [World.cell?, hb2]
            have x3 : w2.cell? ⟨w.heap.size, 3, none⟩ = some (.int .i64 g4) := by simp [World.cell?, hb2]
            have x4 : w2.cell? ⟨w.heap.size, 4, none⟩ = some (.bool g5) := by simp [World.cell?, hb2]
            have x5 : w2.cell? ⟨w.heap.size, 5, none⟩ = some (.bool false) := by simp [World.cell?, hb2]
            have x6 : w2.cell? ⟨w.heap.size, 6, none⟩ = some (.bool g7) := by simp [World.cell?, hb2]
            have lx := heap_lt hb2
            have HS2 := Lib.hid hs2
            have HB2 := Lib.hid hb2
            clear hs2 hb2
            go_upto_region 5 with (go_at_call 30; refine (HR0.out _ _ _ HS2.out).mono ?_; rintro e w3 ⟨v3, rfl, hv3, hf3, hn3⟩; obtain ⟨a3, c3, rfl, h31, h32, h33⟩ := hv3.shape)
            have hb3 := hf3.heap HB2.out (fun h => h)
            have y0 : w3.cell? ⟨w.heap.size, 0, none⟩ = some (.string g1) := by simp [World.cell?, hb3]
            have y1 : w3.cell? ⟨w.heap.size, 1, none⟩ = some (.string g2) := by simp [World.cell?, hb3]
            have y2 : w3.cell? ⟨w.heap.size, 2, none⟩ = some (.int .i64 g3) := by simp [World.cell?, hb3]
            have y3 : w3.cell? ⟨w.heap.size, 3, none⟩ = some (.int .i64 g4) := by simp [World.cell?, hb3]
            have y4 : w3.cell? ⟨w.heap.size, 4, none⟩ = some (.bool g5) := by simp [World.cell?, hb3]
            have y5 : w3.cell? ⟨w.heap.size, 5, none⟩ = some (.bool false) := by simp [World.cell?, hb3]
            have y6 : w3.cell? ⟨w.heap.size, 6, none⟩ = some (.bool g7) := by simp [World.cell?, hb3]
            have ly := heap_lt hb3
            have HV3 := Lib.hid hv3
            have H33 := Lib.hid h33
            have HB3 := Lib.hid hb3
            clear hv3 hb3 h33 x0 x1 x2 x3 x4 x5 x6 lx
            go_upto_region 6 with (go_at_call 30; refine (HR1.out _ _ _ (HS2.out.fr0 hT hf3)).mono ?_; rintro e w4 ⟨v4, rfl, hv4, hf4, hn4⟩; obtain ⟨a4, c4, rfl, h41, h42, h43⟩ := hv4.shape)
            have hb4 := hf4.heap HB3.out (fun h => h)
            have z0 : w4.cell? ⟨w.heap.size, 0, none⟩ = some (.string g1) := by simp [World.cell?, hb4]
            have z1 : w4.cell? ⟨w.heap.size, 1, none⟩ = some (.string g2) := by simp [World.cell?, hb4]
            have z2 : w4.cell? ⟨w.heap.size, 2, none⟩ = some (.int .i64 g3) := by simp [World.cell?, hb4]
            have z3 : w4.cell? ⟨w.heap.size, 3, none⟩ = some (.int .i64 g4) := by simp [World.cell?, hb4]
            have z4 : w4.cell? ⟨w.heap.size, 4, none⟩ = some (.bool g5) := by simp [World.cell?, hb4]
            have z5 : w4.cell? ⟨w.heap.size, 5, none⟩ = some (.bool false) := by simp [World.cell?, hb4]
            have z6 : w4.cell? ⟨w.heap.size, 6, none⟩ = some (.bool g7) := by simp [World.cell?, hb4]
            have lz := heap_lt hb4
            have HV4 := Lib.hid hv4
            have H43 := Lib.hid h43
            have HB4 := Lib.hid hb4
            clear hv4 hb4 h43 y0 y1 y2 y3 y4 y5 y6 ly
            go_wp2
            go_loopg [15] al.length (fun gg s15 wr => ∃ i : Nat, s15 = .int .i64 i ∧ i + gg = al.length ∧ Hid (Fr No w4 wr))
            case atStart => exact ⟨0, rfl, by simp, Lib.hid (Fr.refl No w4)⟩
            case round =>
              obtain ⟨i, rfl, hi, HF⟩ := hrel
              have hbr := HF.out.heap HB4.out (fun h => h)
              have lbr := heap_lt hbr
              cases gk with
              | zero =>
                have hil : ¬ (i : Int) < ((al.length : Nat) : Int) := by omega
                clear hbr
                go_wp2_with (go_at_call 19; refine (awakeS_calls hT hTD _).mono ?_; rintro e w5 ⟨rfl, hf5⟩)
                go_ret
                exact ⟨rfl, (hf0.trans0 hf2).trans0 ((hf3.trans0 hf4).trans0 (HF.out.trans0 hf5))⟩
              | succ gg =>
                have hil : (i : Int) < ((al.length : Nat) : Int) := by omega
                obtain ⟨x, hx⟩ : ∃ x, gl[i]? = some x := ⟨_, List.getElem?_eq_getElem (by omega)⟩
                obtain ⟨y, hy⟩ : ∃ y, al[i]? = some y := ⟨_, List.getElem?_eq_getElem (by omega)⟩
                obtain ⟨z, hz, hxz⟩ := HW2.out i x hx
                rw [HPK.out] at hz
                obtain ⟨b3, o3, rfl⟩ := H33.out (by omega)
                obtain ⟨b4, o4, rfl⟩ := H43.out (by omega)
                obtain ⟨j, hj⟩ : ∃ j : Nat, al.length = i + 1 + j := ⟨al.length - 1 - i, by omega⟩
                have hj2 : (al.length : Int) - 1 - (i : Int) = (j : Int) := by omega
                have hj3 : al.length - 1 - i = j := by omega
                have hj4 : (j : Int) < (al.length : Int) := by omega
                have hj5 : (i : Int) < (al.length : Int) := by omega
                have hfull := (HV3.out.fr0 hf4).fr0 HF.out
                have hout := HV4.out.fr0 HF.out
                have f0 := hfull.cell0 kvC_length i hy rfl
                have q0 := hout.cell0 kvC_length i hx rfl
                have f1 := hfull.cell kvC_length i 1 hy rfl
                have q1 := hout.cell kvC_length i 1 hx rfl
                have f2 := hfull.cell kvC_length i 2 hy rfl
                have q2 := hout.cell kvC_length i 2 hx rfl
                have f3 := hfull.cell kvC_length i 3 hy rfl
                have q3 := hout.cell kvC_length i 3 hx rfl
                have f4 := hfull.cell kvC_length i 4 hy rfl
                have q4 := hout.cell kvC_length i 4 hx rfl
                have f5 := hfull.cell kvC_length i 5 hy rfl
                have q5 := hout.cell kvC_length i 5 hx rfl
                have k4 : wr.cell? ⟨w.heap.size, 4, none⟩ = some (.bool g5) := by simp [World.cell?, hbr]
                have k6 : wr.cell? ⟨w.heap.size, 6, none⟩ = some (.bool g7) := by simp [World.cell?, hbr]
                have lf := World.block_lt_of_cell? _ _ f0
                have lq := World.block_lt_of_cell? _ _ q0
                have HFU := Lib.hid hfull
                clear hfull hout hbr
                cases g7
                · simp only [Bool.false_eq_true, if_false] at hz
                  rw [hy] at hz
                  obtain rfl := Option.some.inj hz
                  obtain ⟨y1, y2, y3, y4, y5, y6⟩ := y
                  cases g5
                  · simp only [Bool.false_eq_true, if_false] at hxz
                    subst hxz
                    dsimp only at *
                    clear hx hy hz hj hj2 hj3
                    go_upto_region 27 with fail
                    go_quiet (fail)
                    have hq := fun o : Obj => ((Fr.refl No wr).alloc o).trans0 (Fr.drewN No (wr.alloc o) nq)
                    go_wp2
                    go_roundg gg
                    case rel => exact ⟨i + 1, by go_num, by omega, Lib.hid (HF.out.trans0 (hq _))⟩
                    case measure => omega
                  · simp only [if_true] at hxz
                    subst hxz
                    unfold bareK at *
                    dsimp only at *
                    clear hx hy hz hj hj2 hj3
                    go_upto_region 27 with fail
                    go_quiet (fail)
                    have hq := fun o : Obj => ((Fr.refl No wr).alloc o).trans0 (Fr.drewN No (wr.alloc o) nq)
                    go_wp2
                    go_roundg gg
                    case rel => exact ⟨i + 1, by go_num, by omega, Lib.hid (HF.out.trans0 (hq _))⟩
                    case measure => omega
                · simp only [if_true] at hz
                  rw [hj3] at hz
                  have d0 := HFU.out.cell0 kvC_length j hz rfl
                  have d1 := HFU.out.cell kvC_length j 1 hz rfl
                  have d2 := HFU.out.cell kvC_length j 2 hz rfl
                  have d3 := HFU.out.cell kvC_length j 3 hz rfl
                  have d4 := HFU.out.cell kvC_length j 4 hz rfl
                  have d5 := HFU.out.cell kvC_length j 5 hz rfl
                  obtain ⟨y1, y2, y3, y4, y5, y6⟩ := y
                  obtain ⟨z1, z2, z3, z4, z5, z6⟩ := z
                  cases g5
                  · simp only [Bool.false_eq_true, if_false] at hxz
                    subst hxz
                    dsimp only at *
                    clear hx hy hz hj hj3
                    go_upto_region 27 with fail
                    go_quiet (fail)
                    have hq := fun o : Obj => ((Fr.refl No wr).alloc o).trans0 (Fr.drewN No (wr.alloc o) nq)
                    go_wp2
                    go_roundg gg
                    case rel => exact ⟨i + 1, by go_num, by omega, Lib.hid (HF.out.trans0 (hq _))⟩
                    case measure => omega
                  · simp only [if_true] at hxz
                    subst hxz
                    unfold bareK at *
                    dsimp only at *
                    clear hx hy hz hj hj3
                    go_upto_region 27 with fail
                    go_quiet (fail)
                    have hq := fun o : Obj => ((Fr.refl No wr).alloc o).trans0 (Fr.drewN No (wr.alloc o) nq)
                    go_wp2
                    go_roundg gg
                    case rel => exact ⟨i + 1, by go_num, by omega, Lib.hid (HF.out.trans0 (hq _))⟩
                    case measure => omega
      · simp only [if_neg he, he, decide_false, Bool.false_and, List.length_nil] at R0 R1
        generalize hee : rangeE S g = e1 at *
        have he' : (e1 == 0) = false := by simpa using he
        unfold rgV at *
        unfold bareG at *
        obtain ⟨g1, g2, g3, g4, g5, g6, g7⟩ := g
        dsimp only at *
        have HFC := Lib.hid hfc
        have HDN := Lib.hid hdn
        have HR0 := Lib.hid R0
        have HR1 := Lib.hid R1
        clear hfc hdn R0 R1 hG hs1 hs2 hf hl30 hee
        go_enter Try.func7, Try.ntmps7
        go_upto_region 4 with (first
          | (go_at_call 28; refine (HFC.out _ hf0).mono ?_; rintro e w1 ⟨rfl, rfl⟩)
          | (go_at_call 29; refine (HDN.out _ hf0).mono ?_; rintro e w2 ⟨s, rfl, F, hs2, hf2, hn2⟩))
        have hb2 := hf2.heap hbx (fun h => h)
        have x0 : w2.cell? ⟨w.heap.size, 0, none⟩ = some (.string g1) := by simp [World.cell?, hb2]
        have x1 : w2.cell? ⟨w.heap.size, 1, none⟩ = some (.string g2) := by simp [World.cell?, hb2]
        have x2 : w2.cell? ⟨w.heap.size, 2, none⟩ = some (.int .i64 g3) := by simp [World.cell?, hb2]
        have x3 : w2.cell? ⟨w.heap.size, 3, none⟩ = some (.int .i64 g4) := by simp [World.cell?, hb2]
        have x4 : w2.cell? ⟨w.heap.size, 4, none⟩ = some (.bool g5) := by simp [World.cell?, hb2]
        have x5 : w2.cell? ⟨w.heap.size, 5, none⟩ = some (.bool g6) := by simp [World.cell?, hb2]
        have x6 : w2.cell? ⟨w.heap.size, 6, none⟩ = some (.bool g7) := by simp [World.cell?, hb2]
        have lx := heap_lt hb2
        have HS2 := Lib.hid hs2
        have HB2 := Lib.hid hb2
        clear hs2 hb2
        go_upto_region 5 with (go_at_call 30; refine (HR0.out _ _ _ HS2.out).mono ?_; rintro e w3 ⟨v3, rfl, hv3, hf3, hn3⟩; obtain ⟨a3, c3, rfl, h31, h32, h33⟩ := hv3.shape)
        have hb3 := hf3.heap HB2.out (fun h => h)
        have y0 : w3.cell? ⟨w.heap.size, 0, none⟩ = some (.string g1) := by simp [World.cell?, hb3]
        have y1 : w3.cell? ⟨w.heap.size, 1, none⟩ = some (.string g2) := by simp [World.cell?, hb3]
        have y2 : w3.cell? ⟨w.heap.size, 2, none⟩ = some (.int .i64 g3) := by simp [World.cell?, hb3]
        have y3 : w3.cell? ⟨w.heap.size, 3, none⟩ = some (.int .i64 g4) := by simp [World.cell?, hb3]
        have y4 : w3.cell? ⟨w.heap.size, 4, none⟩ = some (.bool g5) := by simp [World.cell?, hb3]
        have y5 : w3.cell? ⟨w.heap.size, 5, none⟩ = some (.bool g6) := by simp [World.cell?, hb3]
        have y6 : w3.cell? ⟨w.heap.size, 6, none⟩ = some (.bool g7) := by simp [World.cell?, hb3]
        have ly := heap_lt hb3
        have HV3 := Lib.hid hv3
        have H33 := Lib.hid h33
        have HB3 := Lib.hid hb3
        clear hv3 hb3 h33 x0 x1 x2 x3 x4 x5 x6 lx
        go_upto_region 6 with (go_at_call 30; refine (HR1.out _ _ _ (HS2.out.fr0 hT hf3)).mono ?_; rintro e w4 ⟨v4, rfl, hv4, hf4, hn4⟩; obtain ⟨a4, c4, rfl, h41, h42, h43⟩ := hv4.shape)
        have hb4 := hf4.heap HB3.out (fun h => h)
        have z0 : w4.cell? ⟨w.heap.size, 0, none⟩ = some (.string g1) := by simp [World.cell?, hb4]
        have z1 : w4.cell? ⟨w.heap.size, 1, none⟩ = some (.string g2) := by simp [World.cell?, hb4]
        have z2 : w4.cell? ⟨w.heap.size, 2, none⟩ = some (.int .i64 g3) := by simp [World.cell?, hb4]
        have z3 : w4.cell? ⟨w.heap.size, 3, none⟩ = some (.int .i64 g4) := by simp [World.cell?, hb4]
        have z4 : w4.cell? ⟨w.heap.size, 4, none⟩ = some (.bool g5) := by simp [World.cell?, hb4]
        have z5 : w4.cell? ⟨w.heap.size, 5, none⟩ = some (.bool g6) := by simp [World.cell?, hb4]
        have z6 : w4.cell? ⟨w.heap.size, 6, none⟩ = some (.bool g7) := by simp [World.cell?, hb4]
        have lz := heap_lt hb4
        have HV4 := Lib.hid hv4
        have H43 := Lib.hid h43
        have HB4 := Lib.hid hb4
        clear hv4 hb4 h43 y0 y1 y2 y3 y4 y5 y6 ly
        go_wp2_with (go_at_call 19; refine (awakeS_calls hT hTD _).mono ?_; rintro e w5 ⟨rfl, hf5⟩)
        go_ret
        exact ⟨rfl, (hf0.trans0 hf2).trans0 ((hf3.trans0 hf4).trans0 hf5)⟩
  · unfold rgV
    obtain ⟨g1, g2, g3, g4, g5, g6, g7⟩ := g
    dsimp only at *
    have HFC := Lib.hid hfc
    clear hfc hdn
    cases hfl : fewCals l with
    | false =>
      rw [hfl] at HFC
      clear hfew
      go_enter Try.func7, Try.ntmps7
      go_wp2_with (first
      | (go_at_call 28; refine (HFC.out _ hf0).mono ?_; rintro e w1 ⟨rfl, rfl⟩)
      | (go_at_call 19; refine (awakeS_calls hT hTD _).mono ?_; rintro e w5 ⟨rfl, hf5⟩))
      go_ret
      exact ⟨rfl, hf0.trans0 hf5⟩
    | true =>
      rw [hfl] at HFC
      by_cases hk : g1.size ≤ 3000
      · have hk1 : ¬ (3000 : Int) < (g1.size : Int) := by omega
        have hk2 : (3000 : Int) < (g2.size : Int) := by
          have : ¬ g2.size ≤ 3000 := fun h => hfew ⟨hfl, hk, h⟩
          omega
        clear hfew hfl hk
        go_enter Try.func7, Try.ntmps7
        go_wp2_with (first
        | (go_at_call 28; refine (HFC.out _ hf0).mono ?_; rintro e w1 ⟨rfl, rfl⟩)
        | (go_at_call 19; refine (awakeS_calls hT hTD _).mono ?_; rintro e w5 ⟨rfl, hf5⟩))
        go_ret
        exact ⟨rfl, hf0.trans0 hf5⟩
      · have hk1 : (3000 : Int) < (g1.size : Int) := by omega
        clear hfew hfl hk
        go_enter Try.func7, Try.ntmps7
        go_wp2_with (first
        | (go_at_call 28; refine (HFC.out _ hf0).mono ?_; rintro e w1 ⟨rfl, rfl⟩)
        | (go_at_call 19; refine (awakeS_calls hT hTD _).mono ?_; rintro e w5 ⟨rfl, hf5⟩))
        go_ret
        exact ⟨rfl, hf0.trans0 hf5⟩
end Go.Proofs.Ythljnnjpmdgkoaa
