/- The store's get, where Desc is asked and Keys is not: what a range answers, turned. The condition: histories are small (HistOk). -/
import Derived.Test.YthljnnjpmdgkoaaG08
import Derived.Test.YthljnnjpmdgkoaaG09
namespace Go.Proofs.Ythljnnjpmdgkoaa
open Go Go.Proofs Go.RowKit
set_option maxRecDepth 100000

set_option maxHeartbeats 4000000 in
theorem getDesc_calls {TA : TreeRel} {N : Nat} (hT : TreeOk TA N) {n : Nat} (hn : n ≤ 1099511627) (w : World) (s : Nat) (S : St) (F : Nat → Prop) (hS : StoreAt TA w s S F) (hok : StOk n S) (hN : S.T.length ≤ 1099511627) (g : Rg) (rev : Int)
    (hks : g.key.size ≤ 1099511627776) (hdesc : g.desc = true) (hkeys : g.keys = false) :
    Calls Try.prog 66 #[.pointer (some ⟨s, 0, none⟩), rgV g, .int .i64 rev] w fun e w' => ∃ v, e = .returned (.tuple #[v, .int .i64 (allL S g rev).length, .bool (moreB S g rev)]) ∧ SlF w' 57 6 kvC v (getL S g rev) ∧ Fr No w w' ∧ (∀ b, v.ownBlock = some b → w.heap.size ≤ b) := by
  have hbl : (allL S g rev).length ≤ 1099511627 := Nat.le_trans (List.length_filterMap_le _ _) (Nat.le_trans (List.length_filter_le _ _) hN)
  have hb := fun W hW => between_calls hT hn W s S F hW hok hN g.key g.end_ (revOf g rev) hks
  obtain ⟨g1, g2, g3, g4, g5, g6, g7⟩ := g
  dsimp only at hdesc hkeys hb
  subst hdesc hkeys
  have hal : betweenS S g1 g2 (revOf ⟨g1, g2, g3, g4, false, g6, true⟩ rev) = allL S ⟨g1, g2, g3, g4, false, g6, true⟩ rev := rfl
  rw [hal] at hb
  have hgl : getL S ⟨g1, g2, g3, g4, false, g6, true⟩ rev = if g6 then [] else cutL ⟨g1, g2, g3, g4, false, g6, true⟩ (moreB S ⟨g1, g2, g3, g4, false, g6, true⟩ rev) (allL S ⟨g1, g2, g3, g4, false, g6, true⟩ rev).reverse := by unfold getL; rfl
  have hmo : moreB S ⟨g1, g2, g3, g4, false, g6, true⟩ rev = (!g6 && decide (0 < g4) && decide (g4 < (allL S ⟨g1, g2, g3, g4, false, g6, true⟩ rev).length)) := rfl
  rw [hgl, hmo]
  unfold rgV cutL
  dsimp only
  generalize allL S ⟨g1, g2, g3, g4, false, g6, true⟩ rev = l at *
  have hrv : (g3 = 0 ∧ revOf ⟨g1, g2, g3, g4, false, g6, true⟩ rev = rev) ∨ ((g3 == 0) = false ∧ revOf ⟨g1, g2, g3, g4, false, g6, true⟩ rev = g3) := by
    unfold revOf
    by_cases h : g3 = 0
    · exact .inl ⟨h, by simp [h]⟩
    · exact .inr ⟨by simpa using h, by simp [h]⟩
  generalize revOf ⟨g1, g2, g3, g4, false, g6, true⟩ rev = rv at *
  have HB := Lib.hid hb
  have HS := Lib.hid hS
  clear hb hgl hmo hal hS
  have hcase : (g6 = true) ∨ (g6 = false ∧ ¬ 0 < g4) ∨ (g6 = false ∧ 0 < g4 ∧ ¬ g4 < (l.length : Int)) ∨ (g6 = false ∧ 0 < g4 ∧ g4 < (l.length : Int)) := by
    cases g6 <;> simp <;> omega
  rcases hrv with ⟨hr1, rfl⟩ | ⟨hr1, rfl⟩
  · subst hr1
    rcases hcase with rfl | ⟨rfl, h1⟩ | ⟨rfl, h1, h2⟩ | ⟨rfl, h1, h2⟩
    · simp only [Bool.not_true, Bool.false_and, if_true]
      go_enter Try.func66, Try.ntmps66
      go_wp2_with (go_at_call 77; refine (HB.out _ (HS.out.fr0 hT ((Fr.refl No w).alloc _))).mono ?_; rintro e w1 ⟨v, rfl, hv, hf1, hvn⟩; obtain ⟨va, vcap, rfl, hc1, hc2, hva⟩ := hv.shape
                   have hf2 : Fr No w w1 := ((Fr.refl No w).alloc _).trans0 hf1
                   have hbx := hf1.heap (alloc_at w (Obj.cells #[.string g1, .string g2, .int .i64 0, .int .i64 g4, .bool false, .bool true, .bool true] 38) _ rfl) id
                   have y3 : w1.cell? ⟨w.heap.size, 3, none⟩ = some (.int .i64 g4) := by simp [World.cell?, hbx]
                   have y4 : w1.cell? ⟨w.heap.size, 4, none⟩ = some (.bool false) := by simp [World.cell?, hbx]
                   have y5 : w1.cell? ⟨w.heap.size, 5, none⟩ = some (.bool true) := by simp [World.cell?, hbx]
                   have y6 : w1.cell? ⟨w.heap.size, 6, none⟩ = some (.bool true) := by simp [World.cell?, hbx]
                   have hl1 : w.heap.size < w1.heap.size := heap_lt hbx
                   have HV := Lib.hid hv
                   have HVN : Hid (∀ b, (Value.slice va l.length vcap).ownBlock = some b → w.heap.size ≤ b) := Lib.hid (fun b hb => by have := hvn b hb; simp at this; omega)
                   clear hv hbx hvn)
      go_ret3
      exact ⟨_, rfl, SlF.nil _ _ _ _, hf2, by simp [Value.ownBlock]⟩
    · have hd : decide (0 < g4) = false := by simpa using h1
      rw [hd]
      simp only [Bool.not_false, Bool.true_and, Bool.false_and, if_false, Bool.false_eq_true]
      go_enter Try.func66, Try.ntmps66
      go_wp2_with (first
                   | (go_at_call 77; refine (HB.out _ (HS.out.fr0 hT ((Fr.refl No w).alloc _))).mono ?_; rintro e w1 ⟨v, rfl, hv, hf1, hvn⟩; obtain ⟨va, vcap, rfl, hc1, hc2, hva⟩ := hv.shape
                      have hf2 : Fr No w w1 := ((Fr.refl No w).alloc _).trans0 hf1
                      have hbx := hf1.heap (alloc_at w (Obj.cells #[.string g1, .string g2, .int .i64 0, .int .i64 g4, .bool false, .bool false, .bool true] 38) _ rfl) id
                      have y3 : w1.cell? ⟨w.heap.size, 3, none⟩ = some (.int .i64 g4) := by simp [World.cell?, hbx]
                      have y4 : w1.cell? ⟨w.heap.size, 4, none⟩ = some (.bool false) := by simp [World.cell?, hbx]
                      have y5 : w1.cell? ⟨w.heap.size, 5, none⟩ = some (.bool false) := by simp [World.cell?, hbx]
                      have y6 : w1.cell? ⟨w.heap.size, 6, none⟩ = some (.bool true) := by simp [World.cell?, hbx]
                      have hl1 : w.heap.size < w1.heap.size := heap_lt hbx
                      have HV := Lib.hid hv
                      have HVX : Hid (¬ (Value.slice va l.length vcap).ownBlock = some w.heap.size) := Lib.hid (fun h => by have := hvn _ h; simp at this; omega)
                      have HVN : Hid (∀ b, (Value.slice va l.length vcap).ownBlock = some b → w.heap.size ≤ b) := Lib.hid (fun b hb => by have := hvn b hb; simp at this; omega)
                      clear hv hbx hvn)
                   | (go_at_call 107; refine (reverse_calls _ _ _ HV.out hbl).mono ?_; rintro e w2 ⟨⟨u, rfl⟩, hv2, hf3⟩
                      have HV2 := Lib.hid (show SlF w2 57 6 kvC (.slice va l.reverse.length vcap) l.reverse by rw [List.length_reverse]; exact hv2)
                      have hf4 : Fr No w w2 := hf2.trans hf3 fun b hb h => by have := HVN.out b h; omega
                      have nb : ¬ (Value.slice va l.length vcap).ownBlock = some w.heap.size := fun h => HVX.out h
                      have y3 := hf3.cell y3 nb
                      have y4 := hf3.cell y4 nb
                      have y5 := hf3.cell y5 nb
                      have y6 := hf3.cell y6 nb
                      have hl2 : w.heap.size < w2.heap.size := Nat.lt_of_lt_of_le hl1 hf3.size
                      clear hv2))
      go_loopg [50] l.length (fun g s50 wr => ∃ i : Nat, s50 = .int .i64 i ∧ i + g = l.length ∧ w2 = wr)
      case atStart => exact ⟨0, rfl, by omega, rfl⟩
      case round =>
        obtain ⟨i, rfl, hi, rfl⟩ := hrel
        cases gk with
        | zero =>
          have hil : ¬ (i : Int) < ((l.length : Nat) : Int) := by omega
          go_wp2
          go_ret3
          exact ⟨_, rfl, by simpa using HV2.out, hf4, HVN.out⟩
        | succ g =>
          have hil : (i : Int) < ((l.length : Nat) : Int) := by omega
          go_wp2
          go_roundg g
          case rel => exact ⟨i + 1, by go_num, by omega, rfl⟩
          case measure => omega
    · have hd : decide (g4 < (l.length : Int)) = false := by simpa using h2
      rw [hd]
      simp only [Bool.and_false, if_false, Bool.false_eq_true]
      go_enter Try.func66, Try.ntmps66
      go_wp2_with (first
                   | (go_at_call 77; refine (HB.out _ (HS.out.fr0 hT ((Fr.refl No w).alloc _))).mono ?_; rintro e w1 ⟨v, rfl, hv, hf1, hvn⟩; obtain ⟨va, vcap, rfl, hc1, hc2, hva⟩ := hv.shape
                      have hf2 : Fr No w w1 := ((Fr.refl No w).alloc _).trans0 hf1
                      have hbx := hf1.heap (alloc_at w (Obj.cells #[.string g1, .string g2, .int .i64 0, .int .i64 g4, .bool false, .bool false, .bool true] 38) _ rfl) id
                      have y3 : w1.cell? ⟨w.heap.size, 3, none⟩ = some (.int .i64 g4) := by simp [World.cell?, hbx]
                      have y4 : w1.cell? ⟨w.heap.size, 4, none⟩ = some (.bool false) := by simp [World.cell?, hbx]
                      have y5 : w1.cell? ⟨w.heap.size, 5, none⟩ = some (.bool false) := by simp [World.cell?, hbx]
                      have y6 : w1.cell? ⟨w.heap.size, 6, none⟩ = some (.bool true) := by simp [World.cell?, hbx]
                      have hl1 : w.heap.size < w1.heap.size := heap_lt hbx
                      have HV := Lib.hid hv
                      have HVX : Hid (¬ (Value.slice va l.length vcap).ownBlock = some w.heap.size) := Lib.hid (fun h => by have := hvn _ h; simp at this; omega)
                      have HVN : Hid (∀ b, (Value.slice va l.length vcap).ownBlock = some b → w.heap.size ≤ b) := Lib.hid (fun b hb => by have := hvn b hb; simp at this; omega)
                      clear hv hbx hvn)
                   | (go_at_call 107; refine (reverse_calls _ _ _ HV.out hbl).mono ?_; rintro e w2 ⟨⟨u, rfl⟩, hv2, hf3⟩
                      have HV2 := Lib.hid (show SlF w2 57 6 kvC (.slice va l.reverse.length vcap) l.reverse by rw [List.length_reverse]; exact hv2)
                      have hf4 : Fr No w w2 := hf2.trans hf3 fun b hb h => by have := HVN.out b h; omega
                      have nb : ¬ (Value.slice va l.length vcap).ownBlock = some w.heap.size := fun h => HVX.out h
                      have y3 := hf3.cell y3 nb
                      have y4 := hf3.cell y4 nb
                      have y5 := hf3.cell y5 nb
                      have y6 := hf3.cell y6 nb
                      have hl2 : w.heap.size < w2.heap.size := Nat.lt_of_lt_of_le hl1 hf3.size
                      clear hv2))
      go_loopg [50] l.length (fun g s50 wr => ∃ i : Nat, s50 = .int .i64 i ∧ i + g = l.length ∧ w2 = wr)
      case atStart => exact ⟨0, rfl, by omega, rfl⟩
      case round =>
        obtain ⟨i, rfl, hi, rfl⟩ := hrel
        cases gk with
        | zero =>
          have hil : ¬ (i : Int) < ((l.length : Nat) : Int) := by omega
          go_wp2
          go_ret3
          exact ⟨_, rfl, by simpa using HV2.out, hf4, HVN.out⟩
        | succ g =>
          have hil : (i : Int) < ((l.length : Nat) : Int) := by omega
          go_wp2
          go_roundg g
          case rel => exact ⟨i + 1, by go_num, by omega, rfl⟩
          case measure => omega
    · obtain ⟨k, rfl⟩ : ∃ k : Nat, g4 = k := ⟨g4.toNat, by omega⟩
      have hk1 : k ≤ l.length := by omega
      have hd1 : decide (0 < (k : Int)) = true := by simpa using h1
      have hd2 : decide ((k : Int) < (l.length : Int)) = true := by simpa using h2
      rw [hd1, hd2]
      simp only [Bool.not_false, Bool.true_and, if_true, if_false, Bool.false_eq_true, Int.toNat_natCast]
      go_enter Try.func66, Try.ntmps66
      go_wp2_with (first
                   | (go_at_call 77; refine (HB.out _ (HS.out.fr0 hT ((Fr.refl No w).alloc _))).mono ?_; rintro e w1 ⟨v, rfl, hv, hf1, hvn⟩; obtain ⟨va, vcap, rfl, hc1, hc2, hva⟩ := hv.shape
                      have hf2 : Fr No w w1 := ((Fr.refl No w).alloc _).trans0 hf1
                      have hbx := hf1.heap (alloc_at w (Obj.cells #[.string g1, .string g2, .int .i64 0, .int .i64 k, .bool false, .bool false, .bool true] 38) _ rfl) id
                      have y3 : w1.cell? ⟨w.heap.size, 3, none⟩ = some (.int .i64 k) := by simp [World.cell?, hbx]
                      have y4 : w1.cell? ⟨w.heap.size, 4, none⟩ = some (.bool false) := by simp [World.cell?, hbx]
                      have y5 : w1.cell? ⟨w.heap.size, 5, none⟩ = some (.bool false) := by simp [World.cell?, hbx]
                      have y6 : w1.cell? ⟨w.heap.size, 6, none⟩ = some (.bool true) := by simp [World.cell?, hbx]
                      have hl1 : w.heap.size < w1.heap.size := heap_lt hbx
                      have HV := Lib.hid hv
                      have HVX : Hid (¬ (Value.slice va l.length vcap).ownBlock = some w.heap.size) := Lib.hid (fun h => by have := hvn _ h; simp at this; omega)
                      have HVN : Hid (∀ b, (Value.slice va l.length vcap).ownBlock = some b → w.heap.size ≤ b) := Lib.hid (fun b hb => by have := hvn b hb; simp at this; omega)
                      have hk3 : (k : Int) ≤ (vcap : Int) := by omega
                      have hk4 : k ≤ vcap := by omega
                      clear hv hbx hvn)
                   | (go_at_call 107; refine (reverse_calls _ _ _ HV.out hbl).mono ?_; rintro e w2 ⟨⟨u, rfl⟩, hv2, hf3⟩
                      have HV2 := Lib.hid (show SlF w2 57 6 kvC (.slice va l.reverse.length vcap) l.reverse by rw [List.length_reverse]; exact hv2)
                      have hf4 : Fr No w w2 := hf2.trans hf3 fun b hb h => by have := HVN.out b h; omega
                      have nb : ¬ (Value.slice va l.length vcap).ownBlock = some w.heap.size := fun h => HVX.out h
                      have y3 := hf3.cell y3 nb
                      have y4 := hf3.cell y4 nb
                      have y5 := hf3.cell y5 nb
                      have y6 := hf3.cell y6 nb
                      have hl2 : w.heap.size < w2.heap.size := Nat.lt_of_lt_of_le hl1 hf3.size
                      clear hv2))
      go_loopg [50] k (fun g s50 wr => ∃ i : Nat, s50 = .int .i64 i ∧ i + g = k ∧ w2 = wr)
      case atStart => exact ⟨0, rfl, by omega, rfl⟩
      case round =>
        obtain ⟨i, rfl, hi, rfl⟩ := hrel
        cases gk with
        | zero =>
          have hil : ¬ (i : Int) < ((k : Nat) : Int) := by omega
          go_wp2
          go_ret3
          exact ⟨_, rfl, HV2.out.take kvC_length k (by simpa using hk1), hf4, fun b hb => HVN.out b (by cases va <;> exact hb)⟩
        | succ g =>
          have hil : (i : Int) < ((k : Nat) : Int) := by omega
          go_wp2
          go_roundg g
          case rel => exact ⟨i + 1, by go_num, by omega, rfl⟩
          case measure => omega
  · skip
    rcases hcase with rfl | ⟨rfl, h1⟩ | ⟨rfl, h1, h2⟩ | ⟨rfl, h1, h2⟩
    · simp only [Bool.not_true, Bool.false_and, if_true]
      go_enter Try.func66, Try.ntmps66
      go_wp2_with (go_at_call 77; refine (HB.out _ (HS.out.fr0 hT ((Fr.refl No w).alloc _))).mono ?_; rintro e w1 ⟨v, rfl, hv, hf1, hvn⟩; obtain ⟨va, vcap, rfl, hc1, hc2, hva⟩ := hv.shape
                   have hf2 : Fr No w w1 := ((Fr.refl No w).alloc _).trans0 hf1
                   have hbx := hf1.heap (alloc_at w (Obj.cells #[.string g1, .string g2, .int .i64 rv, .int .i64 g4, .bool false, .bool true, .bool true] 38) _ rfl) id
                   have y3 : w1.cell? ⟨w.heap.size, 3, none⟩ = some (.int .i64 g4) := by simp [World.cell?, hbx]
                   have y4 : w1.cell? ⟨w.heap.size, 4, none⟩ = some (.bool false) := by simp [World.cell?, hbx]
                   have y5 : w1.cell? ⟨w.heap.size, 5, none⟩ = some (.bool true) := by simp [World.cell?, hbx]
                   have y6 : w1.cell? ⟨w.heap.size, 6, none⟩ = some (.bool true) := by simp [World.cell?, hbx]
                   have hl1 : w.heap.size < w1.heap.size := heap_lt hbx
                   have HV := Lib.hid hv
                   have HVN : Hid (∀ b, (Value.slice va l.length vcap).ownBlock = some b → w.heap.size ≤ b) := Lib.hid (fun b hb => by have := hvn b hb; simp at this; omega)
                   clear hv hbx hvn)
      go_ret3
      exact ⟨_, rfl, SlF.nil _ _ _ _, hf2, by simp [Value.ownBlock]⟩
    · have hd : decide (0 < g4) = false := by simpa using h1
      rw [hd]
      simp only [Bool.not_false, Bool.true_and, Bool.false_and, if_false, Bool.false_eq_true]
      go_enter Try.func66, Try.ntmps66
      go_wp2_with (first
                   | (go_at_call 77; refine (HB.out _ (HS.out.fr0 hT ((Fr.refl No w).alloc _))).mono ?_; rintro e w1 ⟨v, rfl, hv, hf1, hvn⟩; obtain ⟨va, vcap, rfl, hc1, hc2, hva⟩ := hv.shape
                      have hf2 : Fr No w w1 := ((Fr.refl No w).alloc _).trans0 hf1
                      have hbx := hf1.heap (alloc_at w (Obj.cells #[.string g1, .string g2, .int .i64 rv, .int .i64 g4, .bool false, .bool false, .bool true] 38) _ rfl) id
                      have y3 : w1.cell? ⟨w.heap.size, 3, none⟩ = some (.int .i64 g4) := by simp [World.cell?, hbx]
                      have y4 : w1.cell? ⟨w.heap.size, 4, none⟩ = some (.bool false) := by simp [World.cell?, hbx]
                      have y5 : w1.cell? ⟨w.heap.size, 5, none⟩ = some (.bool false) := by simp [World.cell?, hbx]
                      have y6 : w1.cell? ⟨w.heap.size, 6, none⟩ = some (.bool true) := by simp [World.cell?, hbx]
                      have hl1 : w.heap.size < w1.heap.size := heap_lt hbx
                      have HV := Lib.hid hv
                      have HVX : Hid (¬ (Value.slice va l.length vcap).ownBlock = some w.heap.size) := Lib.hid (fun h => by have := hvn _ h; simp at this; omega)
                      have HVN : Hid (∀ b, (Value.slice va l.length vcap).ownBlock = some b → w.heap.size ≤ b) := Lib.hid (fun b hb => by have := hvn b hb; simp at this; omega)
                      clear hv hbx hvn)
                   | (go_at_call 107; refine (reverse_calls _ _ _ HV.out hbl).mono ?_; rintro e w2 ⟨⟨u, rfl⟩, hv2, hf3⟩
                      have HV2 := Lib.hid (show SlF w2 57 6 kvC (.slice va l.reverse.length vcap) l.reverse by rw [List.length_reverse]; exact hv2)
                      have hf4 : Fr No w w2 := hf2.trans hf3 fun b hb h => by have := HVN.out b h; omega
                      have nb : ¬ (Value.slice va l.length vcap).ownBlock = some w.heap.size := fun h => HVX.out h
                      have y3 := hf3.cell y3 nb
                      have y4 := hf3.cell y4 nb
                      have y5 := hf3.cell y5 nb
                      have y6 := hf3.cell y6 nb
                      have hl2 : w.heap.size < w2.heap.size := Nat.lt_of_lt_of_le hl1 hf3.size
                      clear hv2))
      go_loopg [50] l.length (fun g s50 wr => ∃ i : Nat, s50 = .int .i64 i ∧ i + g = l.length ∧ w2 = wr)
      case atStart => exact ⟨0, rfl, by omega, rfl⟩
      case round =>
        obtain ⟨i, rfl, hi, rfl⟩ := hrel
        cases gk with
        | zero =>
          have hil : ¬ (i : Int) < ((l.length : Nat) : Int) := by omega
          go_wp2
          go_ret3
          exact ⟨_, rfl, by simpa using HV2.out, hf4, HVN.out⟩
        | succ g =>
          have hil : (i : Int) < ((l.length : Nat) : Int) := by omega
          go_wp2
          go_roundg g
          case rel => exact ⟨i + 1, by go_num, by omega, rfl⟩
          case measure => omega
    · have hd : decide (g4 < (l.length : Int)) = false := by simpa using h2
      rw [hd]
      simp only [Bool.and_false, if_false, Bool.false_eq_true]
      go_enter Try.func66, Try.ntmps66
      go_wp2_with (first
                   | (go_at_call 77; refine (HB.out _ (HS.out.fr0 hT ((Fr.refl No w).alloc _))).mono ?_; rintro e w1 ⟨v, rfl, hv, hf1, hvn⟩; obtain ⟨va, vcap, rfl, hc1, hc2, hva⟩ := hv.shape
                      have hf2 : Fr No w w1 := ((Fr.refl No w).alloc _).trans0 hf1
                      have hbx := hf1.heap (alloc_at w (Obj.cells #[.string g1, .string g2, .int .i64 rv, .int .i64 g4, .bool false, .bool false, .bool true] 38) _ rfl) id
                      have y3 : w1.cell? ⟨w.heap.size, 3, none⟩ = some (.int .i64 g4) := by simp [World.cell?, hbx]
                      have y4 : w1.cell? ⟨w.heap.size, 4, none⟩ = some (.bool false) := by simp [World.cell?, hbx]
                      have y5 : w1.cell? ⟨w.heap.size, 5, none⟩ = some (.bool false) := by simp [World.cell?, hbx]
                      have y6 : w1.cell? ⟨w.heap.size, 6, none⟩ = some (.bool true) := by simp [World.cell?, hbx]
                      have hl1 : w.heap.size < w1.heap.size := heap_lt hbx
                      have HV := Lib.hid hv
                      have HVX : Hid (¬ (Value.slice va l.length vcap).ownBlock = some w.heap.size) := Lib.hid (fun h => by have := hvn _ h; simp at this; omega)
                      have HVN : Hid (∀ b, (Value.slice va l.length vcap).ownBlock = some b → w.heap.size ≤ b) := Lib.hid (fun b hb => by have := hvn b hb; simp at this; omega)
                      clear hv hbx hvn)
                   | (go_at_call 107; refine (reverse_calls _ _ _ HV.out hbl).mono ?_; rintro e w2 ⟨⟨u, rfl⟩, hv2, hf3⟩
                      have HV2 := Lib.hid (show SlF w2 57 6 kvC (.slice va l.reverse.length vcap) l.reverse by rw [List.length_reverse]; exact hv2)
                      have hf4 : Fr No w w2 := hf2.trans hf3 fun b hb h => by have := HVN.out b h; omega
                      have nb : ¬ (Value.slice va l.length vcap).ownBlock = some w.heap.size := fun h => HVX.out h
                      have y3 := hf3.cell y3 nb
                      have y4 := hf3.cell y4 nb
                      have y5 := hf3.cell y5 nb
                      have y6 := hf3.cell y6 nb
                      have hl2 : w.heap.size < w2.heap.size := Nat.lt_of_lt_of_le hl1 hf3.size
                      clear hv2))
      go_loopg [50] l.length (fun g s50 wr => ∃ i : Nat, s50 = .int .i64 i ∧ i + g = l.length ∧ w2 = wr)
      case atStart => exact ⟨0, rfl, by omega, rfl⟩
      case round =>
        obtain ⟨i, rfl, hi, rfl⟩ := hrel
        cases gk with
        | zero =>
          have hil : ¬ (i : Int) < ((l.length : Nat) : Int) := by omega
          go_wp2
          go_ret3
          exact ⟨_, rfl, by simpa using HV2.out, hf4, HVN.out⟩
        | succ g =>
          have hil : (i : Int) < ((l.length : Nat) : Int) := by omega
          go_wp2
          go_roundg g
          case rel => exact ⟨i + 1, by go_num, by omega, rfl⟩
          case measure => omega
    · obtain ⟨k, rfl⟩ : ∃ k : Nat, g4 = k := ⟨g4.toNat, by omega⟩
      have hk1 : k ≤ l.length := by omega
      have hd1 : decide (0 < (k : Int)) = true := by simpa using h1
      have hd2 : decide ((k : Int) < (l.length : Int)) = true := by simpa using h2
      rw [hd1, hd2]
      simp only [Bool.not_false, Bool.true_and, if_true, if_false, Bool.false_eq_true, Int.toNat_natCast]
      go_enter Try.func66, Try.ntmps66
      go_wp2_with (first
                   | (go_at_call 77; refine (HB.out _ (HS.out.fr0 hT ((Fr.refl No w).alloc _))).mono ?_; rintro e w1 ⟨v, rfl, hv, hf1, hvn⟩; obtain ⟨va, vcap, rfl, hc1, hc2, hva⟩ := hv.shape
                      have hf2 : Fr No w w1 := ((Fr.refl No w).alloc _).trans0 hf1
                      have hbx := hf1.heap (alloc_at w (Obj.cells #[.string g1, .string g2, .int .i64 rv, .int .i64 k, .bool false, .bool false, .bool true] 38) _ rfl) id
                      have y3 : w1.cell? ⟨w.heap.size, 3, none⟩ = some (.int .i64 k) := by simp [World.cell?, hbx]
                      have y4 : w1.cell? ⟨w.heap.size, 4, none⟩ = some (.bool false) := by simp [World.cell?, hbx]
                      have y5 : w1.cell? ⟨w.heap.size, 5, none⟩ = some (.bool false) := by simp [World.cell?, hbx]
                      have y6 : w1.cell? ⟨w.heap.size, 6, none⟩ = some (.bool true) := by simp [World.cell?, hbx]
                      have hl1 : w.heap.size < w1.heap.size := heap_lt hbx
                      have HV := Lib.hid hv
                      have HVX : Hid (¬ (Value.slice va l.length vcap).ownBlock = some w.heap.size) := Lib.hid (fun h => by have := hvn _ h; simp at this; omega)
                      have HVN : Hid (∀ b, (Value.slice va l.length vcap).ownBlock = some b → w.heap.size ≤ b) := Lib.hid (fun b hb => by have := hvn b hb; simp at this; omega)
                      have hk3 : (k : Int) ≤ (vcap : Int) := by omega
                      have hk4 : k ≤ vcap := by omega
                      clear hv hbx hvn)
                   | (go_at_call 107; refine (reverse_calls _ _ _ HV.out hbl).mono ?_; rintro e w2 ⟨⟨u, rfl⟩, hv2, hf3⟩
                      have HV2 := Lib.hid (show SlF w2 57 6 kvC (.slice va l.reverse.length vcap) l.reverse by rw [List.length_reverse]; exact hv2)
                      have hf4 : Fr No w w2 := hf2.trans hf3 fun b hb h => by have := HVN.out b h; omega
                      have nb : ¬ (Value.slice va l.length vcap).ownBlock = some w.heap.size := fun h => HVX.out h
                      have y3 := hf3.cell y3 nb
                      have y4 := hf3.cell y4 nb
                      have y5 := hf3.cell y5 nb
                      have y6 := hf3.cell y6 nb
                      have hl2 : w.heap.size < w2.heap.size := Nat.lt_of_lt_of_le hl1 hf3.size
                      clear hv2))
      go_loopg [50] k (fun g s50 wr => ∃ i : Nat, s50 = .int .i64 i ∧ i + g = k ∧ w2 = wr)
      case atStart => exact ⟨0, rfl, by omega, rfl⟩
      case round =>
        obtain ⟨i, rfl, hi, rfl⟩ := hrel
        cases gk with
        | zero =>
          have hil : ¬ (i : Int) < ((k : Nat) : Int) := by omega
          go_wp2
          go_ret3
          exact ⟨_, rfl, HV2.out.take kvC_length k (by simpa using hk1), hf4, fun b hb => HVN.out b (by cases va <;> exact hb)⟩
        | succ g =>
          have hil : (i : Int) < ((k : Nat) : Int) := by omega
          go_wp2
          go_roundg g
          case rel => exact ⟨i + 1, by go_num, by omega, rfl⟩
          case measure => omega
end Go.Proofs.Ythljnnjpmdgkoaa
