/- The store's get, where Keys is asked: what a range answers, without the values. The condition: histories are small (HistOk). -/
import Derived.Test.YthljnnjpmdgkoaaG08
import Derived.Test.YthljnnjpmdgkoaaG10
namespace Go.Proofs.Ythljnnjpmdgkoaa
open Go Go.Proofs Go.RowKit
set_option maxRecDepth 100000

/-- A key without its value. -/
def bareK (x : Kv) : Kv := { x with value := ByteArray.empty }
def bareTo (i : Nat) (L : List Kv) : List Kv := (L.take i).map bareK ++ L.drop i
theorem bareTo_zero (L : List Kv) : bareTo 0 L = L := by simp [bareTo]
theorem bareTo_all (L : List Kv) {i : Nat} (h : L.length ≤ i) : bareTo i L = L.map bareK := by
  unfold bareTo
  rw [List.take_of_length_le h, List.drop_eq_nil_of_le h, List.append_nil]
theorem bareTo_length (i : Nat) (L : List Kv) : (bareTo i L).length = L.length := by
  unfold bareTo
  simp; omega
theorem bareTo_get {i : Nat} {L : List Kv} {x : Kv} (h : L[i]? = some x) : (bareTo i L)[i]? = some x := by
  have hi := (List.getElem?_eq_some_iff.1 h).1
  unfold bareTo
  rw [List.getElem?_append_right (by simp; omega)]
  simp only [List.length_map, List.length_take, List.getElem?_drop]
  rw [Nat.min_eq_left (by omega), show i + (i - i) = i by omega]
  exact h
theorem bareTo_step {i : Nat} {L : List Kv} {x : Kv} (h : L[i]? = some x) : (bareTo i L).set i (bareK x) = bareTo (i + 1) L := by
  have hi := (List.getElem?_eq_some_iff.1 h).1
  unfold bareTo
  rw [List.take_add_one, h, List.map_append, List.drop_eq_getElem_cons hi, List.set_append_right _ _ (by simp; omega)]
  have : i - ((L.take i).map bareK).length = 0 := by simp; omega
  rw [this, List.set_cons_zero]
  simp

theorem bareTo_set {w : World} {g o cap : Nat} {L : List Kv} {K i : Nat} {x : Kv} (h : SlF w 57 6 kvC (.slice (some ⟨g, o, none⟩) K cap) (bareTo i L)) (hK : L.length = K) (hx : L[i]? = some x) :
    SlF (w.setCell ⟨g, o + i * 6 + 1, none⟩ (.string ByteArray.empty)) 57 6 kvC (.slice (some ⟨g, o, none⟩) K cap) (bareTo (i + 1) L) := by
  subst hK
  rw [← bareTo_length i L] at h
  have h2 := h.set kvC_length i 1 (by omega) x (bareK x) (.string ByteArray.empty) (bareTo_get hx) rfl
  rw [bareTo_step hx, bareTo_length] at h2
  exact h2


set_option maxHeartbeats 4000000 in
theorem getKeys_calls {TA : TreeRel} {N : Nat} (hT : TreeOk TA N) {n : Nat} (hn : n ≤ 1099511627) (w : World) (s : Nat) (S : St) (F : Nat → Prop) (hS : StoreAt TA w s S F) (hok : StOk n S) (hN : S.T.length ≤ 1099511627) (g : Rg) (rev : Int)
    (hks : g.key.size ≤ 1099511627776) (hdesc : g.desc = false) (hkeys : g.keys = true) :
    Calls Try.prog 66 #[.pointer (some ⟨s, 0, none⟩), rgV g, .int .i64 rev] w fun e w' => ∃ v, e = .returned (.tuple #[v, .int .i64 (allL S g rev).length, .bool (moreB S g rev)]) ∧ SlF w' 57 6 kvC v (getL S g rev) ∧ Fr No w w' ∧ (∀ b, v.ownBlock = some b → w.heap.size ≤ b) := by
  have hbl : (allL S g rev).length ≤ 1099511627 := Nat.le_trans (List.length_filterMap_le _ _) (Nat.le_trans (List.length_filter_le _ _) hN)
  have hb := fun W hW => between_calls hT hn W s S F hW hok hN g.key g.end_ (revOf g rev) hks
  obtain ⟨g1, g2, g3, g4, g5, g6, g7⟩ := g
  dsimp only at hdesc hkeys hb
  subst hdesc hkeys
  have hal : betweenS S g1 g2 (revOf ⟨g1, g2, g3, g4, true, g6, false⟩ rev) = allL S ⟨g1, g2, g3, g4, true, g6, false⟩ rev := rfl
  rw [hal] at hb
  have hgl : getL S ⟨g1, g2, g3, g4, true, g6, false⟩ rev = if g6 then [] else (cutL ⟨g1, g2, g3, g4, true, g6, false⟩ (moreB S ⟨g1, g2, g3, g4, true, g6, false⟩ rev) (allL S ⟨g1, g2, g3, g4, true, g6, false⟩ rev)).map bareK := by unfold getL; rfl
  have hmo : moreB S ⟨g1, g2, g3, g4, true, g6, false⟩ rev = (!g6 && decide (0 < g4) && decide (g4 < (allL S ⟨g1, g2, g3, g4, true, g6, false⟩ rev).length)) := rfl
  rw [hgl, hmo]
  unfold rgV cutL
  dsimp only
  generalize allL S ⟨g1, g2, g3, g4, true, g6, false⟩ rev = l at *
  have hrv : (g3 = 0 ∧ revOf ⟨g1, g2, g3, g4, true, g6, false⟩ rev = rev) ∨ ((g3 == 0) = false ∧ revOf ⟨g1, g2, g3, g4, true, g6, false⟩ rev = g3) := by
    unfold revOf
    by_cases h : g3 = 0
    · exact .inl ⟨h, by simp [h]⟩
    · exact .inr ⟨by simpa using h, by simp [h]⟩
  generalize revOf ⟨g1, g2, g3, g4, true, g6, false⟩ rev = rv at *
  have HB := Lib.hid hb
  have HS := Lib.hid hS
  clear hb hgl hmo hal hS
  have hcase : (g6 = true) ∨ (g6 = false ∧ ¬ 0 < g4) ∨ (g6 = false ∧ 0 < g4 ∧ ¬ g4 < (l.length : Int)) ∨ (g6 = false ∧ 0 < g4 ∧ g4 < (l.length : Int)) := by
    cases g6 <;> simp <;> omega
  rcases hrv with ⟨hr1, rfl⟩ | ⟨hr1, rfl⟩
  all_goals
    first | subst hr1 | skip
    rcases hcase with rfl | ⟨rfl, h1⟩ | ⟨rfl, h1, h2⟩ | ⟨rfl, h1, h2⟩
    · simp only [Bool.not_true, Bool.false_and, if_true]
      go_enter Try.func66, Try.ntmps66
      go_wp2_with (go_at_call 77; refine (HB.out _ (HS.out.fr0 hT ((Fr.refl No w).alloc _))).mono ?_; rintro e w1 ⟨v, rfl, hv, hf1, hvn⟩; obtain ⟨va, vcap, rfl, hc1, hc2, hva⟩ := hv.shape
                   have hf2 : Fr No w w1 := ((Fr.refl No w).alloc _).trans0 hf1
                   have hbx := hf1.heap (alloc_at w _ w.heap.size rfl) id
                   have y3 : w1.cell? ⟨w.heap.size, 3, none⟩ = some (.int .i64 g4) := by simp [World.cell?, hbx]
                   have y4 : w1.cell? ⟨w.heap.size, 4, none⟩ = some (.bool true) := by simp [World.cell?, hbx]
                   have y5 : w1.cell? ⟨w.heap.size, 5, none⟩ = some (.bool true) := by simp [World.cell?, hbx]
                   have y6 : w1.cell? ⟨w.heap.size, 6, none⟩ = some (.bool false) := by simp [World.cell?, hbx]
                   have hl1 : w.heap.size < w1.heap.size := heap_lt hbx
                   have HV := Lib.hid hv
                   have HVA := Lib.hid hva
                   have HVX : Hid (¬ (Value.slice va l.length vcap).ownBlock = some w.heap.size) := Lib.hid (fun h => by have := hvn _ h; simp at this; omega)
                   have HVN : Hid (∀ b, (Value.slice va l.length vcap).ownBlock = some b → w.heap.size ≤ b) := Lib.hid (fun b hb => by have := hvn b hb; simp at this; omega)
                   clear hv hbx hvn hva)
      go_ret3
      exact ⟨_, rfl, SlF.nil _ _ _ _, hf2, by simp [Value.ownBlock]⟩
    · have hd : decide (0 < g4) = false := by simpa using h1
      rw [hd]
      simp only [Bool.not_false, Bool.true_and, Bool.false_and, if_false, Bool.false_eq_true]
      go_enter Try.func66, Try.ntmps66
      go_wp2_with (go_at_call 77; refine (HB.out _ (HS.out.fr0 hT ((Fr.refl No w).alloc _))).mono ?_; rintro e w1 ⟨v, rfl, hv, hf1, hvn⟩; obtain ⟨va, vcap, rfl, hc1, hc2, hva⟩ := hv.shape
                   have hf2 : Fr No w w1 := ((Fr.refl No w).alloc _).trans0 hf1
                   have hbx := hf1.heap (alloc_at w _ w.heap.size rfl) id
                   have y3 : w1.cell? ⟨w.heap.size, 3, none⟩ = some (.int .i64 g4) := by simp [World.cell?, hbx]
                   have y4 : w1.cell? ⟨w.heap.size, 4, none⟩ = some (.bool true) := by simp [World.cell?, hbx]
                   have y5 : w1.cell? ⟨w.heap.size, 5, none⟩ = some (.bool false) := by simp [World.cell?, hbx]
                   have y6 : w1.cell? ⟨w.heap.size, 6, none⟩ = some (.bool false) := by simp [World.cell?, hbx]
                   have hl1 : w.heap.size < w1.heap.size := heap_lt hbx
                   have HV := Lib.hid hv
                   have HVA := Lib.hid hva
                   have HVX : Hid (¬ (Value.slice va l.length vcap).ownBlock = some w.heap.size) := Lib.hid (fun h => by have := hvn _ h; simp at this; omega)
                   have HVN : Hid (∀ b, (Value.slice va l.length vcap).ownBlock = some b → w.heap.size ≤ b) := Lib.hid (fun b hb => by have := hvn b hb; simp at this; omega)
                   clear hv hbx hvn hva)
      have hLK : l.length = l.length := by simp
      have hsl : SlF w1 57 6 kvC (.slice va l.length vcap) l := by have := HV.out; simpa using this
      have hbo : ∀ b, (Value.slice va l.length vcap).ownBlock = some b → w.heap.size ≤ b := fun b hb => HVN.out b (by cases va <;> exact hb)
      have hbx' : ¬ (Value.slice va l.length vcap).ownBlock = some w.heap.size := fun h => HVX.out (by cases va <;> exact h)
      have HSL := Lib.hid hsl
      have HBO := Lib.hid hbo
      have HBX := Lib.hid hbx'
      have HLK := Lib.hid hLK
      have HF := Lib.hid hf2
      have HY := Lib.hid y4
      have lw := World.block_lt_of_cell? _ _ y4
      clear hsl hbo hbx' hLK y3 y4 y5 y6 HV
      go_loopg [50] l.length (fun g s50 wr => ∃ i : Nat, s50 = .int .i64 i ∧ i + g = l.length ∧ Hid (SlF wr 57 6 kvC (.slice va l.length vcap) (bareTo i l)) ∧ Hid (Fr No w wr) ∧ Hid (wr.cell? ⟨w.heap.size, 4, none⟩ = some (.bool true)))
      case atStart => exact ⟨0, rfl, by omega, Lib.hid (by rw [bareTo_zero]; exact HSL.out), HF, HY⟩
      case round =>
        obtain ⟨i, rfl, hi, HI, HFI, HYI⟩ := hrel
        cases gk with
        | zero =>
          have hil : ¬ (i : Int) < ((l.length : Nat) : Int) := by omega
          go_wp2
          go_ret3
          have hlk := HLK.out
          have hfin : SlF wr 57 6 kvC (.slice va l.length vcap) (l.map bareK) := by have := HI.out; rw [bareTo_all l (by omega)] at this; exact this
          exact ⟨.slice va l.length vcap, rfl, hfin, HFI.out, HBO.out⟩
        | succ g =>
          have hil : (i : Int) < ((l.length : Nat) : Int) := by omega
          have hlk := HLK.out
          obtain ⟨x, hx⟩ : ∃ x, l[i]? = some x := ⟨_, List.getElem?_eq_getElem (by omega)⟩
          obtain ⟨gb, go, rfl⟩ := HVA.out (by omega)
          have yr := HYI.out
          have lr := World.block_lt_of_cell? _ _ yr
          have hset := bareTo_set HI.out hlk hx
          have z1 : wr.cell? ⟨gb, go + i * 6 + 1, none⟩ = some (.string x.value) := by
            have h := HI.out
            rw [← hlk, ← bareTo_length i l] at h
            exact h.cell kvC_length i 1 (bareTo_get hx) rfl
          have zf : wr.frozen? ⟨gb, go + i * 6 + 1, none⟩ = false := by
            have h := HI.out
            rw [← hlk, ← bareTo_length i l] at h
            exact h.free _
          have lgb := World.block_lt_of_cell? _ _ z1
          have HSET := Lib.hid hset
          have HX := Lib.hid hx
          clear hset hx
          go_wp2
          go_roundg g
          case rel =>
            have hfs : Fr (fun b => b = gb) wr (wr.setCell ⟨gb, go + i * 6 + 1, none⟩ (.string ByteArray.empty)) := (Fr.refl _ wr).setAt _ _
            have hgb := HBO.out gb rfl
            have hne : ¬ w.heap.size = gb := fun e => HBX.out (by rw [e]; rfl)
            exact ⟨i + 1, by go_num, by omega, HSET, Lib.hid (HFI.out.trans hfs fun b hb e => by have e' : b = gb := e; omega), Lib.hid (hfs.cell HYI.out hne)⟩
          case measure => omega
    · have hd : decide (g4 < (l.length : Int)) = false := by simpa using h2
      rw [hd]
      simp only [Bool.and_false, if_false, Bool.false_eq_true]
      go_enter Try.func66, Try.ntmps66
      go_wp2_with (go_at_call 77; refine (HB.out _ (HS.out.fr0 hT ((Fr.refl No w).alloc _))).mono ?_; rintro e w1 ⟨v, rfl, hv, hf1, hvn⟩; obtain ⟨va, vcap, rfl, hc1, hc2, hva⟩ := hv.shape
                   have hf2 : Fr No w w1 := ((Fr.refl No w).alloc _).trans0 hf1
                   have hbx := hf1.heap (alloc_at w _ w.heap.size rfl) id
                   have y3 : w1.cell? ⟨w.heap.size, 3, none⟩ = some (.int .i64 g4) := by simp [World.cell?, hbx]
                   have y4 : w1.cell? ⟨w.heap.size, 4, none⟩ = some (.bool true) := by simp [World.cell?, hbx]
                   have y5 : w1.cell? ⟨w.heap.size, 5, none⟩ = some (.bool false) := by simp [World.cell?, hbx]
                   have y6 : w1.cell? ⟨w.heap.size, 6, none⟩ = some (.bool false) := by simp [World.cell?, hbx]
                   have hl1 : w.heap.size < w1.heap.size := heap_lt hbx
                   have HV := Lib.hid hv
                   have HVA := Lib.hid hva
                   have HVX : Hid (¬ (Value.slice va l.length vcap).ownBlock = some w.heap.size) := Lib.hid (fun h => by have := hvn _ h; simp at this; omega)
                   have HVN : Hid (∀ b, (Value.slice va l.length vcap).ownBlock = some b → w.heap.size ≤ b) := Lib.hid (fun b hb => by have := hvn b hb; simp at this; omega)
                   clear hv hbx hvn hva)
      have hLK : l.length = l.length := by simp
      have hsl : SlF w1 57 6 kvC (.slice va l.length vcap) l := by have := HV.out; simpa using this
      have hbo : ∀ b, (Value.slice va l.length vcap).ownBlock = some b → w.heap.size ≤ b := fun b hb => HVN.out b (by cases va <;> exact hb)
      have hbx' : ¬ (Value.slice va l.length vcap).ownBlock = some w.heap.size := fun h => HVX.out (by cases va <;> exact h)
      have HSL := Lib.hid hsl
      have HBO := Lib.hid hbo
      have HBX := Lib.hid hbx'
      have HLK := Lib.hid hLK
      have HF := Lib.hid hf2
      have HY := Lib.hid y4
      have lw := World.block_lt_of_cell? _ _ y4
      clear hsl hbo hbx' hLK y3 y4 y5 y6 HV
      go_loopg [50] l.length (fun g s50 wr => ∃ i : Nat, s50 = .int .i64 i ∧ i + g = l.length ∧ Hid (SlF wr 57 6 kvC (.slice va l.length vcap) (bareTo i l)) ∧ Hid (Fr No w wr) ∧ Hid (wr.cell? ⟨w.heap.size, 4, none⟩ = some (.bool true)))
      case atStart => exact ⟨0, rfl, by omega, Lib.hid (by rw [bareTo_zero]; exact HSL.out), HF, HY⟩
      case round =>
        obtain ⟨i, rfl, hi, HI, HFI, HYI⟩ := hrel
        cases gk with
        | zero =>
          have hil : ¬ (i : Int) < ((l.length : Nat) : Int) := by omega
          go_wp2
          go_ret3
          have hlk := HLK.out
          have hfin : SlF wr 57 6 kvC (.slice va l.length vcap) (l.map bareK) := by have := HI.out; rw [bareTo_all l (by omega)] at this; exact this
          exact ⟨.slice va l.length vcap, rfl, hfin, HFI.out, HBO.out⟩
        | succ g =>
          have hil : (i : Int) < ((l.length : Nat) : Int) := by omega
          have hlk := HLK.out
          obtain ⟨x, hx⟩ : ∃ x, l[i]? = some x := ⟨_, List.getElem?_eq_getElem (by omega)⟩
          obtain ⟨gb, go, rfl⟩ := HVA.out (by omega)
          have yr := HYI.out
          have lr := World.block_lt_of_cell? _ _ yr
          have hset := bareTo_set HI.out hlk hx
          have z1 : wr.cell? ⟨gb, go + i * 6 + 1, none⟩ = some (.string x.value) := by
            have h := HI.out
            rw [← hlk, ← bareTo_length i l] at h
            exact h.cell kvC_length i 1 (bareTo_get hx) rfl
          have zf : wr.frozen? ⟨gb, go + i * 6 + 1, none⟩ = false := by
            have h := HI.out
            rw [← hlk, ← bareTo_length i l] at h
            exact h.free _
          have lgb := World.block_lt_of_cell? _ _ z1
          have HSET := Lib.hid hset
          have HX := Lib.hid hx
          clear hset hx
          go_wp2
          go_roundg g
          case rel =>
            have hfs : Fr (fun b => b = gb) wr (wr.setCell ⟨gb, go + i * 6 + 1, none⟩ (.string ByteArray.empty)) := (Fr.refl _ wr).setAt _ _
            have hgb := HBO.out gb rfl
            have hne : ¬ w.heap.size = gb := fun e => HBX.out (by rw [e]; rfl)
            exact ⟨i + 1, by go_num, by omega, HSET, Lib.hid (HFI.out.trans hfs fun b hb e => by have e' : b = gb := e; omega), Lib.hid (hfs.cell HYI.out hne)⟩
          case measure => omega
    · obtain ⟨k, rfl⟩ : ∃ k : Nat, g4 = k := ⟨g4.toNat, by omega⟩
      have hk1 : k ≤ l.length := by omega
      have hd1 : decide (0 < (k : Int)) = true := by simpa using h1
      have hd2 : decide ((k : Int) < (l.length : Int)) = true := by simpa using h2
      rw [hd1, hd2]
      simp only [Bool.not_false, Bool.true_and, if_true, if_false, Bool.false_eq_true, Int.toNat_natCast]
      go_enter Try.func66, Try.ntmps66
      go_wp2_with (go_at_call 77; refine (HB.out _ (HS.out.fr0 hT ((Fr.refl No w).alloc _))).mono ?_; rintro e w1 ⟨v, rfl, hv, hf1, hvn⟩; obtain ⟨va, vcap, rfl, hc1, hc2, hva⟩ := hv.shape
                   have hf2 : Fr No w w1 := ((Fr.refl No w).alloc _).trans0 hf1
                   have hbx := hf1.heap (alloc_at w _ w.heap.size rfl) id
                   have y3 : w1.cell? ⟨w.heap.size, 3, none⟩ = some (.int .i64 k) := by simp [World.cell?, hbx]
                   have y4 : w1.cell? ⟨w.heap.size, 4, none⟩ = some (.bool true) := by simp [World.cell?, hbx]
                   have y5 : w1.cell? ⟨w.heap.size, 5, none⟩ = some (.bool false) := by simp [World.cell?, hbx]
                   have y6 : w1.cell? ⟨w.heap.size, 6, none⟩ = some (.bool false) := by simp [World.cell?, hbx]
                   have hl1 : w.heap.size < w1.heap.size := heap_lt hbx
                   have HV := Lib.hid hv
                   have HVA := Lib.hid hva
                   have HVX : Hid (¬ (Value.slice va l.length vcap).ownBlock = some w.heap.size) := Lib.hid (fun h => by have := hvn _ h; simp at this; omega)
                   have HVN : Hid (∀ b, (Value.slice va l.length vcap).ownBlock = some b → w.heap.size ≤ b) := Lib.hid (fun b hb => by have := hvn b hb; simp at this; omega)
                   have hk3 : (k : Int) ≤ (vcap : Int) := by omega
                   have hk4 : k ≤ vcap := by omega
                   clear hv hbx hvn hva)
      have hLK : (l.take k).length = k := by simp; omega
      have hsl : SlF w1 57 6 kvC (.slice va k vcap) (l.take k) := HV.out.take kvC_length k (by simpa using hk1)
      have hbo : ∀ b, (Value.slice va k vcap).ownBlock = some b → w.heap.size ≤ b := fun b hb => HVN.out b (by cases va <;> exact hb)
      have hbx' : ¬ (Value.slice va k vcap).ownBlock = some w.heap.size := fun h => HVX.out (by cases va <;> exact h)
      obtain ⟨L, hLe⟩ : ∃ L, (l.take k) = L := ⟨_, rfl⟩
      rw [hLe] at hsl hLK
      have HLE := Lib.hid hLe
      clear hLe
      have HSL := Lib.hid hsl
      have HBO := Lib.hid hbo
      have HBX := Lib.hid hbx'
      have HLK := Lib.hid hLK
      have HF := Lib.hid hf2
      have HY := Lib.hid y4
      have lw := World.block_lt_of_cell? _ _ y4
      clear hsl hbo hbx' hLK y3 y4 y5 y6 HV
      go_loopg [50] k (fun g s50 wr => ∃ i : Nat, s50 = .int .i64 i ∧ i + g = k ∧ Hid (SlF wr 57 6 kvC (.slice va k vcap) (bareTo i L)) ∧ Hid (Fr No w wr) ∧ Hid (wr.cell? ⟨w.heap.size, 4, none⟩ = some (.bool true)))
      case atStart => exact ⟨0, rfl, by omega, Lib.hid (by rw [bareTo_zero]; exact HSL.out), HF, HY⟩
      case round =>
        obtain ⟨i, rfl, hi, HI, HFI, HYI⟩ := hrel
        cases gk with
        | zero =>
          have hil : ¬ (i : Int) < ((k : Nat) : Int) := by omega
          go_wp2
          go_ret3
          have hlk := HLK.out
          have hfin : SlF wr 57 6 kvC (.slice va k vcap) (L.map bareK) := by have := HI.out; rw [bareTo_all L (by omega)] at this; exact this
          exact ⟨.slice va k vcap, rfl, by have h2 := hfin; rw [← HLE.out] at h2; simpa using h2, HFI.out, HBO.out⟩
        | succ g =>
          have hil : (i : Int) < ((k : Nat) : Int) := by omega
          have hlk := HLK.out
          obtain ⟨x, hx⟩ : ∃ x, L[i]? = some x := ⟨_, List.getElem?_eq_getElem (by omega)⟩
          obtain ⟨gb, go, rfl⟩ := HVA.out (by omega)
          have yr := HYI.out
          have lr := World.block_lt_of_cell? _ _ yr
          have hset := bareTo_set HI.out hlk hx
          have z1 : wr.cell? ⟨gb, go + i * 6 + 1, none⟩ = some (.string x.value) := by
            have h := HI.out
            rw [← hlk, ← bareTo_length i L] at h
            exact h.cell kvC_length i 1 (bareTo_get hx) rfl
          have zf : wr.frozen? ⟨gb, go + i * 6 + 1, none⟩ = false := by
            have h := HI.out
            rw [← hlk, ← bareTo_length i L] at h
            exact h.free _
          have lgb := World.block_lt_of_cell? _ _ z1
          have HSET := Lib.hid hset
          have HX := Lib.hid hx
          clear hset hx
          go_wp2
          go_roundg g
          case rel =>
            have hfs : Fr (fun b => b = gb) wr (wr.setCell ⟨gb, go + i * 6 + 1, none⟩ (.string ByteArray.empty)) := (Fr.refl _ wr).setAt _ _
            have hgb := HBO.out gb rfl
            have hne : ¬ w.heap.size = gb := fun e => HBX.out (by rw [e]; rfl)
            exact ⟨i + 1, by go_num, by omega, HSET, Lib.hid (HFI.out.trans hfs fun b hb e => by have e' : b = gb := e; omega), Lib.hid (hfs.cell HYI.out hne)⟩
          case measure => omega

set_option maxHeartbeats 4000000 in
theorem getKeysDesc_calls {TA : TreeRel} {N : Nat} (hT : TreeOk TA N) {n : Nat} (hn : n ≤ 1099511627) (w : World) (s : Nat) (S : St) (F : Nat → Prop) (hS : StoreAt TA w s S F) (hok : StOk n S) (hN : S.T.length ≤ 1099511627) (g : Rg) (rev : Int)
    (hks : g.key.size ≤ 1099511627776) (hdesc : g.desc = true) (hkeys : g.keys = true) :
    Calls Try.prog 66 #[.pointer (some ⟨s, 0, none⟩), rgV g, .int .i64 rev] w fun e w' => ∃ v, e = .returned (.tuple #[v, .int .i64 (allL S g rev).length, .bool (moreB S g rev)]) ∧ SlF w' 57 6 kvC v (getL S g rev) ∧ Fr No w w' ∧ (∀ b, v.ownBlock = some b → w.heap.size ≤ b) := by
  have hbl : (allL S g rev).length ≤ 1099511627 := Nat.le_trans (List.length_filterMap_le _ _) (Nat.le_trans (List.length_filter_le _ _) hN)
  have hb := fun W hW => between_calls hT hn W s S F hW hok hN g.key g.end_ (revOf g rev) hks
  obtain ⟨g1, g2, g3, g4, g5, g6, g7⟩ := g
  dsimp only at hdesc hkeys hb
  subst hdesc hkeys
  have hal : betweenS S g1 g2 (revOf ⟨g1, g2, g3, g4, true, g6, true⟩ rev) = allL S ⟨g1, g2, g3, g4, true, g6, true⟩ rev := rfl
  rw [hal] at hb
  have hgl : getL S ⟨g1, g2, g3, g4, true, g6, true⟩ rev = if g6 then [] else (cutL ⟨g1, g2, g3, g4, true, g6, true⟩ (moreB S ⟨g1, g2, g3, g4, true, g6, true⟩ rev) (allL S ⟨g1, g2, g3, g4, true, g6, true⟩ rev).reverse).map bareK := by unfold getL; rfl
  have hmo : moreB S ⟨g1, g2, g3, g4, true, g6, true⟩ rev = (!g6 && decide (0 < g4) && decide (g4 < (allL S ⟨g1, g2, g3, g4, true, g6, true⟩ rev).length)) := rfl
  rw [hgl, hmo]
  unfold rgV cutL
  dsimp only
  generalize allL S ⟨g1, g2, g3, g4, true, g6, true⟩ rev = l at *
  have hrv : (g3 = 0 ∧ revOf ⟨g1, g2, g3, g4, true, g6, true⟩ rev = rev) ∨ ((g3 == 0) = false ∧ revOf ⟨g1, g2, g3, g4, true, g6, true⟩ rev = g3) := by
    unfold revOf
    by_cases h : g3 = 0
    · exact .inl ⟨h, by simp [h]⟩
    · exact .inr ⟨by simpa using h, by simp [h]⟩
  generalize revOf ⟨g1, g2, g3, g4, true, g6, true⟩ rev = rv at *
  have HB := Lib.hid hb
  have HS := Lib.hid hS
  clear hb hgl hmo hal hS
  have hcase : (g6 = true) ∨ (g6 = false ∧ ¬ 0 < g4) ∨ (g6 = false ∧ 0 < g4 ∧ ¬ g4 < (l.length : Int)) ∨ (g6 = false ∧ 0 < g4 ∧ g4 < (l.length : Int)) := by
    cases g6 <;> simp <;> omega
  rcases hrv with ⟨hr1, rfl⟩ | ⟨hr1, rfl⟩
  all_goals
    first | subst hr1 | skip
    rcases hcase with rfl | ⟨rfl, h1⟩ | ⟨rfl, h1, h2⟩ | ⟨rfl, h1, h2⟩
    · simp only [Bool.not_true, Bool.false_and, if_true]
      go_enter Try.func66, Try.ntmps66
      go_wp2_with (go_at_call 77; refine (HB.out _ (HS.out.fr0 hT ((Fr.refl No w).alloc _))).mono ?_; rintro e w1 ⟨v, rfl, hv, hf1, hvn⟩; obtain ⟨va, vcap, rfl, hc1, hc2, hva⟩ := hv.shape
                   have hf2 : Fr No w w1 := ((Fr.refl No w).alloc _).trans0 hf1
                   have hbx := hf1.heap (alloc_at w _ w.heap.size rfl) id
                   have y3 : w1.cell? ⟨w.heap.size, 3, none⟩ = some (.int .i64 g4) := by simp [World.cell?, hbx]
                   have y4 : w1.cell? ⟨w.heap.size, 4, none⟩ = some (.bool true) := by simp [World.cell?, hbx]
                   have y5 : w1.cell? ⟨w.heap.size, 5, none⟩ = some (.bool true) := by simp [World.cell?, hbx]
                   have y6 : w1.cell? ⟨w.heap.size, 6, none⟩ = some (.bool true) := by simp [World.cell?, hbx]
                   have hl1 : w.heap.size < w1.heap.size := heap_lt hbx
                   have HV := Lib.hid hv
                   have HVA := Lib.hid hva
                   have HVX : Hid (¬ (Value.slice va l.length vcap).ownBlock = some w.heap.size) := Lib.hid (fun h => by have := hvn _ h; simp at this; omega)
                   have HVN : Hid (∀ b, (Value.slice va l.length vcap).ownBlock = some b → w.heap.size ≤ b) := Lib.hid (fun b hb => by have := hvn b hb; simp at this; omega)
                   clear hv hbx hvn hva)
      go_ret3
      exact ⟨_, rfl, SlF.nil _ _ _ _, hf2, by simp [Value.ownBlock]⟩
    · have hd : decide (0 < g4) = false := by simpa using h1
      rw [hd]
      simp only [Bool.not_false, Bool.true_and, Bool.false_and, if_false, Bool.false_eq_true]
      go_enter Try.func66, Try.ntmps66
      go_wp2_with (first
                   | (go_at_call 77; refine (HB.out _ (HS.out.fr0 hT ((Fr.refl No w).alloc _))).mono ?_; rintro e w1 ⟨v, rfl, hv, hf1, hvn⟩; obtain ⟨va, vcap, rfl, hc1, hc2, hva⟩ := hv.shape
                      have hf2 : Fr No w w1 := ((Fr.refl No w).alloc _).trans0 hf1
                      have hbx := hf1.heap (alloc_at w _ w.heap.size rfl) id
                      have y3 : w1.cell? ⟨w.heap.size, 3, none⟩ = some (.int .i64 g4) := by simp [World.cell?, hbx]
                      have y4 : w1.cell? ⟨w.heap.size, 4, none⟩ = some (.bool true) := by simp [World.cell?, hbx]
                      have y5 : w1.cell? ⟨w.heap.size, 5, none⟩ = some (.bool false) := by simp [World.cell?, hbx]
                      have y6 : w1.cell? ⟨w.heap.size, 6, none⟩ = some (.bool true) := by simp [World.cell?, hbx]
                      have hl1 : w.heap.size < w1.heap.size := heap_lt hbx
                      have HV := Lib.hid hv
                      have HVA := Lib.hid hva
                      have HVX : Hid (¬ (Value.slice va l.length vcap).ownBlock = some w.heap.size) := Lib.hid (fun h => by have := hvn _ h; simp at this; omega)
                      have HVN : Hid (∀ b, (Value.slice va l.length vcap).ownBlock = some b → w.heap.size ≤ b) := Lib.hid (fun b hb => by have := hvn b hb; simp at this; omega)
                      clear hv hbx hvn hva)
                   | (go_at_call 107; refine (reverse_calls _ _ _ HV.out hbl).mono ?_; rintro e w2 ⟨⟨u, rfl⟩, hv2, hf3⟩
                      have HV2 := Lib.hid (show SlF w2 57 6 kvC (.slice va l.reverse.length vcap) l.reverse by rw [List.length_reverse]; exact hv2)
                      have hf4 : Fr No w w2 := hf2.trans hf3 fun b hb h => by have := HVN.out b h; omega
                      have nb : ¬ (Value.slice va l.length vcap).ownBlock = some w.heap.size := fun h => HVX.out h
                      have y3 := hf3.cell y3 nb
                      have y4 := hf3.cell y4 nb
                      have y5 := hf3.cell y5 nb
                      have y6 := hf3.cell y6 nb
                      have hl2 : w.heap.size < w2.heap.size := Nat.lt_of_lt_of_le hl1 hf3.size
                      clear hv2))
      have hLK : l.reverse.length = l.length := by simp
      have hsl : SlF w2 57 6 kvC (.slice va l.length vcap) l.reverse := by have := HV2.out; simpa using this
      have hbo : ∀ b, (Value.slice va l.length vcap).ownBlock = some b → w.heap.size ≤ b := fun b hb => HVN.out b (by cases va <;> exact hb)
      have hbx' : ¬ (Value.slice va l.length vcap).ownBlock = some w.heap.size := fun h => HVX.out (by cases va <;> exact h)
      obtain ⟨L, hLe⟩ : ∃ L, l.reverse = L := ⟨_, rfl⟩
      rw [hLe] at hsl hLK
      have HLE := Lib.hid hLe
      clear hLe
      have HSL := Lib.hid hsl
      have HBO := Lib.hid hbo
      have HBX := Lib.hid hbx'
      have HLK := Lib.hid hLK
      have HF := Lib.hid hf4
      have HY := Lib.hid y4
      have lw := World.block_lt_of_cell? _ _ y4
      clear hsl hbo hbx' hLK y3 y4 y5 y6 HV HV2
      go_loopg [50] l.length (fun g s50 wr => ∃ i : Nat, s50 = .int .i64 i ∧ i + g = l.length ∧ Hid (SlF wr 57 6 kvC (.slice va l.length vcap) (bareTo i L)) ∧ Hid (Fr No w wr) ∧ Hid (wr.cell? ⟨w.heap.size, 4, none⟩ = some (.bool true)))
      case atStart => exact ⟨0, rfl, by omega, Lib.hid (by rw [bareTo_zero]; exact HSL.out), HF, HY⟩
      case round =>
        obtain ⟨i, rfl, hi, HI, HFI, HYI⟩ := hrel
        cases gk with
        | zero =>
          have hil : ¬ (i : Int) < ((l.length : Nat) : Int) := by omega
          go_wp2
          go_ret3
          have hlk := HLK.out
          have hfin : SlF wr 57 6 kvC (.slice va l.length vcap) (L.map bareK) := by have := HI.out; rw [bareTo_all L (by omega)] at this; exact this
          exact ⟨.slice va l.length vcap, rfl, by have h2 := hfin; rw [← HLE.out] at h2; simpa using h2, HFI.out, HBO.out⟩
        | succ g =>
          have hil : (i : Int) < ((l.length : Nat) : Int) := by omega
          have hlk := HLK.out
          obtain ⟨x, hx⟩ : ∃ x, L[i]? = some x := ⟨_, List.getElem?_eq_getElem (by omega)⟩
          obtain ⟨gb, go, rfl⟩ := HVA.out (by omega)
          have yr := HYI.out
          have lr := World.block_lt_of_cell? _ _ yr
          have hset := bareTo_set HI.out hlk hx
          have z1 : wr.cell? ⟨gb, go + i * 6 + 1, none⟩ = some (.string x.value) := by
            have h := HI.out
            rw [← hlk, ← bareTo_length i L] at h
            exact h.cell kvC_length i 1 (bareTo_get hx) rfl
          have zf : wr.frozen? ⟨gb, go + i * 6 + 1, none⟩ = false := by
            have h := HI.out
            rw [← hlk, ← bareTo_length i L] at h
            exact h.free _
          have lgb := World.block_lt_of_cell? _ _ z1
          have HSET := Lib.hid hset
          have HX := Lib.hid hx
          clear hset hx
          go_wp2
          go_roundg g
          case rel =>
            have hfs : Fr (fun b => b = gb) wr (wr.setCell ⟨gb, go + i * 6 + 1, none⟩ (.string ByteArray.empty)) := (Fr.refl _ wr).setAt _ _
            have hgb := HBO.out gb rfl
            have hne : ¬ w.heap.size = gb := fun e => HBX.out (by rw [e]; rfl)
            exact ⟨i + 1, by go_num, by omega, HSET, Lib.hid (HFI.out.trans hfs fun b hb e => by have e' : b = gb := e; omega), Lib.hid (hfs.cell HYI.out hne)⟩
          case measure => omega
    · have hd : decide (g4 < (l.length : Int)) = false := by simpa using h2
      rw [hd]
      simp only [Bool.and_false, if_false, Bool.false_eq_true]
      go_enter Try.func66, Try.ntmps66
      go_wp2_with (first
                   | (go_at_call 77; refine (HB.out _ (HS.out.fr0 hT ((Fr.refl No w).alloc _))).mono ?_; rintro e w1 ⟨v, rfl, hv, hf1, hvn⟩; obtain ⟨va, vcap, rfl, hc1, hc2, hva⟩ := hv.shape
                      have hf2 : Fr No w w1 := ((Fr.refl No w).alloc _).trans0 hf1
                      have hbx := hf1.heap (alloc_at w _ w.heap.size rfl) id
                      have y3 : w1.cell? ⟨w.heap.size, 3, none⟩ = some (.int .i64 g4) := by simp [World.cell?, hbx]
                      have y4 : w1.cell? ⟨w.heap.size, 4, none⟩ = some (.bool true) := by simp [World.cell?, hbx]
                      have y5 : w1.cell? ⟨w.heap.size, 5, none⟩ = some (.bool false) := by simp [World.cell?, hbx]
                      have y6 : w1.cell? ⟨w.heap.size, 6, none⟩ = some (.bool true) := by simp [World.cell?, hbx]
                      have hl1 : w.heap.size < w1.heap.size := heap_lt hbx
                      have HV := Lib.hid hv
                      have HVA := Lib.hid hva
                      have HVX : Hid (¬ (Value.slice va l.length vcap).ownBlock = some w.heap.size) := Lib.hid (fun h => by have := hvn _ h; simp at this; omega)
                      have HVN : Hid (∀ b, (Value.slice va l.length vcap).ownBlock = some b → w.heap.size ≤ b) := Lib.hid (fun b hb => by have := hvn b hb; simp at this; omega)
                      clear hv hbx hvn hva)
                   | (go_at_call 107; refine (reverse_calls _ _ _ HV.out hbl).mono ?_; rintro e w2 ⟨⟨u, rfl⟩, hv2, hf3⟩
                      have HV2 := Lib.hid (show SlF w2 57 6 kvC (.slice va l.reverse.length vcap) l.reverse by rw [List.length_reverse]; exact hv2)
                      have hf4 : Fr No w w2 := hf2.trans hf3 fun b hb h => by have := HVN.out b h; omega
                      have nb : ¬ (Value.slice va l.length vcap).ownBlock = some w.heap.size := fun h => HVX.out h
                      have y3 := hf3.cell y3 nb
                      have y4 := hf3.cell y4 nb
                      have y5 := hf3.cell y5 nb
                      have y6 := hf3.cell y6 nb
                      have hl2 : w.heap.size < w2.heap.size := Nat.lt_of_lt_of_le hl1 hf3.size
                      clear hv2))
      have hLK : l.reverse.length = l.length := by simp
      have hsl : SlF w2 57 6 kvC (.slice va l.length vcap) l.reverse := by have := HV2.out; simpa using this
      have hbo : ∀ b, (Value.slice va l.length vcap).ownBlock = some b → w.heap.size ≤ b := fun b hb => HVN.out b (by cases va <;> exact hb)
      have hbx' : ¬ (Value.slice va l.length vcap).ownBlock = some w.heap.size := fun h => HVX.out (by cases va <;> exact h)
      obtain ⟨L, hLe⟩ : ∃ L, l.reverse = L := ⟨_, rfl⟩
      rw [hLe] at hsl hLK
      have HLE := Lib.hid hLe
      clear hLe
      have HSL := Lib.hid hsl
      have HBO := Lib.hid hbo
      have HBX := Lib.hid hbx'
      have HLK := Lib.hid hLK
      have HF := Lib.hid hf4
      have HY := Lib.hid y4
      have lw := World.block_lt_of_cell? _ _ y4
      clear hsl hbo hbx' hLK y3 y4 y5 y6 HV HV2
      go_loopg [50] l.length (fun g s50 wr => ∃ i : Nat, s50 = .int .i64 i ∧ i + g = l.length ∧ Hid (SlF wr 57 6 kvC (.slice va l.length vcap) (bareTo i L)) ∧ Hid (Fr No w wr) ∧ Hid (wr.cell? ⟨w.heap.size, 4, none⟩ = some (.bool true)))
      case atStart => exact ⟨0, rfl, by omega, Lib.hid (by rw [bareTo_zero]; exact HSL.out), HF, HY⟩
      case round =>
        obtain ⟨i, rfl, hi, HI, HFI, HYI⟩ := hrel
        cases gk with
        | zero =>
          have hil : ¬ (i : Int) < ((l.length : Nat) : Int) := by omega
          go_wp2
          go_ret3
          have hlk := HLK.out
          have hfin : SlF wr 57 6 kvC (.slice va l.length vcap) (L.map bareK) := by have := HI.out; rw [bareTo_all L (by omega)] at this; exact this
          exact ⟨.slice va l.length vcap, rfl, by have h2 := hfin; rw [← HLE.out] at h2; simpa using h2, HFI.out, HBO.out⟩
        | succ g =>
          have hil : (i : Int) < ((l.length : Nat) : Int) := by omega
          have hlk := HLK.out
          obtain ⟨x, hx⟩ : ∃ x, L[i]? = some x := ⟨_, List.getElem?_eq_getElem (by omega)⟩
          obtain ⟨gb, go, rfl⟩ := HVA.out (by omega)
          have yr := HYI.out
          have lr := World.block_lt_of_cell? _ _ yr
          have hset := bareTo_set HI.out hlk hx
          have z1 : wr.cell? ⟨gb, go + i * 6 + 1, none⟩ = some (.string x.value) := by
            have h := HI.out
            rw [← hlk, ← bareTo_length i L] at h
            exact h.cell kvC_length i 1 (bareTo_get hx) rfl
          have zf : wr.frozen? ⟨gb, go + i * 6 + 1, none⟩ = false := by
            have h := HI.out
            rw [← hlk, ← bareTo_length i L] at h
            exact h.free _
          have lgb := World.block_lt_of_cell? _ _ z1
          have HSET := Lib.hid hset
          have HX := Lib.hid hx
          clear hset hx
          go_wp2
          go_roundg g
          case rel =>
            have hfs : Fr (fun b => b = gb) wr (wr.setCell ⟨gb, go + i * 6 + 1, none⟩ (.string ByteArray.empty)) := (Fr.refl _ wr).setAt _ _
            have hgb := HBO.out gb rfl
            have hne : ¬ w.heap.size = gb := fun e => HBX.out (by rw [e]; rfl)
            exact ⟨i + 1, by go_num, by omega, HSET, Lib.hid (HFI.out.trans hfs fun b hb e => by have e' : b = gb := e; omega), Lib.hid (hfs.cell HYI.out hne)⟩
          case measure => omega
    · obtain ⟨k, rfl⟩ : ∃ k : Nat, g4 = k := ⟨g4.toNat, by omega⟩
      have hk1 : k ≤ l.length := by omega
      have hd1 : decide (0 < (k : Int)) = true := by simpa using h1
      have hd2 : decide ((k : Int) < (l.length : Int)) = true := by simpa using h2
      rw [hd1, hd2]
      simp only [Bool.not_false, Bool.true_and, if_true, if_false, Bool.false_eq_true, Int.toNat_natCast]
      go_enter Try.func66, Try.ntmps66
      go_wp2_with (first
                   | (go_at_call 77; refine (HB.out _ (HS.out.fr0 hT ((Fr.refl No w).alloc _))).mono ?_; rintro e w1 ⟨v, rfl, hv, hf1, hvn⟩; obtain ⟨va, vcap, rfl, hc1, hc2, hva⟩ := hv.shape
                      have hf2 : Fr No w w1 := ((Fr.refl No w).alloc _).trans0 hf1
                      have hbx := hf1.heap (alloc_at w _ w.heap.size rfl) id
                      have y3 : w1.cell? ⟨w.heap.size, 3, none⟩ = some (.int .i64 k) := by simp [World.cell?, hbx]
                      have y4 : w1.cell? ⟨w.heap.size, 4, none⟩ = some (.bool true) := by simp [World.cell?, hbx]
                      have y5 : w1.cell? ⟨w.heap.size, 5, none⟩ = some (.bool false) := by simp [World.cell?, hbx]
                      have y6 : w1.cell? ⟨w.heap.size, 6, none⟩ = some (.bool true) := by simp [World.cell?, hbx]
                      have hl1 : w.heap.size < w1.heap.size := heap_lt hbx
                      have HV := Lib.hid hv
                      have HVA := Lib.hid hva
                      have HVX : Hid (¬ (Value.slice va l.length vcap).ownBlock = some w.heap.size) := Lib.hid (fun h => by have := hvn _ h; simp at this; omega)
                      have HVN : Hid (∀ b, (Value.slice va l.length vcap).ownBlock = some b → w.heap.size ≤ b) := Lib.hid (fun b hb => by have := hvn b hb; simp at this; omega)
                      have hk3 : (k : Int) ≤ (vcap : Int) := by omega
                      have hk4 : k ≤ vcap := by omega
                      clear hv hbx hvn hva)
                   | (go_at_call 107; refine (reverse_calls _ _ _ HV.out hbl).mono ?_; rintro e w2 ⟨⟨u, rfl⟩, hv2, hf3⟩
                      have HV2 := Lib.hid (show SlF w2 57 6 kvC (.slice va l.reverse.length vcap) l.reverse by rw [List.length_reverse]; exact hv2)
                      have hf4 : Fr No w w2 := hf2.trans hf3 fun b hb h => by have := HVN.out b h; omega
                      have nb : ¬ (Value.slice va l.length vcap).ownBlock = some w.heap.size := fun h => HVX.out h
                      have y3 := hf3.cell y3 nb
                      have y4 := hf3.cell y4 nb
                      have y5 := hf3.cell y5 nb
                      have y6 := hf3.cell y6 nb
                      have hl2 : w.heap.size < w2.heap.size := Nat.lt_of_lt_of_le hl1 hf3.size
                      clear hv2))
      have hLK : (l.reverse.take k).length = k := by simp; omega
      have hsl : SlF w2 57 6 kvC (.slice va k vcap) (l.reverse.take k) := HV2.out.take kvC_length k (by simpa using hk1)
      have hbo : ∀ b, (Value.slice va k vcap).ownBlock = some b → w.heap.size ≤ b := fun b hb => HVN.out b (by cases va <;> exact hb)
      have hbx' : ¬ (Value.slice va k vcap).ownBlock = some w.heap.size := fun h => HVX.out (by cases va <;> exact h)
      obtain ⟨L, hLe⟩ : ∃ L, (l.reverse.take k) = L := ⟨_, rfl⟩
      rw [hLe] at hsl hLK
      have HLE := Lib.hid hLe
      clear hLe
      have HSL := Lib.hid hsl
      have HBO := Lib.hid hbo
      have HBX := Lib.hid hbx'
      have HLK := Lib.hid hLK
      have HF := Lib.hid hf4
      have HY := Lib.hid y4
      have lw := World.block_lt_of_cell? _ _ y4
      clear hsl hbo hbx' hLK y3 y4 y5 y6 HV HV2
      go_loopg [50] k (fun g s50 wr => ∃ i : Nat, s50 = .int .i64 i ∧ i + g = k ∧ Hid (SlF wr 57 6 kvC (.slice va k vcap) (bareTo i L)) ∧ Hid (Fr No w wr) ∧ Hid (wr.cell? ⟨w.heap.size, 4, none⟩ = some (.bool true)))
      case atStart => exact ⟨0, rfl, by omega, Lib.hid (by rw [bareTo_zero]; exact HSL.out), HF, HY⟩
      case round =>
        obtain ⟨i, rfl, hi, HI, HFI, HYI⟩ := hrel
        cases gk with
        | zero =>
          have hil : ¬ (i : Int) < ((k : Nat) : Int) := by omega
          go_wp2
          go_ret3
          have hlk := HLK.out
          have hfin : SlF wr 57 6 kvC (.slice va k vcap) (L.map bareK) := by have := HI.out; rw [bareTo_all L (by omega)] at this; exact this
          exact ⟨.slice va k vcap, rfl, by have h2 := hfin; rw [← HLE.out] at h2; simpa using h2, HFI.out, HBO.out⟩
        | succ g =>
          have hil : (i : Int) < ((k : Nat) : Int) := by omega
          have hlk := HLK.out
          obtain ⟨x, hx⟩ : ∃ x, L[i]? = some x := ⟨_, List.getElem?_eq_getElem (by omega)⟩
          obtain ⟨gb, go, rfl⟩ := HVA.out (by omega)
          have yr := HYI.out
          have lr := World.block_lt_of_cell? _ _ yr
          have hset := bareTo_set HI.out hlk hx
          have z1 : wr.cell? ⟨gb, go + i * 6 + 1, none⟩ = some (.string x.value) := by
            have h := HI.out
            rw [← hlk, ← bareTo_length i L] at h
            exact h.cell kvC_length i 1 (bareTo_get hx) rfl
          have zf : wr.frozen? ⟨gb, go + i * 6 + 1, none⟩ = false := by
            have h := HI.out
            rw [← hlk, ← bareTo_length i L] at h
            exact h.free _
          have lgb := World.block_lt_of_cell? _ _ z1
          have HSET := Lib.hid hset
          have HX := Lib.hid hx
          clear hset hx
          go_wp2
          go_roundg g
          case rel =>
            have hfs : Fr (fun b => b = gb) wr (wr.setCell ⟨gb, go + i * 6 + 1, none⟩ (.string ByteArray.empty)) := (Fr.refl _ wr).setAt _ _
            have hgb := HBO.out gb rfl
            have hne : ¬ w.heap.size = gb := fun e => HBX.out (by rw [e]; rfl)
            exact ⟨i + 1, by go_num, by omega, HSET, Lib.hid (HFI.out.trans hfs fun b hb e => by have e' : b = gb := e; omega), Lib.hid (hfs.cell HYI.out hne)⟩
          case measure => omega

/-- What a range answers, whatever it asks. -/
theorem getAll_calls {TA : TreeRel} {N : Nat} (hT : TreeOk TA N) {n : Nat} (hn : n ≤ 1099511627) (w : World) (s : Nat) (S : St) (F : Nat → Prop) (hS : StoreAt TA w s S F) (hok : StOk n S) (hN : S.T.length ≤ 1099511627) (g : Rg) (rev : Int)
    (hks : g.key.size ≤ 1099511627776) :
    Calls Try.prog 66 #[.pointer (some ⟨s, 0, none⟩), rgV g, .int .i64 rev] w fun e w' => ∃ v, e = .returned (.tuple #[v, .int .i64 (allL S g rev).length, .bool (moreB S g rev)]) ∧ SlF w' 57 6 kvC v (getL S g rev) ∧ Fr No w w' ∧ (∀ b, v.ownBlock = some b → w.heap.size ≤ b) := by
  cases hk : g.keys with
  | false =>
    cases hd : g.desc with
    | false => exact get_calls hT hn w s S F hS hok hN g rev hks hd hk
    | true => exact getDesc_calls hT hn w s S F hS hok hN g rev hks hd hk
  | true =>
    cases hd : g.desc with
    | false => exact getKeys_calls hT hn w s S F hS hok hN g rev hks hd hk
    | true => exact getKeysDesc_calls hT hn w s S F hS hok hN g rev hks hd hk
end Go.Proofs.Ythljnnjpmdgkoaa
