/- The store's Range, where neither Desc nor Keys is asked. The condition: histories are small (HistOk). -/
import Derived.Test.YthljnnjpmdgkoaaGet
import Derived.Test.YthljnnjpmdgkoaaLib4
import Derived.Deep.DeepCutAuto
namespace Go.Proofs.Ythljnnjpmdgkoaa
open Go Go.Proofs Go.RowKit
set_option maxRecDepth 100000

/-- What Range answers as its error. -/
def rangeE (S : St) (g : Rg) : Int := if askE g ≠ 0 then askE g else whenE S g.rev

set_option maxHeartbeats 4000000 in
theorem Range_bad {TA : TreeRel} {N : Nat} (hT : TreeOk TA N) (w : World) (s : Nat) (S : St) (F : Nat → Prop) (hS : StoreAt TA w s S F) (g : Rg) (hks : g.key.size ≤ 1099511627776) (hE : rangeE S g ≠ 0) :
    Calls Try.prog 30 #[.pointer (some ⟨s, 0, none⟩), rgV g] w fun e w' => e = .returned (.tuple #[.slice none 0 0, .int .i64 0, .bool false, .int .i64 (rangeE S g)]) ∧ Fr No w w' := by
  have ha := fun W => Asks_calls W g hks
  have hw := fun W (h : Fr No w W) => when_calls W s S F (hS.fr0 hT h) g.rev
  unfold rangeE at *
  obtain ⟨g1, g2, g3, g4, g5, g6, g7⟩ := g
  unfold rgV at *
  dsimp only at *
  generalize askE _ = a at *
  generalize whenE S g3 = b at *
  have HA := Lib.hid ha
  have HW := Lib.hid hw
  clear ha hw hks hS
  by_cases h1 : a = 0
  · subst h1
    have hE' : b ≠ 0 := by simpa using hE
    have h2' : (b == 0) = false := by simpa using hE'
    rw [if_neg (by simp)]
    clear hE
    go_enter Try.func30, Try.ntmps30
    go_wp2_with (first
      | (go_at_call 22; refine (HA.out _).mono ?_; rintro e w1 ⟨rfl, hf⟩
         have hf1 : Fr No w w1 := ((Fr.refl No w).alloc _).trans0 hf
         have hb : w1.heap[w.heap.size]? = some (.cells #[.string g1, .string g2, .int .i64 g3, .int .i64 g4, .bool g5, .bool g6, .bool g7] 38 (0, 0)) := hf.heap (alloc_at _ _ _ rfl) id
         have x2 : w1.cell? ⟨w.heap.size, 2, none⟩ = some (.int .i64 g3) := by simp [World.cell?, hb])
      | (go_at_call 65; refine (HW.out _ hf1).mono ?_; rintro e w2 ⟨rfl, rfl⟩))
    (try simp only [Exit.inBlock, Exit.then]); refine bodyPost_ret (results_tmp4 rfl _ _ _) rfl ?_
    exact ⟨rfl, hf1⟩
  · have h1' : (a == 0) = false := by simpa using h1
    rw [if_pos h1]
    go_enter Try.func30, Try.ntmps30
    go_wp2_with (go_at_call 22; refine (HA.out _).mono ?_; rintro e w1 ⟨rfl, hf⟩)
    (try simp only [Exit.inBlock, Exit.then]); refine bodyPost_ret (results_tmp4 rfl _ _ _) rfl ?_
    exact ⟨rfl, ((Fr.refl No w).alloc _).trans0 hf⟩

set_option maxHeartbeats 4000000 in
theorem Range_calls {TA : TreeRel} {N : Nat} (hT : TreeOk TA N) {n : Nat} (hn : n ≤ 1099511627) (w : World) (s : Nat) (S : St) (F : Nat → Prop) (hS : StoreAt TA w s S F) (hok : StOk n S) (hN : S.T.length ≤ 1099511627) (g : Rg)
    (hks : g.key.size ≤ 1099511627776) (hdesc : g.desc = false) (hkeys : g.keys = false) (hE : rangeE S g = 0) :
    Calls Try.prog 30 #[.pointer (some ⟨s, 0, none⟩), rgV g] w fun e w' => ∃ v, e = .returned (.tuple #[v, .int .i64 (allL S g S.rev).length, .bool (moreB S g S.rev), .int .i64 0]) ∧ SlF w' 57 6 kvC v (getL S g S.rev) ∧ Fr No w w' ∧ (∀ b, v.ownBlock = some b → w.heap.size ≤ b) := by
  have ha := fun W => Asks_calls W g hks
  have hw := fun W (h : Fr No w W) => when_calls W s S F (hS.fr0 hT h) g.rev
  have hg := fun W (h : Fr No w W) => get_calls hT hn W s S F (hS.fr0 hT h) hok hN g S.rev hks hdesc hkeys
  have c3 : ∀ W, Fr No w W → W.cell? ⟨s, 3, none⟩ = some (.int .i64 S.rev) := fun W hW => by
    obtain ⟨t, p, ev, hp, FT, FH, a, hF⟩ := hS
    exact hW.cell0 (a.obj.cell 3 rfl)
  have h0 : askE g = 0 ∧ whenE S g.rev = 0 := by
    unfold rangeE at hE
    by_cases h : askE g = 0
    · rw [if_neg (by simpa using h)] at hE; exact ⟨h, hE⟩
    · rw [if_pos h] at hE; exact absurd hE h
  rw [h0.1] at ha
  rw [h0.2] at hw
  obtain ⟨g1, g2, g3, g4, g5, g6, g7⟩ := g
  dsimp only at hdesc hkeys
  subst hdesc hkeys
  generalize hal : allL S ⟨g1, g2, g3, g4, false, g6, false⟩ S.rev = al at *
  generalize hmo : moreB S ⟨g1, g2, g3, g4, false, g6, false⟩ S.rev = mo at *
  generalize hgl : getL S ⟨g1, g2, g3, g4, false, g6, false⟩ S.rev = gl at *
  unfold rgV at *
  dsimp only at *
  have HA := Lib.hid ha
  have HW := Lib.hid hw
  have HG := Lib.hid hg
  have HC := Lib.hid c3
  clear ha hw hg c3 hE h0 hks hS hok hN hal hmo hgl
  go_enter Try.func30, Try.ntmps30
  go_upto_region 8 with (first
    | (go_at_call 22; refine (HA.out _).mono ?_; rintro e w1 ⟨rfl, hf⟩
       have hf1 : Fr No w w1 := ((Fr.refl No w).alloc _).trans0 hf
       have hb : w1.heap[w.heap.size]? = some (.cells #[.string g1, .string g2, .int .i64 g3, .int .i64 g4, .bool false, .bool g6, .bool false] 38 (0, 0)) := hf.heap (alloc_at _ _ _ rfl) id
       have x0 : w1.cell? ⟨w.heap.size, 0, none⟩ = some (.string g1) := by simp [World.cell?, hb]
       have x1 : w1.cell? ⟨w.heap.size, 1, none⟩ = some (.string g2) := by simp [World.cell?, hb]
       have x2 : w1.cell? ⟨w.heap.size, 2, none⟩ = some (.int .i64 g3) := by simp [World.cell?, hb]
       have x3 : w1.cell? ⟨w.heap.size, 3, none⟩ = some (.int .i64 g4) := by simp [World.cell?, hb]
       have x4 : w1.cell? ⟨w.heap.size, 4, none⟩ = some (.bool false) := by simp [World.cell?, hb]
       have x5 : w1.cell? ⟨w.heap.size, 5, none⟩ = some (.bool g6) := by simp [World.cell?, hb]
       have x6 : w1.cell? ⟨w.heap.size, 6, none⟩ = some (.bool false) := by simp [World.cell?, hb]
       have lx := heap_lt hb
       have y := HC.out _ hf1
       have ly := World.block_lt_of_cell? _ _ y)
    | (go_at_call 65; refine (HW.out _ hf1).mono ?_; rintro e w2 ⟨rfl, rfl⟩))
  go_region_held (fun W => W.cell? ⟨s, 3, none⟩ = some (.int .i64 S.rev) ∧ W.cell? ⟨w.heap.size, 0, none⟩ = some (.string g1) ∧ W.cell? ⟨w.heap.size, 1, none⟩ = some (.string g2) ∧ W.cell? ⟨w.heap.size, 2, none⟩ = some (.int .i64 g3) ∧
      W.cell? ⟨w.heap.size, 3, none⟩ = some (.int .i64 g4) ∧ W.cell? ⟨w.heap.size, 4, none⟩ = some (.bool false) ∧ W.cell? ⟨w.heap.size, 5, none⟩ = some (.bool g6) ∧ W.cell? ⟨w.heap.size, 6, none⟩ = some (.bool false))
    (first | exact ⟨y, x0, x1, x2, x3, x4, x5, x6⟩ | exact ⟨hf3.cell0 y, hf3.cell0 x0, hf3.cell0 x1, hf3.cell0 x2, hf3.cell0 x3, hf3.cell0 x4, hf3.cell0 x5, hf3.cell0 x6⟩)
    (first | (go_at_call 66; refine (HG.out _ hf1.drew).mono ?_; rintro e w3 ⟨v, rfl, hv, hf3, hvn⟩; obtain ⟨va, vcap, rfl, hc1, hc2, hva⟩ := hv.shape; have HV := Lib.hid hv; have HVN := Lib.hid hvn; clear hv hvn))
  go_wp2
  (try simp only [Exit.inBlock, Exit.then]); refine bodyPost_ret (results_tmp4 rfl _ _ _) rfl ?_
  have hsz := hf1.size
  exact ⟨_, rfl, HV.out, hf1.drew.trans0 hf3, fun b hb => Nat.le_trans hsz (HVN.out b hb)⟩
end Go.Proofs.Ythljnnjpmdgkoaa
