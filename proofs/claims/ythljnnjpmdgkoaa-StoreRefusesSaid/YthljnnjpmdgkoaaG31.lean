/- Ops of the chapters' examples: a put of a key, a get; what they ask of a run. Plain facts; no program is run. The chapter's examples of the store hold: the statements' own awake, over any tree. The condition: the tree does what it should. The statement StoreRefuses's function returns true, whatever its arguments are. -/
import Derived.Test.YthljnnjpmdgkoaaG10
import Derived.Test.YthljnnjpmdgkoaaG13
import Derived.Test.YthljnnjpmdgkoaaG23
import Derived.Test.YthljnnjpmdgkoaaG30
namespace Go.Proofs.Ythljnnjpmdgkoaa
open Go Go.Proofs Go.RowKit
set_option maxRecDepth 100000

def rg0 (key : ByteArray) : Rg := ⟨key, ByteArray.empty, 0, 0, false, false, false⟩
def bA : ByteArray := ⟨#[97]⟩
def bB : ByteArray := ⟨#[98]⟩
def b1 : ByteArray := ⟨#[49]⟩
def b2 : ByteArray := ⟨#[50]⟩
def putO (k v : ByteArray) : Opr := ⟨1, rg0 k, v, 0⟩
def getO (k : ByteArray) : Opr := ⟨3, rg0 k, ByteArray.empty, 0⟩
theorem one_at0 {α : Type} {a o : α} {i : Nat} (h : [a][i]? = some o) : i = 0 ∧ o = a := by
  cases i with
  | zero => simp at h; exact ⟨rfl, h.symm⟩
  | succ i => simp at h

/-- A put of a key that is not there. -/
theorem step_put {N n : Nat} {S : St} {rev : Int} (k v : ByteArray) (hok : StOk n S) (hT : S.T.length ≤ 1099511627) (hk : k.size ≤ 1099511627776) (hnew : (getT S.T k).2 = false) (hroom : S.T.length < N) (h1 : 1 ≤ rev) (h2 : rev ≤ top) :
    ∀ i o, [putO k v][i]? = some o → StepOk N n rev (runR rev ⟨S, [], []⟩ ([putO k v].take i)) o := by
  intro i o h
  obtain ⟨rfl, rfl⟩ := one_at0 h
  have hl : livesS S k rev = (kv0, false) := by unfold livesS; rw [hnew]; rfl
  refine { st := hok, tree := hT, evs := by simp [runR], ans := by simp [runR], key := hk, put := fun _ => ?_, get := fun h => by simp [putO] at h, del := by simp [putO] }
  show 0 ≤ (livesS S k rev).1.version ∧ (livesS S k rev).1.version ≤ top ∧ DoOk N S (puttingS S (putO k v) rev)
  rw [hl]
  refine ⟨by simp [kv0], by simp [kv0, top], { m1 := h1, m2 := h2, last := fun H _ h => ?_, room := fun _ _ => hroom, opened := fun h => absurd rfl h }⟩
  have h' : (getT S.T k).2 = true := h
  rw [hnew] at h'
  cases h'
theorem step_get {N n : Nat} {S : St} {rev : Int} (k : ByteArray) (hok : StOk n S) (hT : S.T.length ≤ 1099511627) (hk : k.size ≤ 1099511627776) :
    ∀ i o, [getO k][i]? = some o → StepOk N n rev (runR rev ⟨S, [], []⟩ ([getO k].take i)) o := by
  intro i o h
  obtain ⟨rfl, rfl⟩ := one_at0 h
  exact { st := hok, tree := hT, evs := by simp [runR], ans := by simp [runR], key := hk, put := fun h => by simp [getO] at h, get := fun _ => ⟨rfl, rfl⟩, del := by simp [getO] }

theorem slR_ops {W : World} {b : Nat} {o : Opr} {t : TypeId} (h : W.heap[b]? = some (.cells (opC o).toArray t (0, 0))) : SlR W 10 opC (.slice (some ⟨b, 0, none⟩) 1 1) [o] := by
  refine ⟨_, 1, rfl, by simp, by decide, fun _ => ⟨b, 0, rfl, fun i x hx j u hu => ?_⟩⟩
  obtain ⟨rfl, rfl⟩ := one_at0 hx
  unfold World.cell?
  simp only [h, Nat.zero_mul, Nat.zero_add, Option.isSome_none, Bool.false_eq_true, if_false]
  simpa using hu
end Go.Proofs.Ythljnnjpmdgkoaa

namespace Go.Proofs.Ythljnnjpmdgkoaa
open Go Go.Proofs Go.RowKit
set_option maxRecDepth 100000

def bCs : ByteArray := ⟨#[99]⟩
def b3s : ByteArray := ⟨#[51]⟩
def opsAs : List Opr := [putO bA b1, putO bB b2]
def SAs : St := applyS newS opsAs
def SBs : St := applyS SAs [putO bA b3s]
def gDescs : Rg := ⟨bA, bCs, 0, 1, false, false, true⟩
def gOlds : Rg := ⟨bA, ByteArray.empty, 1, 0, false, false, false⟩
theorem ap_As : applyE newS opsAs = 0 := by kernel_rfl
theorem ap_Bs : applyE SAs [putO bA b3s] = 0 := by kernel_rfl
theorem SAs_good : ∃ D, Good 1 SAs D := ⟨_, Good.new.apply (by omega) (applyE_zero ap_As).1 (by decide)⟩
theorem SBs_good : ∃ D, Good 2 SBs D := by
  obtain ⟨D, h⟩ := SAs_good
  exact ⟨_, h.apply (by omega) (applyE_zero ap_Bs).1 (by decide)⟩
theorem SBs_rev : SBs.rev = 2 := by kernel_rfl
theorem runs_A : ((runR (SAs.rev + 1) ⟨SAs, [], []⟩ [putO bA b3s]).A).map (fun a => a.count) = [1] := by kernel_rfl
theorem runs_E : ((runR (SAs.rev + 1) ⟨SAs, [], []⟩ [putO bA b3s]).E).map (fun x => x.prev.value) = [b1] := by kernel_rfl
theorem rngs_e1 : rangeE SBs gDescs = 0 := by kernel_rfl
theorem rngs_e2 : rangeE SBs gOlds = 0 := by kernel_rfl
theorem rngs_1 : (getL SBs gDescs SBs.rev).map (·.value) = [b2] := by kernel_rfl
theorem rngs_1n : (allL SBs gDescs SBs.rev).length = 2 := by kernel_rfl
theorem rngs_1m : moreB SBs gDescs SBs.rev = true := by kernel_rfl
theorem rngs_2 : (getL SBs gOlds SBs.rev).map (·.value) = [b1] := by kernel_rfl
theorem comps_0 : compactE SBs 2 = 0 := by kernel_rfl

theorem put11s_calls (w : World) (k v : ByteArray) : Calls Try.prog 51 #[.string k, .string v] w fun e w' => e = .returned (opV (putO k v)) ∧ Fr No w w' := by
  go_enter Try.func51, Try.ntmps51
  go_wp2
  exact bodyPost_ret (results_cell_row rfl _ _ w.heap.size 87 _ (0, 0) _ rfl (alloc_at _ _ _ rfl) Try.underlying87 rfl (by kernel_rfl)) rfl ⟨rfl, (Fr.refl No w).alloc _⟩

theorem slR_twos {W : World} {b : Nat} {o1 o2 : Opr} {t : TypeId} (h : W.heap[b]? = some (.cells (opC o1 ++ opC o2).toArray t (0, 0))) : SlR W 10 opC (.slice (some ⟨b, 0, none⟩) 2 2) [o1, o2] := by
  refine ⟨_, 2, rfl, by simp, by decide, fun _ => ⟨b, 0, rfl, fun i x hx j u hu => ?_⟩⟩
  have hj : j < 10 := (List.getElem?_eq_some_iff.1 hu).1
  unfold World.cell?
  simp only [h, Option.isSome_none, Bool.false_eq_true, if_false, List.getElem?_toArray]
  match i, hx with
  | 0, hx =>
    obtain rfl : o1 = x := by simpa using hx
    simp only [Nat.zero_mul, Nat.zero_add]
    rw [List.getElem?_append_left (by exact hj)]
    exact hu
  | 1, hx =>
    obtain rfl : o2 = x := by simpa using hx
    simp only [Nat.one_mul, Nat.zero_add]
    rw [List.getElem?_append_right (by rw [opC_length]; omega), opC_length, Nat.add_sub_cancel_left]
    exact hu
  | i + 2, hx => simp at hx

theorem slR_ones {W : World} {b : Nat} {o1 : Opr} {t : TypeId} (h : W.heap[b]? = some (.cells (opC o1).toArray t (0, 0))) : SlR W 10 opC (.slice (some ⟨b, 0, none⟩) 1 1) [o1] := by
  refine ⟨_, 1, rfl, by simp, by decide, fun _ => ⟨b, 0, rfl, fun i x hx j u hu => ?_⟩⟩
  have hi : i = 0 := by have := (List.getElem?_eq_some_iff.1 hx).1; simp at this; omega
  subst hi
  obtain rfl : o1 = x := by simpa using hx
  unfold World.cell?
  simp only [h, Nat.zero_mul, Nat.zero_add, Option.isSome_none, Bool.false_eq_true, if_false]
  simpa using hu

theorem applys_A {TA : TreeRel} (hT : TreeOk TA 1000000) (W : World) (s p : Nat) (F0 : Nat → Prop) (hS : StoreAt TA W s st0 F0) (hp : W.heap[p]? = some (.cells (opC (putO bA b1) ++ opC (putO bB b2)).toArray 87 (0, 0))) (np : ¬ F0 p) :
    Calls Try.prog 41 #[.pointer (some ⟨s, 0, none⟩), .slice (some ⟨p, 0, none⟩) 2 2] W fun e w' => ∃ av ev F1, e = .returned (.tuple #[av, ev, .int .i64 0]) ∧ StoreAt TA w' s SAs F1 ∧ Fr F0 W w' ∧ (∀ b, F1 b → F0 b ∨ W.heap.size ≤ b) := by
  have h := Apply_calls2 hT Good.new (by omega) W s F0 hS _ opsAs (slR_twos hp) (fun _ b hb => by simp [Value.ownBlock] at hb; rw [← hb]; exact np) (by decide) (by decide)
  rw [ap_As] at h
  simp only [if_true] at h
  refine h.mono ?_
  rintro e w' ⟨av, ev, rfl, F1, Z, h1, h2, h3, h4, h5, h6⟩
  exact ⟨av, ev, F1, rfl, h1, h5, h6⟩

theorem applys_B {TA : TreeRel} (hT : TreeOk TA 1000000) (W : World) (s p : Nat) (F0 : Nat → Prop) (hS : StoreAt TA W s SAs F0) (hp : W.heap[p]? = some (.cells (opC (putO bA b3s)).toArray 87 (0, 0))) (np : ¬ F0 p) :
    Calls Try.prog 41 #[.pointer (some ⟨s, 0, none⟩), .slice (some ⟨p, 0, none⟩) 1 1] W fun e w' => ∃ g o cap g' o' cap' F1, e = .returned (.tuple #[.slice (some ⟨g, o, none⟩) 1 cap, .slice (some ⟨g', o', none⟩) 1 cap', .int .i64 0]) ∧ StoreAt TA w' s SBs F1 ∧
      w'.cell? ⟨g, o + 2, none⟩ = some (.int .i64 1) ∧ w'.cell? ⟨g', o' + 8, none⟩ = some (.string b1) ∧ Fr F0 W w' ∧ (∀ b, F1 b → F0 b ∨ W.heap.size ≤ b) := by
  obtain ⟨D, hG⟩ := SAs_good
  have h := Apply_calls2 hT hG (by omega) W s F0 hS _ [putO bA b3s] (slR_ones hp) (fun _ b hb => by simp [Value.ownBlock] at hb; rw [← hb]; exact np) (by decide) (by decide)
  rw [ap_Bs] at h
  simp only [if_true] at h
  refine h.mono ?_
  rintro e w' ⟨av, ev, rfl, F1, Z, h1, h2, h3, h4, h5, h6⟩
  have hz : Z.map (fun q => q.1.count) = [1] := by
    have e1 := congrArg (List.map fun a : Ans => a.count) h3
    rw [runs_A, List.map_map] at e1
    exact e1
  obtain ⟨z, rfl⟩ := List.length_eq_one_iff.1 (show Z.length = 1 by have := congrArg List.length hz; simpa using this)
  simp only [List.map_cons, List.map_nil, List.cons.injEq, and_true] at hz
  obtain ⟨a, cap, rfl, h9, h10, h11⟩ := h2.sl.shape
  obtain ⟨g, o, rfl⟩ := h11 (by simp)
  have hc := h2.sl.cell ansC_length 0 2 rfl rfl
  rw [hz] at hc
  have hE := runs_E
  generalize (runR (SAs.rev + 1) ⟨SAs, [], []⟩ [putO bA b3s]).E = E at h4 hE
  obtain ⟨x, rfl⟩ := List.length_eq_one_iff.1 (show E.length = 1 by have := congrArg List.length hE; simpa using this)
  simp only [List.map_cons, List.map_nil, List.cons.injEq, and_true] at hE
  obtain ⟨a', cap', rfl, _, _, h12⟩ := h4.shape
  obtain ⟨g', o', rfl⟩ := h12 (by simp)
  have hd := h4.cell evC_length 0 8 rfl rfl
  rw [hE] at hd
  exact ⟨g, o, cap, g', o', cap', F1, rfl, h1, by simpa using hc, by simpa using hd, h5, h6⟩

theorem ranges_1 {TA : TreeRel} (hT : TreeOk TA 1000000) (W : World) (s : Nat) (F : Nat → Prop) (hS : StoreAt TA W s SBs F) :
    Calls Try.prog 30 #[.pointer (some ⟨s, 0, none⟩), rgV gDescs] W fun e w' => ∃ g o cap, e = .returned (.tuple #[.slice (some ⟨g, o, none⟩) 1 cap, .int .i64 2, .bool true, .int .i64 0]) ∧ w'.cell? ⟨g, o + 1, none⟩ = some (.string b2) ∧ Fr No W w' := by
  obtain ⟨D, hG⟩ := SBs_good
  have h := Range_calls2 hT hG (by omega) W s F hS gDescs (by decide)
  rw [rngs_e1] at h
  simp only [if_true, decide_true, Bool.true_and] at h
  refine h.mono ?_
  rintro e w' ⟨v, rfl, hv, hf, hvn⟩
  rw [rngs_1n, rngs_1m]
  have hL := rngs_1
  generalize getL SBs gDescs SBs.rev = L at hv hL
  obtain ⟨x, rfl⟩ := List.length_eq_one_iff.1 (show L.length = 1 by have := congrArg List.length hL; simpa using this)
  simp only [List.map_cons, List.map_nil, List.cons.injEq, and_true] at hL
  obtain ⟨a, cap, rfl, _, _, h1⟩ := hv.shape
  obtain ⟨g, o, rfl⟩ := h1 (by simp)
  have hc := hv.cell kvC_length 0 1 rfl rfl
  rw [hL] at hc
  exact ⟨g, o, cap, rfl, by simpa using hc, hf⟩

theorem ranges_2 {TA : TreeRel} (hT : TreeOk TA 1000000) (W : World) (s : Nat) (F : Nat → Prop) (hS : StoreAt TA W s SBs F) :
    Calls Try.prog 30 #[.pointer (some ⟨s, 0, none⟩), rgV gOlds] W fun e w' => ∃ g o cap m mo, e = .returned (.tuple #[.slice (some ⟨g, o, none⟩) 1 cap, .int .i64 m, .bool mo, .int .i64 0]) ∧ w'.cell? ⟨g, o + 1, none⟩ = some (.string b1) ∧ Fr No W w' := by
  obtain ⟨D, hG⟩ := SBs_good
  have h := Range_calls2 hT hG (by omega) W s F hS gOlds (by decide)
  rw [rngs_e2] at h
  simp only [if_true, decide_true, Bool.true_and] at h
  refine h.mono ?_
  rintro e w' ⟨v, rfl, hv, hf, hvn⟩
  have hL := rngs_2
  generalize getL SBs gOlds SBs.rev = L at hv hL
  obtain ⟨x, rfl⟩ := List.length_eq_one_iff.1 (show L.length = 1 by have := congrArg List.length hL; simpa using this)
  simp only [List.map_cons, List.map_nil, List.cons.injEq, and_true] at hL
  obtain ⟨a, cap, rfl, _, _, h1⟩ := hv.shape
  obtain ⟨g, o, rfl⟩ := h1 (by simp)
  have hc := hv.cell kvC_length 0 1 rfl rfl
  rw [hL] at hc
  exact ⟨g, o, cap, _, _, rfl, by simpa using hc, hf⟩

set_option maxHeartbeats 8000000 in
theorem awakeS_calls {TA : TreeRel} (hT : TreeOk TA 1000000) (hTD : TreeDl TA) (w : World) : Calls Try.prog 19 #[] w fun e w' => e = .returned (.bool true) ∧ Fr No w w' := by
  have hr1 := fun W s F hS => ranges_1 hT W s F hS
  have hr2 := fun W s F hS => ranges_2 hT W s F hS
  unfold rgV gDescs bA bCs at hr1
  unfold rgV gOlds bA at hr2
  unfold b2 at hr1
  unfold b1 at hr2
  dsimp only at hr1 hr2
  have HR1 := Lib.hid hr1
  have HR2 := Lib.hid hr2
  clear hr1 hr2
  go_enter Try.func19, Try.ntmps19
  go_upto_region 4 with (first
    | (go_at_call 31; refine (StoreNew_calls hT _).mono ?_; rintro e w1 ⟨s, rfl, F0, hs1, hf1, hn1⟩; have hacc := Fr.refl No w1)
    | (go_at_call 51; refine (put11s_calls _ _ _).mono ?_; rintro e w2 ⟨rfl, hf2⟩; replace hacc := hacc.trans0 hf2; unfold opV putO rg0; dsimp only)
    | (go_at_call 41
       refine (applys_A hT _ s _ F0 (hs1.fr0 hT (hacc.alloc _)) (alloc_at _ _ _ rfl) (fun h => by have := hs1.lt hT _ h; have := hacc.size; omega)).mono ?_
       rintro e w3 ⟨av, ev, F1, rfl, hs3, hf3, hn3⟩
       have hw3 : Fr No w w3 := ((hf1.trans0 hacc).alloc _).trans hf3 fun b hb h => by have := hn1 b h; omega
       have hF1 : ∀ b, F1 b → w.heap.size ≤ b := fun b hb => by
         rcases hn3 b hb with h | h
         · exact hn1 b h
         · have h1 := (hf1.trans0 hacc).size
           simp at h
           omega
       clear hs1 hf1 hn1 hf2 hf3 hn3 hacc
       have hacc := Fr.refl No w3)
    | (go_at_call 41
       refine (applys_B hT _ s _ F1 (hs3.fr0 hT (hacc.alloc _)) (alloc_at _ _ _ rfl) (fun h => by have := hs3.lt hT _ h; have := hacc.size; omega)).mono ?_
       rintro e w4 ⟨g, o, cap, g', o', cap', F2, rfl, hs4, hc4, hd4, hf4, hn4⟩
       have hw4 : Fr No w w4 := ((hw3.trans0 hacc).alloc _).trans hf4 fun b hb h => by have := hF1 b h; omega
       have hF2 : ∀ b, F2 b → w.heap.size ≤ b := fun b hb => by
         rcases hn4 b hb with h | h
         · exact hF1 b h
         · have h1 := (hw3.trans0 hacc).size
           simp at h
           omega
       clear hs3 hf4 hn4 hacc hw3 hF1))
  go_upto_region 5 with (go_at_call 30; refine (HR1.out w4 s F2 hs4).mono ?_; rintro e w5 ⟨g1, o1, cap1, rfl, hc5, hf5⟩)
  go_upto_region 6 with (go_at_call 30; refine (HR2.out w5 s F2 (hs4.fr0 hT hf5)).mono ?_; rintro e w6 ⟨g2, o2, cap2, m2, mo2, rfl, hc6, hf6⟩)
  have hs6 := hs4.fr0 hT (hf5.trans0 hf6)
  have x1 := (hf5.trans0 hf6).cell0 hc4
  have x2 := (hf5.trans0 hf6).cell0 hd4
  have x3 := hf6.cell0 hc5
  have hw6 : Fr No w w6 := (hw4.trans0 hf5).trans0 hf6
  have l1 := World.block_lt_of_cell? _ _ x1
  have l2 := World.block_lt_of_cell? _ _ x2
  have l3 := World.block_lt_of_cell? _ _ x3
  have l4 := World.block_lt_of_cell? _ _ hc6
  obtain ⟨D, hG⟩ := SBs_good
  have hcm := Compact_calls2 hT hTD hG (by omega) w6 s F2 hs6 2
  rw [comps_0] at hcm
  have HS6 := Lib.hid hs6
  have HCM := Lib.hid hcm
  have HF2 := Lib.hid hF2
  have HW6 := Lib.hid hw6
  clear hs4 hc4 hd4 hc5 hf5 hf6 hw4 hs6 hcm hF2 hw6
  unfold b1 at x2
  go_wp2_with (first
    | (go_at_call 33; refine (StoreRev_calls w6 s SBs F2 HS6.out).mono ?_; rintro e w9 ⟨rfl, rfl⟩; rw [SBs_rev])
    | (go_at_call 44; refine HCM.out.mono ?_; rintro e w10 ⟨rfl, F10, _, hf10, _⟩))
  go_ret
  exact ⟨rfl, HW6.out.trans hf10 fun b hb h => by have := HF2.out b h; omega⟩
end Go.Proofs.Ythljnnjpmdgkoaa

namespace Go.Proofs.Ythljnnjpmdgkoaa
open Go Go.Proofs Go.RowKit
set_option maxRecDepth 100000

theorem doT_err {S : St} {q : CalQ} (h : doE S q ≠ 0 ∨ kindN q.1.kind = 4 ∨ kindN q.1.kind = 6) : doT S q = S := by
  unfold doE at h
  unfold doT
  by_cases h4 : kindN q.1.kind = 4
  · rw [if_pos h4]
  · rw [if_neg h4]
    rw [if_neg h4] at h
    by_cases h5 : kindN q.1.kind = 5
    · rw [if_pos h5] at h ⊢
      rcases h with h | h | h
      · rw [if_neg h]
      · exact absurd h h4
      · rw [h5] at h; cases h
    · rw [if_neg h5] at h ⊢
      by_cases h6 : kindN q.1.kind = 6
      · rw [if_pos h6]
      · rw [if_neg h6] at h ⊢
        by_cases h7 : kindN q.1.kind = 7
        · rw [if_pos h7] at h
          rcases h with h | h | h
          · exact absurd rfl h
          · exact absurd h h4
          · exact absurd h h6
        · rw [if_neg h7] at h ⊢
          rcases h with h | h | h
          · rw [if_neg h]
          · exact absurd h h4
          · exact absurd h h6
theorem doT_comp {S : St} {q : CalQ} (h5 : kindN q.1.kind = 5) (h : doE S q = 0) : (doT S q).rev = S.rev ∧ (doT S q).mark = q.1.rev := by
  unfold doE at h
  unfold doT
  rw [if_neg (by rw [h5]; decide), if_pos h5] at h ⊢
  rw [if_pos h]
  exact ⟨rfl, rfl⟩
theorem doT_more {k : Nat} {S : St} {D : Doc} (hG : Good k S D) (hk : k ≤ 70) {q : CalQ} (hq : fewCal q = true) (h4 : kindN q.1.kind ≠ 4) (h5 : kindN q.1.kind ≠ 5) (h6 : kindN q.1.kind ≠ 6) :
    (doT S q).mark = S.mark ∧ ((doT S q).rev = S.rev + 1 ∨ doT S q = S) := by
  have hG' := hG.does hk hq
  have hm : (doD S D q).mark = D.mark := by
    unfold doD
    rw [if_neg h4, if_neg h5, if_neg h6]
    split
    · exact (Doc.adds_parts _ _).1
    · split
      · exact (Doc.adds_parts _ _).1
      · rfl
  refine ⟨by rw [hG'.cpl.mark, hm, hG.cpl.mark], ?_⟩
  unfold doT
  rw [if_neg h4, if_neg h5, if_neg h6]
  split
  · unfold dropS
    split
    · rename_i he
      exact .inr (dropR_nil _ _ he).1
    · exact .inl rfl
  · split
    · unfold applyS
      dsimp only
      split
      · rename_i he
        exact .inr (runR_nil _ he).1
      · exact .inl rfl
    · exact .inr rfl

theorem State_calls2 {TA : TreeRel} (hT : TreeOk TA 1000000) {k : Nat} {S : St} {D : Doc} (h : Good k S D) (hk : k ≤ 70) (w : World) (s : Nat) (F : Nat → Prop) (hS : StoreAt TA w s S F) :
    Calls Try.prog 37 #[.pointer (some ⟨s, 0, none⟩)] w fun e w' => ∃ a1 n1 c1 a2 n2 c2, e = .returned (stateV S.rev S.mark (.slice a1 n1 c1) (.slice a2 n2 c2)) ∧ SlF w' 57 6 kvC (.slice a1 n1 c1) (betweenL S S.T S.mark) ∧ SlF w' 73 13 evC (.slice a2 n2 c2) S.events ∧ Fr No w w' ∧
      (∀ b, (Value.slice a1 n1 c1).ownBlock = some b → w.heap.size ≤ b) ∧ (∀ b, (Value.slice a2 n2 c2).ownBlock = some b → w.heap.size ≤ b) := by
  refine (State_calls hT (n := 20000 * k) (by omega) w s S F hS h.ok (by have := h.size; omega)).mono ?_
  rintro e w' ⟨kv, ev, rfl, h1, h2, h3, h4, h5⟩
  obtain ⟨a1, c1, rfl, _, _, _⟩ := h1.shape
  obtain ⟨a2, c2, rfl, _, _, _⟩ := h2.shape
  exact ⟨a1, _, c1, a2, _, c2, rfl, h1, h2, h3, h4, h5⟩
theorem calR_one' {W : World} {b : Nat} {q : CalQ} {t : TypeId} (h : W.heap[b]? = some (.cells (calC q).toArray t (0, 0))) (ha : SlR W 10 opC q.1.ops q.2.1) (hb : SlR W 1 strC q.1.keys q.2.2) : CalR W (.slice (some ⟨b, 0, none⟩) 1 1) [q] := by
  refine ⟨⟨_, 1, rfl, by simp, by decide, fun _ => ⟨b, 0, rfl, fun i x hx j u hu => ?_⟩⟩, fun i x hx => ?_, fun i x hx => ?_⟩
  · obtain ⟨rfl, rfl⟩ := one_at0 hx
    unfold World.cell?
    simp only [h, Nat.zero_mul, Nat.zero_add, Option.isSome_none, Bool.false_eq_true, if_false]
    simpa using hu
  · obtain ⟨rfl, rfl⟩ := one_at0 hx; exact ha
  · obtain ⟨rfl, rfl⟩ := one_at0 hx; exact hb

set_option maxHeartbeats 8000000 in
theorem storeRefuses_walk {TA : TreeRel} (hT : TreeOk TA 1000000) (hTD : TreeDl TA) (w : World) (v : Value) (l : List CalQ) (q : CalQ) (hv : CalR w v l) (ha : SlR w 10 opC q.1.ops q.2.1) (hb : SlR w 1 strC q.1.keys q.2.2) :
    Calls Try.prog 10 #[v, .agg (calC q).toArray] w fun e w' => e = .returned (.bool true) ∧ Fr No w w' := by
  have hfc := fun W (h : Fr No w W) => fewCals_calls W v l ⟨hv.sl.fr0 h, fun i q hq => (hv.ops i q hq).fr0 h, fun i q hq => (hv.keys i q hq).fr0 h⟩
  have hf1c := fun W (h : Fr No w W) b (hk : W.heap[b]? = some (.cells (calC q).toArray 64 (0, 0))) => fewCals_calls W (.slice (some ⟨b, 0, none⟩) 1 1) [q] (calR_one' hk (ha.fr0 h) (hb.fr0 h))
  have hdn := fun (hf : fewCals l = true) W (h : Fr No w W) => done_calls hT hTD W v l ⟨hv.sl.fr0 h, fun i q hq => (hv.ops i q hq).fr0 h, fun i q hq => (hv.keys i q hq).fr0 h⟩ hf
  obtain ⟨va, vcap, hve, _, _, _⟩ := hv.sl.shape
  have hkd := fun W => Kind_calls W q
  clear hv
  subst hve
  have hone : fewCals [q] = fewCal q := by unfold fewCals; simp
  rw [hone] at hf1c
  cases hfl : fewCals l with
  | false =>
    rw [hfl] at hfc
    obtain ⟨oa, ocap, hos, _, _, _⟩ := ha.shape
    obtain ⟨ka, kcap, hks, _, _, _⟩ := hb.shape
    clear ha hb hdn hf1c hkd hone
    obtain ⟨⟨p1, p2, ⟨g1, g2, g3, g4, g5, g6, g7⟩, p3, p4, p5⟩, ops, keys⟩ := q
    dsimp only at hos hks
    subst hos hks
    unfold calC rgC
    dsimp only
    have HFC := Lib.hid hfc
    clear hfc
    go_enter Try.func10, Try.ntmps10
    go_wp2_with (first
      | (go_at_call 28; refine (HFC.out _ ((Fr.refl No w).alloc _)).mono ?_; rintro e w1 ⟨rfl, rfl⟩)
      | (go_at_call 19; refine (awakeS_calls hT hTD _).mono ?_; rintro e w2 ⟨rfl, hf2⟩))
    go_ret
    exact ⟨rfl, ((Fr.refl No w).alloc _).trans0 hf2⟩
  | true =>
    rw [hfl] at hfc
    cases hfq : fewCal q with
    | false =>
      rw [hfq] at hf1c
      obtain ⟨oa, ocap, hos, _, _, _⟩ := ha.shape
      obtain ⟨ka, kcap, hks, _, _, _⟩ := hb.shape
      clear ha hb hdn hkd hone
      obtain ⟨⟨p1, p2, ⟨g1, g2, g3, g4, g5, g6, g7⟩, p3, p4, p5⟩, ops, keys⟩ := q
      dsimp only at hos hks
      subst hos hks
      unfold calC rgC at *
      dsimp only at *
      have HFC := Lib.hid hfc
      have HF1 := Lib.hid hf1c
      clear hfc hf1c
      have hw0 : Fr No w (w.alloc (Obj.cells #[.int .i64 p1, .slice oa ops.length ocap, .string g1, .string g2, .int .i64 g3, .int .i64 g4, .bool g5, .bool g6, .bool g7, .int .i64 p3, .int .i64 p4, .slice ka keys.length kcap] 64)) := (Fr.refl No w).alloc _
      have CA := Lib.hid (HFC.out _ hw0)
      have CB := Lib.hid (HF1.out _ (hw0.alloc (Obj.cells #[.int .i64 p1, .slice oa ops.length ocap, .string g1, .string g2, .int .i64 g3, .int .i64 g4, .bool g5, .bool g6, .bool g7, .int .i64 p3, .int .i64 p4, .slice ka keys.length kcap] 64)) (w.heap.size + 1) (alloc_at _ _ _ (by simp)))
      go_enter Try.func10, Try.ntmps10
      go_wp2_with (first
        | (go_at_call 28; with_reducible refine CA.out.mono ?_; rintro e w1 ⟨rfl, rfl⟩)
        | (go_at_call 28; with_reducible refine CB.out.mono ?_; rintro e w1 ⟨rfl, rfl⟩)
        | (go_at_call 19; refine (awakeS_calls hT hTD _).mono ?_; rintro e w2 ⟨rfl, hf2⟩))
      go_ret
      exact ⟨rfl, (((Fr.refl No w).alloc _).alloc _).trans0 hf2⟩
    | true =>
      rw [hfq] at hf1c
      have hl30 := (fewCals_parts hfl).1
      have hG := dones_good hfl l.length (Nat.le_refl _)
      have hdn := hdn hfl
      generalize donesT l l.length = SD at *
      obtain ⟨S, D⟩ := SD
      dsimp only at hG hdn
      have hG2 := hG.does (by omega) hfq
      have hS1 := fun W s F hS => State_calls2 (w := W) (s := s) (F := F) hT hG (by omega) hS
      have hS2 := fun W s F hS => State_calls2 (w := W) (s := s) (F := F) hT hG2 (by omega) hS
      have hDo := fun W s F hS (h : Fr No w W) (hn : ∀ b, F b → w.heap.size ≤ b) => Do_calls hT hTD hG (by omega) W s F hS q hfq (ha.fr0 h) (hb.fr0 h) (fun hp b hb' hF => by have := ha.lt opC_length (by decide) hp b hb'; have := hn b hF; omega) (fun hp b hb' hF => by have := hb.lt strC_length (by decide) hp b hb'; have := hn b hF; omega)
      have hbl : (betweenL S S.T S.mark).length ≤ 1099511627 := by
        have h1 := hG.size
        unfold betweenL
        exact Nat.le_trans (List.length_filterMap_le _ _) (by omega)
      have hel : S.events.length ≤ 1099511627 := by have := hG.ok.ev; omega
      have hrv : (0 ≤ S.rev ∧ S.rev ≤ 30) := by have := hG.rev; have := hG.rev1; have := hG.cpl.m0; omega
      -- what is known of the store behind the call
      have hcase : ((doE S q ≠ 0 ∨ kindN q.1.kind = 4 ∨ kindN q.1.kind = 6) ∧ doT S q = S) ∨ (doE S q = 0 ∧ kindN q.1.kind = 5 ∧ (doT S q).rev = S.rev ∧ (doT S q).mark = q.1.rev) ∨
          (doE S q = 0 ∧ kindN q.1.kind ≠ 4 ∧ kindN q.1.kind ≠ 5 ∧ kindN q.1.kind ≠ 6 ∧ (doT S q).mark = S.mark ∧ (((doT S q).rev = S.rev + 1) ∨ doT S q = S)) := by
        by_cases h1 : doE S q ≠ 0 ∨ kindN q.1.kind = 4 ∨ kindN q.1.kind = 6
        · exact .inl ⟨h1, doT_err h1⟩
        · have h2 : doE S q = 0 := Classical.not_not.1 fun h => h1 (.inl h)
          by_cases h5 : kindN q.1.kind = 5
          · exact .inr (.inl ⟨h2, h5, doT_comp h5 h2⟩)
          · have h4 : kindN q.1.kind ≠ 4 := fun h => h1 (.inr (.inl h))
            have h6 : kindN q.1.kind ≠ 6 := fun h => h1 (.inr (.inr h))
            obtain ⟨a, b⟩ := doT_more hG (by omega) hfq h4 h5 h6
            exact .inr (.inr ⟨h2, h4, h5, h6, a, b⟩)
      obtain ⟨oa, ocap, hos, _, _, _⟩ := ha.shape
      obtain ⟨ka, kcap, hks, _, _, _⟩ := hb.shape
      generalize doT S q = S' at *
      generalize doE S q = er at *
      clear ha hb hone hfl hfq hl30 hG hG2
      obtain ⟨⟨p1, p2, ⟨g1, g2, g3, g4, g5, g6, g7⟩, p3, p4, p5⟩, ops, keys⟩ := q
      dsimp only at hos hks
      subst hos hks
      unfold calC rgC at *
      dsimp only at *
      generalize kindN p1 = kd at *
      have HFC := Lib.hid hfc
      have HF1 := Lib.hid hf1c
      have HDN := Lib.hid hdn
      have HS1 := Lib.hid hS1
      have HS2 := Lib.hid hS2
      have HDO := Lib.hid hDo
      have HKD := Lib.hid hkd
      clear hfc hf1c hdn hS1 hS2 hDo hkd
      have hw0 : Fr No w (w.alloc (Obj.cells #[.int .i64 p1, .slice oa ops.length ocap, .string g1, .string g2, .int .i64 g3, .int .i64 g4, .bool g5, .bool g6, .bool g7, .int .i64 p3, .int .i64 p4, .slice ka keys.length kcap] 64)) := (Fr.refl No w).alloc _
      have hbx0 := alloc_at w (Obj.cells #[.int .i64 p1, .slice oa ops.length ocap, .string g1, .string g2, .int .i64 g3, .int .i64 g4, .bool g5, .bool g6, .bool g7, .int .i64 p3, .int .i64 p4, .slice ka keys.length kcap] 64) _ rfl
      have ca := HFC.out _ hw0
      have cb := HF1.out _ (hw0.alloc (Obj.cells #[.int .i64 p1, .slice oa ops.length ocap, .string g1, .string g2, .int .i64 g3, .int .i64 g4, .bool g5, .bool g6, .bool g7, .int .i64 p3, .int .i64 p4, .slice ka keys.length kcap] 64)) (w.heap.size + 1) (alloc_at _ _ _ (by simp))
      have CA := Lib.hid ca
      have CB := Lib.hid cb
      clear ca cb
      go_enter Try.func10, Try.ntmps10
      go_upto_region 3 with (first
        | (go_at_call 28; with_reducible refine CA.out.mono ?_; rintro e w1 ⟨rfl, rfl⟩)
        | (go_at_call 28; with_reducible refine CB.out.mono ?_; rintro e w1 ⟨rfl, rfl⟩))
      have hbx1 := alloc_old hbx0 (Obj.cells #[.int .i64 p1, .slice oa ops.length ocap, .string g1, .string g2, .int .i64 g3, .int .i64 g4, .bool g5, .bool g6, .bool g7, .int .i64 p3, .int .i64 p4, .slice ka keys.length kcap] 64)
      have hw1 : Fr No w ((w.alloc (Obj.cells #[.int .i64 p1, .slice oa ops.length ocap, .string g1, .string g2, .int .i64 g3, .int .i64 g4, .bool g5, .bool g6, .bool g7, .int .i64 p3, .int .i64 p4, .slice ka keys.length kcap] 64)).alloc (Obj.cells #[.int .i64 p1, .slice oa ops.length ocap, .string g1, .string g2, .int .i64 g3, .int .i64 g4, .bool g5, .bool g6, .bool g7, .int .i64 p3, .int .i64 p4, .slice ka keys.length kcap] 64)) := hw0.alloc _
      have hs1 : w.heap.size < ((w.alloc (Obj.cells #[.int .i64 p1, .slice oa ops.length ocap, .string g1, .string g2, .int .i64 g3, .int .i64 g4, .bool g5, .bool g6, .bool g7, .int .i64 p3, .int .i64 p4, .slice ka keys.length kcap] 64)).alloc (Obj.cells #[.int .i64 p1, .slice oa ops.length ocap, .string g1, .string g2, .int .i64 g3, .int .i64 g4, .bool g5, .bool g6, .bool g7, .int .i64 p3, .int .i64 p4, .slice ka keys.length kcap] 64)).heap.size := by simp; omega
      generalize (w.alloc (Obj.cells #[.int .i64 p1, .slice oa ops.length ocap, .string g1, .string g2, .int .i64 g3, .int .i64 g4, .bool g5, .bool g6, .bool g7, .int .i64 p3, .int .i64 p4, .slice ka keys.length kcap] 64)).alloc (Obj.cells #[.int .i64 p1, .slice oa ops.length ocap, .string g1, .string g2, .int .i64 g3, .int .i64 g4, .bool g5, .bool g6, .bool g7, .int .i64 p3, .int .i64 p4, .slice ka keys.length kcap] 64) = W1 at *
      clear hbx0 hw0
      go_upto_region 4 with (go_at_call 29; refine (HDN.out _ hw1).mono ?_; rintro e w2 ⟨s, rfl, F, hs2, hf2, hn2⟩)
      have hF2 := hs2.lt hT
      have hbx2 := hf2.heap hbx1 (fun h => h)
      have HST2 := Lib.hid hs2
      clear hs2 hbx1
      go_upto_region 5 with (first
        | (go_at_call 37; refine (HS1.out _ _ _ HST2.out).mono ?_; rintro e w3 ⟨a1, n1, c1, a2, n2, c2, rfl, hk3, he3, hf3, hkn3, hen3⟩)
        | (go_at_call 38; refine (plain_calls _ _ _ _ _ _ _ _ _).mono ?_; rintro e w4 ⟨rfl, hf4⟩; unfold stateV))
      have hf24 := hf3.trans0 hf4
      have hk4 := hk3.fr0 hf4
      have he4 := he3.fr0 hf4
      have hb6 := alloc_at w4 (Obj.cells #[.int .i64 S.rev, .int .i64 S.mark, .slice a1 n1 c1, .slice a2 n2 c2] 74) _ rfl
      have hf5 : Fr No w2 (w4.alloc (Obj.cells #[.int .i64 S.rev, .int .i64 S.mark, .slice a1 n1 c1, .slice a2 n2 c2] 74)) := hf24.alloc _
      have hk5 := hk4.alloc (Obj.cells #[.int .i64 S.rev, .int .i64 S.mark, .slice a1 n1 c1, .slice a2 n2 c2] 74)
      have he5 := he4.alloc (Obj.cells #[.int .i64 S.rev, .int .i64 S.mark, .slice a1 n1 c1, .slice a2 n2 c2] 74)
      have hst : ∃ sb, w4.heap.size = sb ∧ w2.heap.size ≤ sb := ⟨_, rfl, hf24.size⟩
      obtain ⟨sb, hsb, hsb2⟩ := hst
      rw [hsb] at hb6 ⊢
      generalize w4.alloc (Obj.cells #[.int .i64 S.rev, .int .i64 S.mark, .slice a1 n1 c1, .slice a2 n2 c2] 74) = W5 at *
      have hbx5 := hf5.heap hbx2 (fun h => h)
      have HST5 := Lib.hid (HST2.out.fr0 hT hf5)
      have HB6 := Lib.hid hb6
      have HK5 := Lib.hid hk5
      have HE5 := Lib.hid he5
      have HBX5 := Lib.hid hbx5
      have hw5 : Fr No w W5 := (hw1.trans0 hf2).trans0 hf5
      have HW5 := Lib.hid hw5
      have hs12 := hf2.size
      have hs25 := hf5.size
      have hn5 : ∀ b, F b → w.heap.size ≤ b := fun b h => by have := hn2 b h; omega
      have HN5 := Lib.hid hn5
      have x0 : W5.cell? ⟨w.heap.size, 0, none⟩ = some (.int .i64 p1) := by unfold World.cell?; dsimp only; rw [hbx5]; rfl
      have x1 : W5.cell? ⟨w.heap.size, 1, none⟩ = some (.slice oa ops.length ocap) := by unfold World.cell?; dsimp only; rw [hbx5]; rfl
      have x2 : W5.cell? ⟨w.heap.size, 2, none⟩ = some (.string g1) := by unfold World.cell?; dsimp only; rw [hbx5]; rfl
      have x3 : W5.cell? ⟨w.heap.size, 3, none⟩ = some (.string g2) := by unfold World.cell?; dsimp only; rw [hbx5]; rfl
      have x4 : W5.cell? ⟨w.heap.size, 4, none⟩ = some (.int .i64 g3) := by unfold World.cell?; dsimp only; rw [hbx5]; rfl
      have x5 : W5.cell? ⟨w.heap.size, 5, none⟩ = some (.int .i64 g4) := by unfold World.cell?; dsimp only; rw [hbx5]; rfl
      have x6 : W5.cell? ⟨w.heap.size, 6, none⟩ = some (.bool g5) := by unfold World.cell?; dsimp only; rw [hbx5]; rfl
      have x7 : W5.cell? ⟨w.heap.size, 7, none⟩ = some (.bool g6) := by unfold World.cell?; dsimp only; rw [hbx5]; rfl
      have x8 : W5.cell? ⟨w.heap.size, 8, none⟩ = some (.bool g7) := by unfold World.cell?; dsimp only; rw [hbx5]; rfl
      have x9 : W5.cell? ⟨w.heap.size, 9, none⟩ = some (.int .i64 p3) := by unfold World.cell?; dsimp only; rw [hbx5]; rfl
      have x10 : W5.cell? ⟨w.heap.size, 10, none⟩ = some (.int .i64 p4) := by unfold World.cell?; dsimp only; rw [hbx5]; rfl
      have x11 : W5.cell? ⟨w.heap.size, 11, none⟩ = some (.slice ka keys.length kcap) := by unfold World.cell?; dsimp only; rw [hbx5]; rfl
      have lx := heap_lt hbx5
      have lsb := heap_lt hb6
      clear hf3 hf4 hf24 hk3 he3 hk4 he4 hb6 hf5 hk5 he5 hbx5 hbx2 hw5 hn5 hsb HST2
      go_upto_region 6 with (go_at_call 32; refine (HDO.out _ _ _ HST5.out HW5.out HN5.out).mono ?_; rintro e w6 ⟨rfl, F6, hs6, hf6, hn6⟩)
      have nF : ∀ b, w2.heap.size ≤ b → ¬ F b := fun b hb h => by have := hF2 b h; omega
      have nFw : ¬ F w.heap.size := fun h => by have := hn2 _ h; omega
      have hb6' := hf6.heap HB6.out (nF sb hsb2)
      have hk6 := HK5.out.fr hf6 (fun b hb h => nF b (hkn3 b hb) h)
      have he6 := HE5.out.fr hf6 (fun b hb h => nF b (hen3 b hb) h)
      have hbx6 := hf6.heap HBX5.out nFw
      have HST6 := Lib.hid hs6
      clear x0 x1 x2 x3 x4 x5 x6 x7 x8 x9 x10 x11 lx lsb
      go_upto_region 7 with (first
        | (go_at_call 37; refine (HS2.out _ _ _ HST6.out).mono ?_; rintro e w7 ⟨a3, n3, c3, a4, n4, c4, rfl, hk7, he7, hf7, _, _⟩)
        | (go_at_call 38; refine (plain_calls _ _ _ _ _ _ _ _ _).mono ?_; rintro e w8 ⟨rfl, hf8⟩; unfold stateV))
      have hf68 := hf7.trans0 hf8
      have hb9 := alloc_at w8 (Obj.cells #[.int .i64 S'.rev, .int .i64 S'.mark, .slice a3 n3 c3, .slice a4 n4 c4] 74) _ rfl
      have hf9 : Fr No w6 (w8.alloc (Obj.cells #[.int .i64 S'.rev, .int .i64 S'.mark, .slice a3 n3 c3, .slice a4 n4 c4] 74)) := hf68.alloc _
      have hk9 := (hk7.fr0 hf8).alloc (Obj.cells #[.int .i64 S'.rev, .int .i64 S'.mark, .slice a3 n3 c3, .slice a4 n4 c4] 74)
      have he9 := (he7.fr0 hf8).alloc (Obj.cells #[.int .i64 S'.rev, .int .i64 S'.mark, .slice a3 n3 c3, .slice a4 n4 c4] 74)
      have hk69 := hk6.fr0 hf9
      have he69 := he6.fr0 hf9
      obtain ⟨nb, hnb⟩ : ∃ nb, w8.heap.size = nb := ⟨_, rfl⟩
      rw [hnb] at hb9 ⊢
      generalize w8.alloc (Obj.cells #[.int .i64 S'.rev, .int .i64 S'.mark, .slice a3 n3 c3, .slice a4 n4 c4] 74) = W9 at *
      have hbx9 := hf9.heap hbx6 (fun h => h)
      have hb69 := hf9.heap hb6' (fun h => h)
      have hw9 : Fr No w W9 := (HW5.out.trans hf6 fun b hb h => by have := hn2 b h; omega).trans0 hf9
      have y0 : W9.cell? ⟨w.heap.size, 0, none⟩ = some (.int .i64 p1) := by unfold World.cell?; dsimp only; rw [hbx9]; rfl
      have y1 : W9.cell? ⟨w.heap.size, 1, none⟩ = some (.slice oa ops.length ocap) := by unfold World.cell?; dsimp only; rw [hbx9]; rfl
      have y2 : W9.cell? ⟨w.heap.size, 2, none⟩ = some (.string g1) := by unfold World.cell?; dsimp only; rw [hbx9]; rfl
      have y3 : W9.cell? ⟨w.heap.size, 3, none⟩ = some (.string g2) := by unfold World.cell?; dsimp only; rw [hbx9]; rfl
      have y4 : W9.cell? ⟨w.heap.size, 4, none⟩ = some (.int .i64 g3) := by unfold World.cell?; dsimp only; rw [hbx9]; rfl
      have y5 : W9.cell? ⟨w.heap.size, 5, none⟩ = some (.int .i64 g4) := by unfold World.cell?; dsimp only; rw [hbx9]; rfl
      have y6 : W9.cell? ⟨w.heap.size, 6, none⟩ = some (.bool g5) := by unfold World.cell?; dsimp only; rw [hbx9]; rfl
      have y7 : W9.cell? ⟨w.heap.size, 7, none⟩ = some (.bool g6) := by unfold World.cell?; dsimp only; rw [hbx9]; rfl
      have y8 : W9.cell? ⟨w.heap.size, 8, none⟩ = some (.bool g7) := by unfold World.cell?; dsimp only; rw [hbx9]; rfl
      have y9 : W9.cell? ⟨w.heap.size, 9, none⟩ = some (.int .i64 p3) := by unfold World.cell?; dsimp only; rw [hbx9]; rfl
      have y10 : W9.cell? ⟨w.heap.size, 10, none⟩ = some (.int .i64 p4) := by unfold World.cell?; dsimp only; rw [hbx9]; rfl
      have y11 : W9.cell? ⟨w.heap.size, 11, none⟩ = some (.slice ka keys.length kcap) := by unfold World.cell?; dsimp only; rw [hbx9]; rfl
      have s0 : W9.cell? ⟨sb, 0, none⟩ = some (.int .i64 S.rev) := by unfold World.cell?; dsimp only; rw [hb69]; rfl
      have s1 : W9.cell? ⟨sb, 1, none⟩ = some (.int .i64 S.mark) := by unfold World.cell?; dsimp only; rw [hb69]; rfl
      have s2 : W9.cell? ⟨sb, 2, none⟩ = some (.slice a1 n1 c1) := by unfold World.cell?; dsimp only; rw [hb69]; rfl
      have s3 : W9.cell? ⟨sb, 3, none⟩ = some (.slice a2 n2 c2) := by unfold World.cell?; dsimp only; rw [hb69]; rfl
      have t0 : W9.cell? ⟨nb, 0, none⟩ = some (.int .i64 S'.rev) := by unfold World.cell?; dsimp only; rw [hb9]; rfl
      have t1 : W9.cell? ⟨nb, 1, none⟩ = some (.int .i64 S'.mark) := by unfold World.cell?; dsimp only; rw [hb9]; rfl
      have t2 : W9.cell? ⟨nb, 2, none⟩ = some (.slice a3 n3 c3) := by unfold World.cell?; dsimp only; rw [hb9]; rfl
      have t3 : W9.cell? ⟨nb, 3, none⟩ = some (.slice a4 n4 c4) := by unfold World.cell?; dsimp only; rw [hb9]; rfl
      have lx := heap_lt hbx9
      have lsb := heap_lt hb69
      have lnb := heap_lt hb9
      have HW9 := Lib.hid hw9
      have HBX9 := Lib.hid hbx9
      have HB69 := Lib.hid hb69
      have HB9 := Lib.hid hb9
      have HK9 := Lib.hid hk9
      have HE9 := Lib.hid he9
      have HK69 := Lib.hid hk69
      have HE69 := Lib.hid he69
      have HALL : Hid (∀ W, Fr No W9 W → W.heap[w.heap.size]? = some (.cells #[.int .i64 p1, .slice oa ops.length ocap, .string g1, .string g2, .int .i64 g3, .int .i64 g4, .bool g5, .bool g6, .bool g7, .int .i64 p3, .int .i64 p4, .slice ka keys.length kcap] 64 (0, 0)) ∧ W.heap[sb]? = some (.cells #[.int .i64 S.rev, .int .i64 S.mark, .slice a1 n1 c1, .slice a2 n2 c2] 74 (0, 0)) ∧ W.heap[nb]? = some (.cells #[.int .i64 S'.rev, .int .i64 S'.mark, .slice a3 n3 c3, .slice a4 n4 c4] 74 (0, 0))) := Lib.hid fun W hW => ⟨hW.heap HBX9.out (fun h => h), hW.heap HB69.out (fun h => h), hW.heap HB9.out (fun h => h)⟩
      clear hf7 hf8 hf68 hb9 hf9 hk7 he7 hk9 he9 hk69 he69 hbx9 hb69 hw9 hk6 he6 hb6' hbx6 HST5 HST6 hf6 hs6 hn6 HB6 HK5 HE5 HBX5
      have SAME : Hid (S' = S → ∀ W, Fr No W9 W → Calls Try.prog 40 #[.agg #[.int .i64 S.rev, .int .i64 S.mark, .slice a1 n1 c1, .slice a2 n2 c2], .agg #[.int .i64 S'.rev, .int .i64 S'.mark, .slice a3 n3 c3, .slice a4 n4 c4]] W fun e w' => e = .returned (.bool true) ∧ Fr No W w') := Lib.hid fun hE W hW => by
        subst hE
        exact same_calls W _ _ _ _ _ _ _ _ (HK69.out.fr0 hW) (HK9.out.fr0 hW) (HE69.out.fr0 hW) (HE9.out.fr0 hW) hbl hel
      have HC : Hid (∀ W, Fr No W9 W → W.cell? ⟨w.heap.size, 0, none⟩ = some (.int .i64 p1) ∧ W.cell? ⟨w.heap.size, 1, none⟩ = some (.slice oa ops.length ocap) ∧ W.cell? ⟨w.heap.size, 2, none⟩ = some (.string g1) ∧ W.cell? ⟨w.heap.size, 3, none⟩ = some (.string g2) ∧ W.cell? ⟨w.heap.size, 4, none⟩ = some (.int .i64 g3) ∧ W.cell? ⟨w.heap.size, 5, none⟩ = some (.int .i64 g4) ∧ W.cell? ⟨w.heap.size, 6, none⟩ = some (.bool g5) ∧ W.cell? ⟨w.heap.size, 7, none⟩ = some (.bool g6) ∧ W.cell? ⟨w.heap.size, 8, none⟩ = some (.bool g7) ∧ W.cell? ⟨w.heap.size, 9, none⟩ = some (.int .i64 p3) ∧ W.cell? ⟨w.heap.size, 10, none⟩ = some (.int .i64 p4) ∧ W.cell? ⟨w.heap.size, 11, none⟩ = some (.slice ka keys.length kcap) ∧ W.cell? ⟨sb, 0, none⟩ = some (.int .i64 S.rev) ∧ W.cell? ⟨sb, 1, none⟩ = some (.int .i64 S.mark) ∧ W.cell? ⟨sb, 2, none⟩ = some (.slice a1 n1 c1) ∧ W.cell? ⟨sb, 3, none⟩ = some (.slice a2 n2 c2) ∧ W.cell? ⟨nb, 0, none⟩ = some (.int .i64 S'.rev) ∧ W.cell? ⟨nb, 1, none⟩ = some (.int .i64 S'.mark) ∧ W.cell? ⟨nb, 2, none⟩ = some (.slice a3 n3 c3) ∧ W.cell? ⟨nb, 3, none⟩ = some (.slice a4 n4 c4)) := Lib.hid fun W hW => ⟨hW.cell0 y0, hW.cell0 y1, hW.cell0 y2, hW.cell0 y3, hW.cell0 y4, hW.cell0 y5, hW.cell0 y6, hW.cell0 y7, hW.cell0 y8, hW.cell0 y9, hW.cell0 y10, hW.cell0 y11, hW.cell0 s0, hW.cell0 s1, hW.cell0 s2, hW.cell0 s3, hW.cell0 t0, hW.cell0 t1, hW.cell0 t2, hW.cell0 t3⟩
      have hacc : Fr No W9 W9 := Fr.refl No W9
      rcases hcase with ⟨hk, hE⟩ | ⟨h0, h5, hr, hm⟩ | ⟨h0, h4, h5, h6, hm, hr⟩
      · have HE := Lib.hid hE
        clear hE
        by_cases h0 : er = 0
        · subst h0
          by_cases h4 : kd = 4
          · subst h4
            clear hk
            go_wp2_with (first
              | (go_at_call 39; refine (HKD.out _).mono ?_; rintro e wk ⟨rfl, hfk⟩; replace hacc := hacc.trans0 hfk; clear hfk; obtain ⟨y0, y1, y2, y3, y4, y5, y6, y7, y8, y9, y10, y11, s0, s1, s2, s3, t0, t1, t2, t3⟩ := HC.out _ hacc; have lx := World.block_lt_of_cell? _ _ y0; have lsb := World.block_lt_of_cell? _ _ s0; have lnb := World.block_lt_of_cell? _ _ t0)
              | (go_at_call 40; refine (SAME.out HE.out _ hacc).mono ?_; rintro e wm ⟨rfl, hfm⟩; replace hacc := hacc.trans0 hfm; clear hfm)
              | (go_at_call 19; refine (awakeS_calls hT hTD _).mono ?_; rintro e wn ⟨rfl, hfn⟩; replace hacc := hacc.trans0 hfn; clear hfn))
            go_ret
            exact ⟨rfl, HW9.out.trans0 hacc⟩
          · have h6 : kd = 6 := by
              rcases hk with h | h | h
              · exact absurd rfl h
              · exact absurd h h4
              · exact h
            subst h6
            clear hk h4
            go_wp2_with (first
              | (go_at_call 39; refine (HKD.out _).mono ?_; rintro e wk ⟨rfl, hfk⟩; replace hacc := hacc.trans0 hfk; clear hfk; obtain ⟨y0, y1, y2, y3, y4, y5, y6, y7, y8, y9, y10, y11, s0, s1, s2, s3, t0, t1, t2, t3⟩ := HC.out _ hacc; have lx := World.block_lt_of_cell? _ _ y0; have lsb := World.block_lt_of_cell? _ _ s0; have lnb := World.block_lt_of_cell? _ _ t0)
              | (go_at_call 40; refine (SAME.out HE.out _ hacc).mono ?_; rintro e wm ⟨rfl, hfm⟩; replace hacc := hacc.trans0 hfm; clear hfm)
              | (go_at_call 19; refine (awakeS_calls hT hTD _).mono ?_; rintro e wn ⟨rfl, hfn⟩; replace hacc := hacc.trans0 hfn; clear hfn))
            go_ret
            exact ⟨rfl, HW9.out.trans0 hacc⟩
        · have h0' : (er == 0) = false := by simpa using h0
          clear hk
          go_wp2_with (first
            | (go_at_call 39; refine (HKD.out _).mono ?_; rintro e wk ⟨rfl, hfk⟩; replace hacc := hacc.trans0 hfk; clear hfk; obtain ⟨y0, y1, y2, y3, y4, y5, y6, y7, y8, y9, y10, y11, s0, s1, s2, s3, t0, t1, t2, t3⟩ := HC.out _ hacc; have lx := World.block_lt_of_cell? _ _ y0; have lsb := World.block_lt_of_cell? _ _ s0; have lnb := World.block_lt_of_cell? _ _ t0)
            | (go_at_call 40; refine (SAME.out HE.out _ hacc).mono ?_; rintro e wm ⟨rfl, hfm⟩; replace hacc := hacc.trans0 hfm; clear hfm)
            | (go_at_call 19; refine (awakeS_calls hT hTD _).mono ?_; rintro e wn ⟨rfl, hfn⟩; replace hacc := hacc.trans0 hfn; clear hfn))
          go_ret
          exact ⟨rfl, HW9.out.trans0 hacc⟩
      · subst h0 h5
        have hr' : (S'.rev == S.rev) = true := by rw [hr]; simp
        have hm' : (S'.mark == p3) = true := by rw [hm]; simp
        clear hr hm
        go_wp2_with (first
          | (go_at_call 39; refine (HKD.out _).mono ?_; rintro e wk ⟨rfl, hfk⟩; replace hacc := hacc.trans0 hfk; clear hfk; obtain ⟨y0, y1, y2, y3, y4, y5, y6, y7, y8, y9, y10, y11, s0, s1, s2, s3, t0, t1, t2, t3⟩ := HC.out _ hacc; have lx := World.block_lt_of_cell? _ _ y0; have lsb := World.block_lt_of_cell? _ _ s0; have lnb := World.block_lt_of_cell? _ _ t0)
          | (go_at_call 19; refine (awakeS_calls hT hTD _).mono ?_; rintro e wn ⟨rfl, hfn⟩; replace hacc := hacc.trans0 hfn; clear hfn))
        go_ret
        exact ⟨rfl, HW9.out.trans0 hacc⟩
      · subst h0
        have h4' : (kd == 4) = false := by simpa using h4
        have h5' : (kd == 5) = false := by simpa using h5
        have h6' : (kd == 6) = false := by simpa using h6
        have hm' : (S'.mark == S.mark) = true := by rw [hm]; simp
        rcases hr with hr | hr
        · have hr' : (S'.rev == S.rev + 1) = true := by rw [hr]; simp
          clear hr hm
          go_wp2_with (first
            | (go_at_call 39; refine (HKD.out _).mono ?_; rintro e wk ⟨rfl, hfk⟩; replace hacc := hacc.trans0 hfk; clear hfk; obtain ⟨y0, y1, y2, y3, y4, y5, y6, y7, y8, y9, y10, y11, s0, s1, s2, s3, t0, t1, t2, t3⟩ := HC.out _ hacc; have lx := World.block_lt_of_cell? _ _ y0; have lsb := World.block_lt_of_cell? _ _ s0; have lnb := World.block_lt_of_cell? _ _ t0)
            | (go_at_call 19; refine (awakeS_calls hT hTD _).mono ?_; rintro e wn ⟨rfl, hfn⟩; replace hacc := hacc.trans0 hfn; clear hfn))
          go_ret
          exact ⟨rfl, HW9.out.trans0 hacc⟩
        · have hr' : (S'.rev == S.rev + 1) = false := by rw [hr, beq_eq_false_iff_ne]; omega
          have HE := Lib.hid hr
          clear hr hm
          go_wp2_with (first
            | (go_at_call 39; refine (HKD.out _).mono ?_; rintro e wk ⟨rfl, hfk⟩; replace hacc := hacc.trans0 hfk; clear hfk; obtain ⟨y0, y1, y2, y3, y4, y5, y6, y7, y8, y9, y10, y11, s0, s1, s2, s3, t0, t1, t2, t3⟩ := HC.out _ hacc; have lx := World.block_lt_of_cell? _ _ y0; have lsb := World.block_lt_of_cell? _ _ s0; have lnb := World.block_lt_of_cell? _ _ t0)
            | (go_at_call 40; refine (SAME.out HE.out _ hacc).mono ?_; rintro e wm ⟨rfl, hfm⟩; replace hacc := hacc.trans0 hfm; clear hfm)
            | (go_at_call 19; refine (awakeS_calls hT hTD _).mono ?_; rintro e wn ⟨rfl, hfn⟩; replace hacc := hacc.trans0 hfn; clear hfn))
          go_ret
          exact ⟨rfl, HW9.out.trans0 hacc⟩
end Go.Proofs.Ythljnnjpmdgkoaa
