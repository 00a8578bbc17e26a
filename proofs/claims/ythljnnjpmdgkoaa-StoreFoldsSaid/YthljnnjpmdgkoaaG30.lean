/- The chapter's examples of the store hold: the statements' own awake, over any tree. The condition: the tree does what it should. The statement StorePast's function returns true, whatever its argument is. The package index: a node taken, a node dropped. The condition: not too many nodes. -/
import Derived.Test.YthljnnjpmdgkoaaG22
import Derived.Test.YthljnnjpmdgkoaaG29
import Derived.Test.YthljnnjpmdgkoaaG28
namespace Go.Proofs.Ythljnnjpmdgkoaa
open Go Go.Proofs Go.RowKit
set_option maxRecDepth 100000

def bCs : ByteArray := ⟨#[99]⟩
def b3s : ByteArray := ⟨#[51]⟩
def opsAs : List Opr := [putO bA b1, putO bB b2]
def SAs : St := applyS newS opsAs
def SBs : St := applyS SAs [putO bA b3s]
def gDescs : Rg := ⟨bA, bCs, 0, 1, false, false, true⟩
def gOlds : Rg := ⟨bA, ByteArray.empty, 1, 0, false, false, false⟩
theorem ap_As : applyE newS opsAs = 0 := by kernel_rfl
theorem ap_Bs : applyE SAs [putO bA b3s] = 0 := by kernel_rfl
theorem SAs_good : ∃ D, Good 1 SAs D := ⟨_, Good.new.apply (by omega) (applyE_zero ap_As).1 (by decide)⟩
theorem SBs_good : ∃ D, Good 2 SBs D := by
  obtain ⟨D, h⟩ := SAs_good
  exact ⟨_, h.apply (by omega) (applyE_zero ap_Bs).1 (by decide)⟩
theorem SBs_rev : SBs.rev = 2 := by kernel_rfl
theorem runs_A : ((runR (SAs.rev + 1) ⟨SAs, [], []⟩ [putO bA b3s]).A).map (fun a => a.count) = [1] := by kernel_rfl
theorem runs_E : ((runR (SAs.rev + 1) ⟨SAs, [], []⟩ [putO bA b3s]).E).map (fun x => x.prev.value) = [b1] := by kernel_rfl
theorem rngs_e1 : rangeE SBs gDescs = 0 := by kernel_rfl
theorem rngs_e2 : rangeE SBs gOlds = 0 := by kernel_rfl
theorem rngs_1 : (getL SBs gDescs SBs.rev).map (·.value) = [b2] := by kernel_rfl
theorem rngs_1n : (allL SBs gDescs SBs.rev).length = 2 := by kernel_rfl
theorem rngs_1m : moreB SBs gDescs SBs.rev = true := by kernel_rfl
theorem rngs_2 : (getL SBs gOlds SBs.rev).map (·.value) = [b1] := by kernel_rfl
theorem comps_0 : compactE SBs 2 = 0 := by kernel_rfl

theorem put11s_calls (w : World) (k v : ByteArray) : Calls Try.prog 51 #[.string k, .string v] w fun e w' => e = .returned (opV (putO k v)) ∧ Fr No w w' := by
  go_enter Try.func51, Try.ntmps51
  go_wp2
  exact bodyPost_ret (results_cell_row rfl _ _ w.heap.size 87 _ (0, 0) _ rfl (alloc_at _ _ _ rfl) Try.underlying87 rfl (by kernel_rfl)) rfl ⟨rfl, (Fr.refl No w).alloc _⟩

theorem slR_twos {W : World} {b : Nat} {o1 o2 : Opr} {t : TypeId} (h : W.heap[b]? = some (.cells (opC o1 ++ opC o2).toArray t (0, 0))) : SlR W 10 opC (.slice (some ⟨b, 0, none⟩) 2 2) [o1, o2] := by
  refine ⟨_, 2, rfl, by simp, by decide, fun _ => ⟨b, 0, rfl, fun i x hx j u hu => ?_⟩⟩
  have hj : j < 10 := (List.getElem?_eq_some_iff.1 hu).1
  unfold World.cell?
  simp only [h, Option.isSome_none, Bool.false_eq_true, if_false, List.getElem?_toArray]
  match i, hx with
  | 0, hx =>
    obtain rfl : o1 = x := by simpa using hx
    simp only [Nat.zero_mul, Nat.zero_add]
    rw [List.getElem?_append_left (by exact hj)]
    exact hu
  | 1, hx =>
    obtain rfl : o2 = x := by simpa using hx
    simp only [Nat.one_mul, Nat.zero_add]
    rw [List.getElem?_append_right (by rw [opC_length]; omega), opC_length, Nat.add_sub_cancel_left]
    exact hu
  | i + 2, hx => simp at hx

theorem slR_ones {W : World} {b : Nat} {o1 : Opr} {t : TypeId} (h : W.heap[b]? = some (.cells (opC o1).toArray t (0, 0))) : SlR W 10 opC (.slice (some ⟨b, 0, none⟩) 1 1) [o1] := by
  refine ⟨_, 1, rfl, by simp, by decide, fun _ => ⟨b, 0, rfl, fun i x hx j u hu => ?_⟩⟩
  have hi : i = 0 := by have := (List.getElem?_eq_some_iff.1 hx).1; simp at this; omega
  subst hi
  obtain rfl : o1 = x := by simpa using hx
  unfold World.cell?
  simp only [h, Nat.zero_mul, Nat.zero_add, Option.isSome_none, Bool.false_eq_true, if_false]
  simpa using hu

theorem applys_A {TA : TreeRel} (hT : TreeOk TA 1000000) (W : World) (s p : Nat) (F0 : Nat → Prop) (hS : StoreAt TA W s st0 F0) (hp : W.heap[p]? = some (.cells (opC (putO bA b1) ++ opC (putO bB b2)).toArray 87 (0, 0))) (np : ¬ F0 p) :
    Calls Try.prog 41 #[.pointer (some ⟨s, 0, none⟩), .slice (some ⟨p, 0, none⟩) 2 2] W fun e w' => ∃ av ev F1, e = .returned (.tuple #[av, ev, .int .i64 0]) ∧ StoreAt TA w' s SAs F1 ∧ Fr F0 W w' ∧ (∀ b, F1 b → F0 b ∨ W.heap.size ≤ b) := by
  have h := Apply_calls2 hT Good.new (by omega) W s F0 hS _ opsAs (slR_twos hp) (fun _ b hb => by simp [Value.ownBlock] at hb; rw [← hb]; exact np) (by decide) (by decide)
  rw [ap_As] at h
  simp only [if_true] at h
  refine h.mono ?_
  rintro e w' ⟨av, ev, rfl, F1, Z, h1, h2, h3, h4, h5, h6⟩
  exact ⟨av, ev, F1, rfl, h1, h5, h6⟩

theorem applys_B {TA : TreeRel} (hT : TreeOk TA 1000000) (W : World) (s p : Nat) (F0 : Nat → Prop) (hS : StoreAt TA W s SAs F0) (hp : W.heap[p]? = some (.cells (opC (putO bA b3s)).toArray 87 (0, 0))) (np : ¬ F0 p) :
    Calls Try.prog 41 #[.pointer (some ⟨s, 0, none⟩), .slice (some ⟨p, 0, none⟩) 1 1] W fun e w' => ∃ g o cap g' o' cap' F1, e = .returned (.tuple #[.slice (some ⟨g, o, none⟩) 1 cap, .slice (some ⟨g', o', none⟩) 1 cap', .int .i64 0]) ∧ StoreAt TA w' s SBs F1 ∧
      w'.cell? ⟨g, o + 2, none⟩ = some (.int .i64 1) ∧ w'.cell? ⟨g', o' + 8, none⟩ = some (.string b1) ∧ Fr F0 W w' ∧ (∀ b, F1 b → F0 b ∨ W.heap.size ≤ b) := by
  obtain ⟨D, hG⟩ := SAs_good
  have h := Apply_calls2 hT hG (by omega) W s F0 hS _ [putO bA b3s] (slR_ones hp) (fun _ b hb => by simp [Value.ownBlock] at hb; rw [← hb]; exact np) (by decide) (by decide)
  rw [ap_Bs] at h
  simp only [if_true] at h
  refine h.mono ?_
  rintro e w' ⟨av, ev, rfl, F1, Z, h1, h2, h3, h4, h5, h6⟩
  have hz : Z.map (fun q => q.1.count) = [1] := by
    have e1 := congrArg (List.map fun a : Ans => a.count) h3
    rw [runs_A, List.map_map] at e1
    exact e1
  obtain ⟨z, rfl⟩ := List.length_eq_one_iff.1 (show Z.length = 1 by have := congrArg List.length hz; simpa using this)
  simp only [List.map_cons, List.map_nil, List.cons.injEq, and_true] at hz
  obtain ⟨a, cap, rfl, h9, h10, h11⟩ := h2.sl.shape
  obtain ⟨g, o, rfl⟩ := h11 (by simp)
  have hc := h2.sl.cell ansC_length 0 2 rfl rfl
  rw [hz] at hc
  have hE := runs_E
  generalize (runR (SAs.rev + 1) ⟨SAs, [], []⟩ [putO bA b3s]).E = E at h4 hE
  obtain ⟨x, rfl⟩ := List.length_eq_one_iff.1 (show E.length = 1 by have := congrArg List.length hE; simpa using this)
  simp only [List.map_cons, List.map_nil, List.cons.injEq, and_true] at hE
  obtain ⟨a', cap', rfl, _, _, h12⟩ := h4.shape
  obtain ⟨g', o', rfl⟩ := h12 (by simp)
  have hd := h4.cell evC_length 0 8 rfl rfl
  rw [hE] at hd
  exact ⟨g, o, cap, g', o', cap', F1, rfl, h1, by simpa using hc, by simpa using hd, h5, h6⟩

theorem ranges_1 {TA : TreeRel} (hT : TreeOk TA 1000000) (W : World) (s : Nat) (F : Nat → Prop) (hS : StoreAt TA W s SBs F) :
    Calls Try.prog 30 #[.pointer (some ⟨s, 0, none⟩), rgV gDescs] W fun e w' => ∃ g o cap, e = .returned (.tuple #[.slice (some ⟨g, o, none⟩) 1 cap, .int .i64 2, .bool true, .int .i64 0]) ∧ w'.cell? ⟨g, o + 1, none⟩ = some (.string b2) ∧ Fr No W w' := by
  obtain ⟨D, hG⟩ := SBs_good
  have h := Range_calls2 hT hG (by omega) W s F hS gDescs (by decide)
  rw [rngs_e1] at h
  simp only [if_true, decide_true, Bool.true_and] at h
  refine h.mono ?_
  rintro e w' ⟨v, rfl, hv, hf, hvn⟩
  rw [rngs_1n, rngs_1m]
  have hL := rngs_1
  generalize getL SBs gDescs SBs.rev = L at hv hL
  obtain ⟨x, rfl⟩ := List.length_eq_one_iff.1 (show L.length = 1 by have := congrArg List.length hL; simpa using this)
  simp only [List.map_cons, List.map_nil, List.cons.injEq, and_true] at hL
  obtain ⟨a, cap, rfl, _, _, h1⟩ := hv.shape
  obtain ⟨g, o, rfl⟩ := h1 (by simp)
  have hc := hv.cell kvC_length 0 1 rfl rfl
  rw [hL] at hc
  exact ⟨g, o, cap, rfl, by simpa using hc, hf⟩

theorem ranges_2 {TA : TreeRel} (hT : TreeOk TA 1000000) (W : World) (s : Nat) (F : Nat → Prop) (hS : StoreAt TA W s SBs F) :
    Calls Try.prog 30 #[.pointer (some ⟨s, 0, none⟩), rgV gOlds] W fun e w' => ∃ g o cap m mo, e = .returned (.tuple #[.slice (some ⟨g, o, none⟩) 1 cap, .int .i64 m, .bool mo, .int .i64 0]) ∧ w'.cell? ⟨g, o + 1, none⟩ = some (.string b1) ∧ Fr No W w' := by
  obtain ⟨D, hG⟩ := SBs_good
  have h := Range_calls2 hT hG (by omega) W s F hS gOlds (by decide)
  rw [rngs_e2] at h
  simp only [if_true, decide_true, Bool.true_and] at h
  refine h.mono ?_
  rintro e w' ⟨v, rfl, hv, hf, hvn⟩
  have hL := rngs_2
  generalize getL SBs gOlds SBs.rev = L at hv hL
  obtain ⟨x, rfl⟩ := List.length_eq_one_iff.1 (show L.length = 1 by have := congrArg List.length hL; simpa using this)
  simp only [List.map_cons, List.map_nil, List.cons.injEq, and_true] at hL
  obtain ⟨a, cap, rfl, _, _, h1⟩ := hv.shape
  obtain ⟨g, o, rfl⟩ := h1 (by simp)
  have hc := hv.cell kvC_length 0 1 rfl rfl
  rw [hL] at hc
  exact ⟨g, o, cap, _, _, rfl, by simpa using hc, hf⟩

set_option maxHeartbeats 8000000 in
theorem awakeS_calls {TA : TreeRel} (hT : TreeOk TA 1000000) (hTD : TreeDl TA) (w : World) : Calls Try.prog 19 #[] w fun e w' => e = .returned (.bool true) ∧ Fr No w w' := by
  have hr1 := fun W s F hS => ranges_1 hT W s F hS
  have hr2 := fun W s F hS => ranges_2 hT W s F hS
  unfold rgV gDescs bA bCs at hr1
  unfold rgV gOlds bA at hr2
  unfold b2 at hr1
  unfold b1 at hr2
  dsimp only at hr1 hr2
  have HR1 := Lib.hid hr1
  have HR2 := Lib.hid hr2
  clear hr1 hr2
  go_enter Try.func19, Try.ntmps19
  go_upto_region 4 with (first
    | (go_at_call 31; refine (StoreNew_calls hT _).mono ?_; rintro e w1 ⟨s, rfl, F0, hs1, hf1, hn1⟩; have hacc := Fr.refl No w1)
    | (go_at_call 51; refine (put11s_calls _ _ _).mono ?_; rintro e w2 ⟨rfl, hf2⟩; replace hacc := hacc.trans0 hf2; unfold opV putO rg0; dsimp only)
    | (go_at_call 41
       refine (applys_A hT _ s _ F0 (hs1.fr0 hT (hacc.alloc _)) (alloc_at _ _ _ rfl) (fun h => by have := hs1.lt hT _ h; have := hacc.size; omega)).mono ?_
       rintro e w3 ⟨av, ev, F1, rfl, hs3, hf3, hn3⟩
       have hw3 : Fr No w w3 := ((hf1.trans0 hacc).alloc _).trans hf3 fun b hb h => by have := hn1 b h; omega
       have hF1 : ∀ b, F1 b → w.heap.size ≤ b := fun b hb => by
         rcases hn3 b hb with h | h
         · exact hn1 b h
         · have h1 := (hf1.trans0 hacc).size
           simp at h
           omega
       clear hs1 hf1 hn1 hf2 hf3 hn3 hacc
       have hacc := Fr.refl No w3)
    | (go_at_call 41
       refine (applys_B hT _ s _ F1 (hs3.fr0 hT (hacc.alloc _)) (alloc_at _ _ _ rfl) (fun h => by have := hs3.lt hT _ h; have := hacc.size; omega)).mono ?_
       rintro e w4 ⟨g, o, cap, g', o', cap', F2, rfl, hs4, hc4, hd4, hf4, hn4⟩
       have hw4 : Fr No w w4 := ((hw3.trans0 hacc).alloc _).trans hf4 fun b hb h => by have := hF1 b h; omega
       have hF2 : ∀ b, F2 b → w.heap.size ≤ b := fun b hb => by
         rcases hn4 b hb with h | h
         · exact hF1 b h
         · have h1 := (hw3.trans0 hacc).size
           simp at h
           omega
       clear hs3 hf4 hn4 hacc hw3 hF1))
  go_upto_region 5 with (go_at_call 30; refine (HR1.out w4 s F2 hs4).mono ?_; rintro e w5 ⟨g1, o1, cap1, rfl, hc5, hf5⟩)
  go_upto_region 6 with (go_at_call 30; refine (HR2.out w5 s F2 (hs4.fr0 hT hf5)).mono ?_; rintro e w6 ⟨g2, o2, cap2, m2, mo2, rfl, hc6, hf6⟩)
  have hs6 := hs4.fr0 hT (hf5.trans0 hf6)
  have x1 := (hf5.trans0 hf6).cell0 hc4
  have x2 := (hf5.trans0 hf6).cell0 hd4
  have x3 := hf6.cell0 hc5
  have hw6 : Fr No w w6 := (hw4.trans0 hf5).trans0 hf6
  have l1 := World.block_lt_of_cell? _ _ x1
  have l2 := World.block_lt_of_cell? _ _ x2
  have l3 := World.block_lt_of_cell? _ _ x3
  have l4 := World.block_lt_of_cell? _ _ hc6
  obtain ⟨D, hG⟩ := SBs_good
  have hcm := Compact_calls2 hT hTD hG (by omega) w6 s F2 hs6 2
  rw [comps_0] at hcm
  have HS6 := Lib.hid hs6
  have HCM := Lib.hid hcm
  have HF2 := Lib.hid hF2
  have HW6 := Lib.hid hw6
  clear hs4 hc4 hd4 hc5 hf5 hf6 hw4 hs6 hcm hF2 hw6
  unfold b1 at x2
  go_wp2_with (first
    | (go_at_call 33; refine (StoreRev_calls w6 s SBs F2 HS6.out).mono ?_; rintro e w9 ⟨rfl, rfl⟩; rw [SBs_rev])
    | (go_at_call 44; refine HCM.out.mono ?_; rintro e w10 ⟨rfl, F10, _, hf10, _⟩))
  go_ret
  exact ⟨rfl, HW6.out.trans hf10 fun b hb h => by have := HF2.out b h; omega⟩
end Go.Proofs.Ythljnnjpmdgkoaa

namespace Go.Proofs.Ythljnnjpmdgkoaa
open Go Go.Proofs Go.RowKit
set_option maxRecDepth 100000

theorem StoreMark_calls {TA : TreeRel} (w : World) (s : Nat) (S : St) (F : Nat → Prop) (hS : StoreAt TA w s S F) : Calls Try.prog 35 #[.pointer (some ⟨s, 0, none⟩)] w fun e w' => e = .returned (.int .i64 S.mark) ∧ w = w' := by
  obtain ⟨t, p, ev, hp, FT, FH, a, hF⟩ := hS
  have c4 := a.obj.cell 4 rfl
  have ls := a.obj.lt
  clear a
  go_enter Try.func35, Try.ntmps35
  go_wp2
  go_ret
  exact ⟨rfl, rfl⟩
theorem allR_calls (w : World) (rev : Int) : Calls Try.prog 34 #[.int .i64 rev] w fun e w' => e = .returned (rgV (allG rev)) ∧ Fr No w w' := by
  go_enter Try.func34, Try.ntmps34
  go_wp2
  exact bodyPost_ret (results_cell_row rfl _ _ w.heap.size 38 _ (0, 0) _ rfl (alloc_at _ _ _ rfl) Try.underlying38 rfl (by kernel_rfl)) rfl ⟨rfl, (Fr.refl No w).alloc _⟩
theorem newPast (w : World) : PastR (w.alloc (Obj.cells #[.slice none 0 0] 53)) (.slice (some ⟨w.heap.size, 0, none⟩) 1 1) [(.slice none 0 0, [])] := by
  refine ⟨⟨by simp [pasC], .inr ⟨w.heap.size, 0, 1, #[.slice none 0 0], rfl, alloc_at _ _ _ rfl, by simp, by decide, by simp, by simp [pasC]⟩⟩, fun i q hq => ?_, fun i q hq b hb => ?_⟩
  · have hi := (List.getElem?_eq_some_iff.1 hq).1
    have h0 : i = 0 := by simp at hi; omega
    subst h0
    simp at hq
    subst hq
    exact SlF.nil _ _ _ _
  · have hi := (List.getElem?_eq_some_iff.1 hq).1
    have h0 : i = 0 := by simp at hi; omega
    subst h0
    simp at hq
    subst hq
    simp [Value.ownBlock] at hb

set_option maxHeartbeats 8000000 in
theorem storePast_walk {TA : TreeRel} (hT : TreeOk TA 1000000) (hTD : TreeDl TA) (w : World) (v : Value) (l : List CalQ) (hv : CalR w v l) :
    Calls Try.prog 8 #[v] w fun e w' => e = .returned (.bool true) ∧ Fr No w w' := by
  have hfc := fewCals_calls w v l hv
  cases hfl : fewCals l with
  | false =>
    rw [hfl] at hfc
    obtain ⟨va, vcap, hve, _, _, _⟩ := hv.sl.shape
    clear hv
    subst hve
    have CA := Lib.hid hfc
    clear hfc
    go_enter Try.func8, Try.ntmps8
    go_wp2_with (first
      | (go_at_call 28; with_reducible refine CA.out.mono ?_; rintro e w1 ⟨rfl, rfl⟩)
      | (go_at_call 19; refine (awakeS_calls hT hTD _).mono ?_; rintro e w2 ⟨rfl, hf2⟩))
    go_ret
    exact ⟨rfl, hf2⟩
  | true =>
    rw [hfl] at hfc
    obtain ⟨h1, h2⟩ := fewCals_parts hfl
    have hgd := dones_good hfl
    obtain ⟨hv, hops, hkeys⟩ := hv
    obtain ⟨a, cap, rfl, hc1, hc2, ha⟩ := hv.shape
    have HV := Lib.hid hv
    have HA := Lib.hid ha
    have HO := Lib.hid hops
    have HK := Lib.hid hkeys
    have HG := Lib.hid hgd
    have H2 := Lib.hid h2
    have CA := Lib.hid hfc
    clear hv ha hops hkeys hgd h2 hfc hfl
    obtain ⟨i0, hi0, hz0, hz1, hz2⟩ := info_parts info53
    go_enter Try.func8, Try.ntmps8
    go_upto_region 4 with (first
      | (go_at_call 28; with_reducible refine CA.out.mono ?_; rintro e w0 ⟨rfl, rfl⟩)
      | (go_at_call 31; refine (StoreNew_calls hT _).mono ?_; rintro e w1 ⟨s, rfl, F0, hs0, hf1, hn0⟩))
    have hF0 := hs0.lt hT
    have hp2 := newPast w1
    have hf2 : Fr No w (w1.alloc (Obj.cells #[.slice none 0 0] 53)) := hf1.alloc _
    have hs2 : StoreAt TA (w1.alloc (Obj.cells #[.slice none 0 0] 53)) s (donesT l 0).1 F0 := hs0.fr0 hT ((Fr.refl No w1).alloc _)
    have HP2 := Lib.hid hp2
    have HF2 := Lib.hid hf2
    have HS2 := Lib.hid hs2
    have HN0 := Lib.hid hn0
    have HPF2 : Hid (∀ b, pasF (.slice (some ⟨w1.heap.size, 0, none⟩) 1 1) [(.slice none 0 0, [])] b → w.heap.size ≤ b ∧ ¬ F0 b) := Lib.hid (by
      have hsz := hf1.size
      rintro b (e | ⟨i, q, hq, e⟩)
      · obtain rfl : w1.heap.size = b := by simpa [Value.ownBlock] using e
        exact ⟨hsz, fun h => by have := hF0 _ h; omega⟩
      · have hi := (List.getElem?_eq_some_iff.1 hq).1
        have h0 : i = 0 := by simp at hi; omega
        subst h0
        simp at hq
        subst hq
        simp [Value.ownBlock] at e)
    clear hs0 hp2 hf2 hs2 hn0 hF0
    go_wp2
    go_loopg [5, 4] l.length (fun g s5 s4 wr => ∃ (i : Nat) (F : Nat → Prop) (pv : Value) (Z : List (Value × List Kv)), s5 = .int .i64 i ∧ s4 = pv ∧ i + g = l.length ∧ Hid (StoreAt TA wr s (donesT l i).1 F) ∧ Hid (Fr No w wr) ∧ Hid (∀ b, F b → w.heap.size ≤ b) ∧
      Hid (PastR wr pv Z) ∧ Hid (PastOk Z (donesT l i).2) ∧ Hid (∀ b, pasF pv Z b → w.heap.size ≤ b ∧ ¬ F b))
    case atStart => exact ⟨0, F0, _, _, rfl, rfl, by simp, HS2, HF2, HN0, HP2, Lib.hid (PastOk.new _), HPF2⟩
    case round =>
      obtain ⟨i, F, pv, Z, rfl, rfl, hi, HS, HF, HN, HP, HPK, HPF⟩ := hrel
      have hG := HG.out i (by omega)
      have hzl := HPK.out.len
      obtain ⟨pa, pcap, rfl, hpc1, hpc2, hpa⟩ := HP.out.sl.shape
      have HPA := Lib.hid hpa
      clear hpa
      cases gk with
      | zero =>
        have hil : ¬ (i : Int) < (l.length : Int) := by omega
        have hie : i = l.length := by omega
        subst hie
        generalize donesT l l.length = SD at *
        obtain ⟨S, D⟩ := SD
        dsimp only at HS HPK hG hzl
        have hr := hG.rev
        have hr1 := hG.rev1
        have hm0 := hG.cpl.m0
        have hmk := hG.cpl.mark
        have hRange := fun W (h : Fr No wr W) g hg => Range_calls2 hT hG (by omega) W s F (HS.out.fr0 hT h) g hg
        have hMark := fun W (h : Fr No wr W) => StoreMark_calls W s S F (HS.out.fr0 hT h)
        have hbl : ∀ r, (allD D r).length ≤ 1099511627 → True := fun _ _ => trivial
        have hgl : ∀ r : Int, 0 ≤ r → whenE S r = 0 → D.mark ≤ (if r ≠ 0 then r else S.rev) := fun r h0 h => by
          unfold whenE at h
          split at h
          · cases h
          · split at h
            · cases h
            · split <;> omega
        have HRA := Lib.hid hRange
        have HMA := Lib.hid hMark
        have HGG := Lib.hid hG
        have HGL := Lib.hid hgl
        have hZ1 : 1 ≤ Z.length := by omega
        have hZ2 : Z.length ≤ 32 := by omega
        clear hRange hMark hG hgl hbl
        go_wp2
        obtain ⟨wo, hwo⟩ : ∃ wo, wo = wr := ⟨_, rfl⟩
        subst hwo
        go_loopg [10] (Z.length - 1) (fun g s10 wq => ∃ r : Nat, s10 = .int .i64 r ∧ 1 ≤ r ∧ r + g = Z.length ∧ Hid (Fr No wo wq))
        case atStart => exact ⟨1, rfl, by omega, by omega, Lib.hid (Fr.refl No wo)⟩
        case round =>
          obtain ⟨r, rfl, hr1', hi2, HQ⟩ := hrel
          cases gk with
          | zero =>
            have hrl : ¬ (r : Int) < (Z.length : Int) := by omega
            have hw3 : rangeE S (allG (Z.length : Int)) = 33 := by
              rw [rangeE_all S (by omega)]
              unfold whenE
              rw [if_pos (by omega)]
            have C34 := fun W => allR_calls W (Z.length : Int)
            have C30 := fun W (h : Fr No wo W) => HRA.out W h (allG (Z.length : Int)) (show (⟨#[1]⟩ : ByteArray).size ≤ 3000 by decide)
            rw [hw3] at C30
            unfold rgV allG at C34 C30
            dsimp only at C34 C30
            simp only [show ¬ (33 : Int) = 0 by decide, if_false, decide_false, Bool.false_and] at C30
            have H34 := Lib.hid C34
            have H30 := Lib.hid C30
            clear C34 C30 hzl hw3
            go_wp2_with (first
              | (go_at_call 34; refine (H34.out _).mono ?_; rintro e w5 ⟨rfl, hf5⟩)
              | (go_at_call 30; refine (H30.out _ (HQ.out.trans0 hf5)).mono ?_; rintro e w6 ⟨v6, rfl, _, hf6, _⟩)
              | (go_at_call 19; refine (awakeS_calls hT hTD _).mono ?_; rintro e w7 ⟨rfl, hf7⟩))
            go_ret
            exact ⟨rfl, (HF.out.trans0 (HQ.out.trans0 hf5)).trans0 (hf6.trans0 hf7)⟩
          | succ g2 =>
            have hrl : (r : Int) < (Z.length : Int) := by omega
            obtain ⟨q, hq⟩ : ∃ q, Z[r]? = some q := ⟨_, List.getElem?_eq_getElem (by omega)⟩
            obtain ⟨pb, po, rfl⟩ := HPA.out (by omega)
            have hps := HP.out.fr HQ.out (fun _ _ h => h)
            have zc0 := hps.sl.cell0 pasC_length r hq rfl
            have zk := hps.kvs r q hq
            obtain ⟨qa, qcap, hqe, hqc1, hqc2, _⟩ := zk.shape
            rw [hqe] at zc0 zk
            have zc : wr.cell? ⟨pb, po + r, none⟩ = some (.slice qa q.2.length qcap) := by simpa using zc0
            have lpb := World.block_lt_of_cell? _ _ zc
            have hrE : rangeE S (allG (r : Int)) = if (r : Int) < S.mark then 32 else 0 := by
              rw [rangeE_all S (by omega)]
              unfold whenE
              rw [if_neg (by omega)]
              by_cases hm : (r : Int) < S.mark
              · rw [if_pos ⟨by omega, hm⟩, if_pos hm]
              · rw [if_neg (by omega), if_neg hm]
            have C34 := fun W => allR_calls W (r : Int)
            have C30 := fun W (h : Fr No wo W) => HRA.out W h (allG (r : Int)) (show (⟨#[1]⟩ : ByteArray).size ≤ 3000 by decide)
            have C35 := fun W (h : Fr No wo W) => HMA.out W h
            by_cases hm : (r : Int) < S.mark
            · rw [hrE, if_pos hm] at C30
              unfold rgV allG at C34 C30
              dsimp only at C34 C30
              simp only [show ¬ (32 : Int) = 0 by decide, if_false, decide_false, Bool.false_and] at C30
              have H34 := Lib.hid C34
              have H30 := Lib.hid C30
              have H35 := Lib.hid C35
              clear C34 C30 C35 hq hps zc0 zk
              go_wp2_with (first
                | (go_at_call 34; refine (H34.out _).mono ?_; rintro e w5 ⟨rfl, hf5⟩)
                | (go_at_call 30; refine (H30.out _ (HQ.out.trans0 hf5)).mono ?_; rintro e w6 ⟨v6, rfl, hv6, hf6, _⟩; obtain ⟨a6, c6, rfl, _, _, _⟩ := hv6.shape)
                | (go_at_call 35; refine (H35.out _ ((HQ.out.trans0 hf5).trans0 hf6)).mono ?_; rintro e w7 ⟨rfl, rfl⟩))
              go_roundg g2
              case rel => exact ⟨r + 1, by go_num, by omega, by omega, Lib.hid ((HQ.out.trans0 hf5).trans0 hf6)⟩
              case measure => omega
            · rw [hrE, if_neg hm] at C30
              have hat : D.mark ≤ (if (r : Int) ≠ 0 then (r : Int) else S.rev) := by
                rw [if_pos (by omega)]
                omega
              obtain ⟨e1, e2, e3⟩ := getL_all HGG.out hat
              rw [if_pos (show (r : Int) ≠ 0 by omega)] at e1 e2
              have hq2 := HPK.out.has r q hq hr1' (by omega)
              rw [e1, e2, e3, ← hq2] at C30
              unfold rgV allG at C34 C30
              dsimp only at C34 C30
              simp only [if_true, decide_true, Bool.true_and] at C30
              have hql : q.2.length ≤ 1099511627 := by
                rw [hq2, ← e2]
                unfold allL betweenS betweenL
                have h1 := HGG.out.size
                exact Nat.le_trans (List.length_filterMap_le _ _) (Nat.le_trans (List.length_filter_le _ _) (by omega))
              have H34 := Lib.hid C34
              have H30 := Lib.hid C30
              have H35 := Lib.hid C35
              have HZK := Lib.hid zk
              clear C34 C30 C35 hq hps zc0 zk e1 e2 e3 hq2 hat
              go_wp2_with (first
                | (go_at_call 34; refine (H34.out _).mono ?_; rintro e w5 ⟨rfl, hf5⟩)
                | (go_at_call 30; refine (H30.out _ (HQ.out.trans0 hf5)).mono ?_; rintro e w6 ⟨v6, rfl, hv6, hf6, _⟩; obtain ⟨a6, c6, rfl, _, _, _⟩ := hv6.shape
                   have hf56 := hf5.trans0 hf6
                   have zc6 := hf56.cell0 zc
                   have lp6 := World.block_lt_of_cell? _ _ zc6
                   have HV6 := Lib.hid hv6
                   clear hv6)
                | (go_at_call 35; refine (H35.out _ (HQ.out.trans0 hf56)).mono ?_; rintro e w7 ⟨rfl, rfl⟩)
                | (go_at_call 36; refine (sameKvs_calls _ _ _ q.2 HV6.out (HZK.out.fr0 hf56) hql).mono ?_; rintro e w8 ⟨rfl, hf8⟩))
              go_roundg g2
              case rel => exact ⟨r + 1, by go_num, by omega, by omega, Lib.hid ((HQ.out.trans0 hf56).trans0 hf8)⟩
              case measure => omega
      | succ g =>
        have hil : (i : Int) < (l.length : Int) := by omega
        obtain ⟨gb, go, rfl⟩ := HA.out (by omega)
        obtain ⟨q, hx⟩ : ∃ q, l[i]? = some q := ⟨_, List.getElem?_eq_getElem (by omega)⟩
        have hfq := H2.out q (List.mem_of_getElem? hx)
        have hvr := HV.out.fr0 HF.out
        have x0 := hvr.cell0 calC_length i hx rfl
        have x1 := hvr.cell calC_length i 1 hx rfl
        have x2 := hvr.cell calC_length i 2 hx rfl
        have x3 := hvr.cell calC_length i 3 hx rfl
        have x4 := hvr.cell calC_length i 4 hx rfl
        have x5 := hvr.cell calC_length i 5 hx rfl
        have x6 := hvr.cell calC_length i 6 hx rfl
        have x7 := hvr.cell calC_length i 7 hx rfl
        have x8 := hvr.cell calC_length i 8 hx rfl
        have x9 := hvr.cell calC_length i 9 hx rfl
        have x10 := hvr.cell calC_length i 10 hx rfl
        have x11 := hvr.cell calC_length i 11 hx rfl
        have hops := HO.out i q hx
        have hkeys := HK.out i q hx
        have hdo := Do_calls hT hTD hG (by omega) wr s F HS.out q hfq (hops.fr0 HF.out) (hkeys.fr0 HF.out)
          (fun hp b hb hF => by have := hops.lt opC_length (by decide) hp b hb; have := HN.out b hF; omega) (fun hp b hb hF => by have := hkeys.lt strC_length (by decide) hp b hb; have := HN.out b hF; omega)
        have hsu := donesT_succ l hx
        have hG' := HG.out (i + 1) (by omega)
        have hpk := PastOk.does hG (by omega) hfq HPK.out
        have hda := hG.does_at (by omega) hfq
        obtain ⟨oa, ocap, hos, _, _, _⟩ := hops.shape
        obtain ⟨ka, kcap, hks, _, _, _⟩ := hkeys.shape
        rw [← show (donesT l (i + 1)).1 = doT (donesT l i).1 q from congrArg Prod.fst hsu] at hdo
        rw [← show (donesT l (i + 1)).2 = doD (donesT l i).1 (donesT l i).2 q from congrArg Prod.snd hsu] at hpk hda
        have hZ2 : Z.length ≤ 31 := by have := hG.rev1; omega
        have HDO := Lib.hid hdo
        have HPK2 := Lib.hid hpk
        have HG' := Lib.hid hG'
        clear hdo hsu hx hvr hops hkeys hpk
        generalize hS' : donesT l (i + 1) = SD' at *
        obtain ⟨S', D'⟩ := SD'
        dsimp only at HDO HPK2 HG' hda
        have hr := HG'.out.rev
        have hrA : ¬ (Z.length : Int) < S'.rev := by omega
        have hrB : ¬ S'.rev < (Z.length : Int) - 1 := by omega
        have hm0' := HG'.out.cpl.m0
        generalize doE (donesT l i).1 q = er at *
        have HSD : Hid (donesT l (i + 1) = (S', D')) := Lib.hid hS'
        clear hS'
        obtain ⟨⟨p1, p2, ⟨g1, g2, g3, g4, g5, g6, g7⟩, p3, p4, p5⟩, ops, keys⟩ := q
        dsimp only at hos hks
        subst hos hks
        unfold calC rgC at *
        dsimp only at *
        go_upto_region 9 with (go_at_call 32; refine HDO.out.mono ?_; rintro e w2 ⟨rfl, F2, hs2, hf2, hn2⟩)
        have hsz := HF.out.size
        have hplt := HP.out.lt
        have hp2 := HP.out.fr hf2 (fun b hb h => (HPF.out b hb).2 h)
        have hw2 : Fr No w w2 := HF.out.trans hf2 fun b hb h => by have := HN.out b h; omega
        have hN2 : ∀ b, F2 b → w.heap.size ≤ b := fun b hb => by
          rcases hn2 b hb with h | h
          · exact HN.out b h
          · omega
        have hPF2 : ∀ b, pasF (.slice pa Z.length pcap) Z b → w.heap.size ≤ b ∧ ¬ F2 b := fun b hb => ⟨(HPF.out b hb).1, fun h => by
          rcases hn2 b h with h | h
          · exact (HPF.out b hb).2 h
          · have := hplt b hb; omega⟩
        have HS2' := Lib.hid hs2
        have HP2' := Lib.hid hp2
        have HW2 := Lib.hid hw2
        have HN2 := Lib.hid hN2
        have HPF2' := Lib.hid hPF2
        clear hs2 hf2 hn2 hp2 hw2 hN2 hPF2 hplt
        by_cases hnew : D'.rev = (donesT l i).2.rev + 1
        · have hrC : (S'.rev == (Z.length : Int)) = true := by rw [hr, hnew]; simpa using by omega
          have hwe : rangeE S' (allG 0) = 0 := by
            rw [rangeE_all S' (by omega)]
            unfold whenE
            rw [if_neg (by omega), if_neg (by omega)]
          have hat : D'.mark ≤ (if (0 : Int) ≠ 0 then (0 : Int) else S'.rev) := by
            rw [if_neg (by decide), hr]
            exact hm0'.2
          obtain ⟨e1, e2, e3⟩ := getL_all HG'.out hat
          rw [if_neg (by decide), hr] at e1 e2
          have C30 := fun W (h : Fr No w2 W) => Range_calls2 hT HG'.out (by omega) W s F2 (HS2'.out.fr0 hT h) (allG 0) (by decide)
          have C34 := fun W => allR_calls W 0
          rw [hr] at C30
          rw [hr] at e3
          rw [hwe, e1, e2, e3] at C30
          unfold rgV allG at C34 C30
          dsimp only at C34 C30
          simp only [if_true, decide_true, Bool.true_and] at C30
          have hpk' := HPK2.out.2 hnew
          generalize allD D' D'.rev = al at *
          have H34 := Lib.hid C34
          have H30 := Lib.hid C30
          have HPKN := Lib.hid hpk'
          clear C34 C30 e1 e2 e3 hat hwe hpk' hnew hda
          go_wp2_with (first
            | (go_at_call 33; refine (StoreRev_calls _ s S' F2 HS2'.out).mono ?_; rintro e w3 ⟨rfl, rfl⟩)
            | (go_at_call 34; refine (H34.out _).mono ?_; rintro e w5 ⟨rfl, hf5⟩)
            | (go_at_call 30; refine (H30.out _ hf5).mono ?_; rintro e w6 ⟨v6, rfl, hv6, hf6, hn6⟩; obtain ⟨a6, c6, rfl, h61, h62, _⟩ := hv6.shape
               have hf56 := hf5.trans0 hf6
               have hp6 := HP2'.out.fr hf56 (fun _ _ h => h)
               have hnew6 := cells_new w6 [Value.slice a6 al.length c6] 53 (0, 0)
               have HP6 := Lib.hid hp6
               have HV6 := Lib.hid hv6
               have HN6 := Lib.hid hn6
               clear hv6 hp6 hn6)
            | (at_builtin; refine wpList_append_f rfl _ _ 60 rfl 53 i0 _ 1 24 Try.underlying60 hi0 hz0 hz1 hz2 rfl (by decide) _ Z rfl (HP6.out.sl.alloc _) w6.heap.size 1 (.slice a6 al.length c6, al) rfl hnew6 rfl ?c1 ?c2 ?c3 ?_))
          case c1 => intro u hu; simp [pasC] at hu; subst hu; rfl
          case c2 => unfold maxLen; omega
          case c3 => omega
          intro g7' o7 cap7 w8 hs8 hg8 hb8 hlt8
          go_wp2
          go_roundg g
          case rel =>
            have hf8 : Fr (fun b => (Value.slice pa Z.length pcap).ownBlock = some b) w6 w8 := ((Fr.refl _ w6).alloc _).grown hg8 fun k hk => .inl hk
            have hsz5 := hf5.size
            have hsz6 := hf6.size
            have hszw := HW2.out.size
            have hn8 : ∀ b, (Value.slice (some ⟨g7', o7, none⟩) (Z.length + 1) cap7).ownBlock = some b → (Value.slice pa Z.length pcap).ownBlock = some b ∨ w6.heap.size ≤ b := fun b hb => by
              obtain rfl : g7' = b := by simpa [Value.ownBlock] using hb
              rcases hb8 with h | h
              · exact .inl h
              · right
                have h' : g7' = w6.heap.size + 1 := by simpa using h
                omega
            have hp8 := HP6.out.snoc hf8 hs8 HV6.out (fun b hb e => by have := HN6.out b hb; have := HP2'.out.lt b (.inl e); omega) hn8
            have hF2l := HS2'.out.lt hT
            refine ⟨i + 1, F2, .slice (some ⟨g7', o7, none⟩) (Z.length + 1) cap7, _, by go_num, rfl, by omega, Lib.hid (by rw [HSD.out]; exact (HS2'.out.fr0 hT hf56).fr hT hf8 fun b hb h => (HPF2'.out b (.inl h)).2 hb), Lib.hid ((HW2.out.trans0 hf56).trans hf8 fun b hb h => by have := (HPF2'.out b (.inl h)).1; omega), HN2, Lib.hid hp8, Lib.hid (by rw [HSD.out]; exact HPKN.out _), Lib.hid fun b hb => ?_⟩
            rcases pasF_snoc (v := .slice pa Z.length pcap) hb with h | h | h
            · rcases hn8 b h with h | h
              · exact HPF2'.out b (.inl h)
              · exact ⟨by omega, fun h' => by have := hF2l b h'; omega⟩
            · exact HPF2'.out b h
            · have := HN6.out b h
              exact ⟨by omega, fun h' => by have := hF2l b h'; omega⟩
          case measure => omega
        · have hsame : D'.rev = (donesT l i).2.rev := by omega
          have hrC : (S'.rev == (Z.length : Int)) = false := by rw [hr, beq_eq_false_iff_ne]; omega
          have hpk' := HPK2.out.1 hsame
          have HPKN := Lib.hid hpk'
          clear hpk' hnew hda hsame
          go_wp2_with (go_at_call 33; refine (StoreRev_calls _ s S' F2 HS2'.out).mono ?_; rintro e w3 ⟨rfl, rfl⟩)
          go_roundg g
          case rel => exact ⟨i + 1, F2, _, Z, by go_num, rfl, by omega, Lib.hid (by rw [HSD.out]; exact HS2'.out), HW2, HN2, HP2', Lib.hid (by rw [HSD.out]; exact HPKN.out), HPF2'⟩
          case measure => omega
end Go.Proofs.Ythljnnjpmdgkoaa

namespace Go.Proofs.Ythljnnjpmdgkoaa
open Go Go.Proofs Go.RowKit
set_option maxRecDepth 100000
theorem info198 : (Try.prog.info? 198).map (fun i => (i.zero, i.size, i.bytes)) = some (some (.agg #[.slice none 0 0, .slice none 0 0]), 2, 48) := by kernel_rfl
def nz0 : Nz := ⟨nd0, .slice none 0 0, .slice none 0 0⟩

theorem takeZ {Z : List Nz} : ndsZ (Z ++ [nz0]) = ndsZ Z ++ [nd0] := by unfold ndsZ; simp [nz0]

set_option maxHeartbeats 1000000 in
theorem take_some (w : World) (t : Nat) (A : Arr) (fl : List Nat) (root : Nat) (many : Int) (F : Nat → Prop) (h : TreeZ w t A fl root many F) (hA : A.length ≤ 1099511627) (hl : fl.length ≤ 1099511627) (hne : fl ≠ []) :
    Calls Try.prog 142 #[.pointer (some ⟨t, 0, none⟩)] w fun e w' => e = .returned (.int .i64 (takeI A fl : Int)) ∧ ∃ F', TreeZ w' t (takeA A fl) fl.dropLast root many F' ∧ Fr F w w' ∧ ∀ b, F' b → F b ∨ w.heap.size ≤ b := by
  obtain ⟨nv, fv, Z, h, rfl, hF⟩ := h
  have c1 := h.obj.cell 1 rfl
  have f1 := h.obj.free 1
  have hpos : 0 < fl.length := List.length_pos_iff.2 hne
  obtain ⟨a, cap, rfl, hc1, hc2, ha⟩ := h.free.shape
  obtain ⟨fb, fo, rfl⟩ := ha hpos
  have hx : fl[fl.length - 1]? = some (fl.getLast hne) := by
    rw [List.getLast_eq_getElem]; exact List.getElem?_eq_getElem _
  have d0 := h.free.cell1 nat1_length (fl.length - 1) hx rfl
  have htI : takeI (ndsZ Z) fl = fl.getLast hne := by unfold takeI; rw [List.getLast?_eq_some_getLast hne]; rfl
  have htA : takeA (ndsZ Z) fl = ndsZ Z := by unfold takeA; rw [if_neg hne]
  have hs := h.free.take nat1_length (fl.length - 1) (by omega)
  rw [← List.dropLast_eq_take] at hs
  have hln : fl.dropLast.length = fl.length - 1 := by simp
  have HS : Hid (SlF w 3 1 nat1 (.slice (some ⟨fb, fo, none⟩) (fl.length - 1) cap) fl.dropLast) := Lib.hid hs
  have H := Lib.hid h
  have HI := Lib.hid htI
  have HTA := Lib.hid htA
  have HFF := Lib.hid hF
  generalize fl.getLast hne = x at *
  have hz0 : (0 : Int) < (fl.length : Int) := by omega
  have hj1 : (0 : Int) ≤ (fl.length : Int) - 1 := by omega
  have hj2 : (fl.length : Int) - 1 ≤ (cap : Int) := by omega
  have hj3 : ((fl.length : Int) - 1).toNat = fl.length - 1 := by omega
  have hj4 : (fl.length : Int) - 1 < (fl.length : Int) := by omega
  have hj5 : (fl.length : Int) ≤ 1099511627 := by omega
  clear h hs htI htA hF hx ha hln
  generalize hN : fl.length = n at *
  go_enter Try.func142, Try.ntmps142
  go_wp2
  go_ret
  have hset := H.out.setFree (w1 := w) (fl' := fl.dropLast) (fv' := .slice (some ⟨fb, fo, none⟩) (n - 1) cap) (Fr.refl _ w) HS.out (fun b e => .inl e)
  obtain ⟨q1, q2, q3⟩ := hset
  refine ⟨by rw [HI.out]; rfl, _, ⟨_, _, Z, q1, HTA.out.symm, fun b => Iff.rfl⟩, q2.mono fun b _ e => (HFF.out b).2 ?_, fun b hb => ?_⟩
  · rcases e with e | e
    · exact .inl e
    · exact .inr (.inr (.inl e))
  · rcases q3 b hb with e | e
    · exact .inl ((HFF.out b).2 e)
    · exact .inr e

set_option maxHeartbeats 1000000 in
theorem take_none (w : World) (t : Nat) (A : Arr) (root : Nat) (many : Int) (F : Nat → Prop) (h : TreeZ w t A [] root many F) (hA : A.length ≤ 1099511627) :
    Calls Try.prog 142 #[.pointer (some ⟨t, 0, none⟩)] w fun e w' => e = .returned (.int .i64 (takeI A [] : Int)) ∧ ∃ F', TreeZ w' t (takeA A []) [] root many F' ∧ Fr F w w' ∧ ∀ b, F' b → F b ∨ w.heap.size ≤ b := by
  obtain ⟨nv, fv, Z, h, rfl, hF⟩ := h
  rw [ndsZ_len] at hA
  have c0 := h.obj.cell 0 rfl
  have c1 := h.obj.cell 1 rfl
  have f0 := h.obj.free 0
  obtain ⟨i0, hi0, hz0, hz1, hz2⟩ := info_parts info198
  obtain ⟨a, cap, rfl, hc1, hc2, ha⟩ := h.free.shape
  have hnew := cells_new w [.slice none 0 0, .slice none 0 0] 198 (0, 0)
  have H := Lib.hid h
  have HFF := Lib.hid hF
  have HN := Lib.hid h.nodes
  have hlt := h.obj.lt
  have hnt : ¬ nv.ownBlock = some t := h.a1.1
  clear h hF ha
  go_enter Try.func142, Try.ntmps142
  go_wp2_with (at_builtin; refine wpList_append_f rfl _ _ 175 rfl 198 i0 _ 2 48 Try.underlying175 hi0 hz0 hz1 hz2 rfl (by decide) nv Z rfl (HN.out.alloc _) w.heap.size 1 nz0 rfl (by simpa [nzC, nz0] using hnew) rfl (by intro u hu; simp [nzC, nz0] at hu; subst hu; rfl) (by unfold maxLen; omega) (by omega) ?_)
  intro g o cap' w1 hs1 hg1 hb1 hlt1
  have hF1 : Fr (fun b => nv.ownBlock = some b) w w1 := (((Fr.refl _ w).alloc _).grown hg1 fun k hk => .inl hk)
  have e0 := hF1.cell c0 hnt
  have e1 := hF1.cell c1 hnt
  have g0 := hF1.free c0 f0 hnt
  have HS1 := Lib.hid hs1
  have HB1 := Lib.hid hb1
  have HF1 := Lib.hid hF1
  clear hs1 hg1 hb1 hF1 c0 c1 f0 hnew
  have hj : (0 : Int) ≤ (Z.length : Int) := by omega
  go_wp2
  go_ret
  have hL : (Z ++ [nz0]).length = Z.length + 1 := by simp
  have hset := H.out.snoc (w1 := w1) (nv' := .slice (some ⟨g, o, none⟩) (Z.length + 1) cap') HF1.out HS1.out fun b e => by
    obtain rfl : g = b := by simpa [Value.ownBlock] using e
    rcases HB1.out with e | e
    · exact .inl e
    · right; omega
  obtain ⟨q1, q2, q3⟩ := hset
  refine ⟨?_, _, ⟨_, _, _, q1, by unfold takeA; rw [if_pos rfl]; exact takeZ, fun b => Iff.rfl⟩, q2.mono fun b _ e => (HFF.out b).2 ?_, fun b hb => ?_⟩
  · unfold takeI
    rw [List.getLast?_nil, ndsZ_len]
    rfl
  · rcases e with e | e
    · exact .inl e
    · exact .inr (.inl e)
  · rcases q3 b hb with e | e
    · exact .inl ((HFF.out b).2 e)
    · exact .inr e

theorem take_calls (w : World) (t : Nat) (A : Arr) (fl : List Nat) (root : Nat) (many : Int) (F : Nat → Prop) (h : TreeZ w t A fl root many F) (hA : A.length ≤ 1099511627) (hl : fl.length ≤ 1099511627) :
    Calls Try.prog 142 #[.pointer (some ⟨t, 0, none⟩)] w fun e w' => e = .returned (.int .i64 (takeI A fl : Int)) ∧ ∃ F', TreeZ w' t (takeA A fl) fl.dropLast root many F' ∧ Fr F w w' ∧ ∀ b, F' b → F b ∨ w.heap.size ≤ b := by
  by_cases hne : fl = []
  · subst hne; exact take_none w t A root many F h hA
  · exact take_some w t A fl root many F h hA hl hne

set_option maxHeartbeats 1000000 in
theorem drop_calls (w : World) (t : Nat) (A : Arr) (fl : List Nat) (root : Nat) (many : Int) (F : Nat → Prop) (h : TreeZ w t A fl root many F) (at_ : Nat) (hat : at_ < A.length) (hA : A.length ≤ 1099511627) (hl : fl.length ≤ 1099511627) :
    Calls Try.prog 120 #[.pointer (some ⟨t, 0, none⟩), .int .i64 at_] w fun e w' => e = .returned (.tuple #[]) ∧ ∃ F', TreeZ w' t (A.set at_ nd0) (fl ++ [at_]) root many F' ∧ Fr F w w' ∧ ∀ b, F' b → F b ∨ w.heap.size ≤ b := by
  obtain ⟨nv, fv, Z, h, rfl, hF⟩ := h
  obtain ⟨z, hz, _⟩ := ndsZ_some hat
  rw [ndsZ_len] at hA hat
  have c0 := h.obj.cell 0 rfl
  have c1 := h.obj.cell 1 rfl
  have f1 := h.obj.free 1
  obtain ⟨i0, hi0, hz0, hz1, hz2⟩ := info_parts info3
  obtain ⟨a, cap, rfl, hc1, hc2, ha⟩ := h.nodes.shape
  obtain ⟨nb, no, rfl⟩ := ha (by omega)
  have n0 := h.nodes.cell0 nzC_length at_ hz rfl
  have n1 := h.nodes.cell nzC_length at_ 1 hz rfl
  have nf := h.nodes.free (no + at_ * 2)
  have nf1 := h.nodes.free (no + at_ * 2 + 1)
  have htn : t ≠ nb := fun e => h.a1.1 (by rw [e]; rfl)
  have hp := h.setPairs (w1 := w) (pv' := .slice none 0 0) (P' := []) at_ z hz (Fr.refl _ w) (SlF.nil _ _ _ _) (fun b e => by simp [Value.ownBlock] at e)
  obtain ⟨p1, p2, p3⟩ := hp
  have hz2' : (Z.set at_ ⟨⟨[], z.nd.kids⟩, .slice none 0 0, z.kv⟩)[at_]? = some ⟨⟨[], z.nd.kids⟩, .slice none 0 0, z.kv⟩ := List.getElem?_set_self hat
  have p1' : TreeR (w.setCell ⟨nb, no + at_ * 2, none⟩ (.slice none 0 0)) t (.slice (some ⟨nb, no, none⟩) (Z.set at_ ⟨⟨[], z.nd.kids⟩, .slice none 0 0, z.kv⟩).length cap) fv (Z.set at_ ⟨⟨[], z.nd.kids⟩, .slice none 0 0, z.kv⟩) fl root many := by rw [List.length_set]; exact p1
  have hk := p1'.setKids (w1 := w.setCell ⟨nb, no + at_ * 2, none⟩ (.slice none 0 0)) (kv' := .slice none 0 0) (K' := []) at_ _ hz2' (Fr.refl _ _) (SlF.nil _ _ _ _) (fun b e => by simp [Value.ownBlock] at e)
  obtain ⟨k1, k2, k3⟩ := hk
  rw [List.set_set, List.length_set] at k1
  have hFz : ∀ b, treeF t (.slice (some ⟨nb, no, none⟩) Z.length cap) fv (Z.set at_ nz0) b → treeF t (.slice (some ⟨nb, no, none⟩) Z.length cap) fv Z b ∨ w.heap.size ≤ b :=
    treeF_set hz fun b hb => by rcases hb with e | e <;> simp [Value.ownBlock, nz0] at e
  have hK1 : TreeR ((w.setCell ⟨nb, no + at_ * 2, none⟩ (.slice none 0 0)).setCell ⟨nb, no + at_ * 2 + 1, none⟩ (.slice none 0 0)) t (.slice (some ⟨nb, no, none⟩) Z.length cap) fv (Z.set at_ nz0) fl root many := k1
  have hFR : Fr F w ((w.setCell ⟨nb, no + at_ * 2, none⟩ (.slice none 0 0)).setCell ⟨nb, no + at_ * 2 + 1, none⟩ (.slice none 0 0)) := by
    refine (((Fr.refl F w).setCell (p := ⟨nb, no + at_ * 2, none⟩) (.inl ?_) _).setCell (p := ⟨nb, no + at_ * 2 + 1, none⟩) (.inl ?_) _) <;> exact (hF nb).2 (.inr (.inl rfl))
  have hlnb := h.nodes.lt nb rfl
  have hlt := h.obj.lt
  have H := Lib.hid hK1
  have HFZ := Lib.hid hFz
  have HFF := Lib.hid hF
  have HFR := Lib.hid hFR
  clear h hF ha p1 p2 p3 p1' k1 k2 k3 hK1 hFz hFR hz hz2'
  have hj : (at_ : Int) < (Z.length : Int) := by omega
  have hnew := cells_new ((w.setCell ⟨nb, no + at_ * 2, none⟩ (.slice none 0 0)).setCell ⟨nb, no + at_ * 2 + 1, none⟩ (.slice none 0 0)) [.int .i64 (at_ : Int)] 3 (0, 0)
  have hsz : ((w.setCell ⟨nb, no + at_ * 2, none⟩ (.slice none 0 0)).setCell ⟨nb, no + at_ * 2 + 1, none⟩ (.slice none 0 0)).heap.size = w.heap.size := by simp
  rw [hsz] at hnew
  have HSZ := Lib.hid hsz
  clear hsz
  go_enter Try.func120, Try.ntmps120
  go_wp2_with (at_builtin; refine wpList_append_f rfl _ _ 149 rfl 3 i0 _ 1 8 Try.underlying149 hi0 hz0 hz1 hz2 rfl (by decide) fv fl rfl (H.out.free.alloc _) w.heap.size 1 at_ rfl (by simpa [nat1] using hnew) rfl (by intro u hu; simp [nat1] at hu; subst hu; rfl) (by unfold maxLen; omega) (by omega) ?_)
  generalize ((w.setCell ⟨nb, no + at_ * 2, none⟩ (.slice none 0 0)).setCell ⟨nb, no + at_ * 2 + 1, none⟩ (.slice none 0 0)) = W1 at *
  intro g o cap' w1 hs1 hg1 hb1 hlt1
  have hF1 : Fr (fun b => fv.ownBlock = some b) W1 w1 := (((Fr.refl _ W1).alloc _).grown hg1 fun k hk => .inl hk)
  have hnt : ¬ fv.ownBlock = some t := H.out.a1.2.1
  have e1 := hF1.cell (H.out.obj.cell 1 rfl) hnt
  have g1 := hF1.free (H.out.obj.cell 1 rfl) (H.out.obj.free 1) hnt
  have HS1 := Lib.hid hs1
  have HB1 := Lib.hid hb1
  have HF1 := Lib.hid hF1
  clear hs1 hg1 hb1 hF1 c0 c1 f1 hnew n0 n1 nf nf1
  go_wp2
  refine bodyPost_end (results_none rfl _ _ _) rfl ⟨rfl, ?_⟩
  have hset := H.out.setFree (w1 := w1) (fl' := fl ++ [at_]) (fv' := .slice (some ⟨g, o, none⟩) (fl.length + 1) cap') HF1.out HS1.out fun b e => by
    obtain rfl : g = b := by simpa [Value.ownBlock] using e
    rcases HB1.out with e | e
    · exact .inl e
    · right; have := HSZ.out; omega
  obtain ⟨q1, q2, q3⟩ := hset
  refine ⟨_, ⟨_, _, _, q1, by rw [ndsZ_set]; rfl, fun b => Iff.rfl⟩, HFR.out.trans q2 fun b hb e => (HFF.out b).2 ?_, fun b hb => ?_⟩
  · rcases e with e | e
    · exact .inl e
    · exact .inr (.inr (.inl e))
  · rcases q3 b hb with e | e
    · rcases HFZ.out b e with e | e
      · exact .inl ((HFF.out b).2 e)
      · exact .inr e
    · right; have := HSZ.out; omega
end Go.Proofs.Ythljnnjpmdgkoaa
