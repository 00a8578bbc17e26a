/- The law's awake: a table behind a grant, a key, ticks, a renewal and a revocation answers as the document does. -/
import Derived.Test.YtlomeohcgjgpjaaDone
import Derived.Test.YtlomeohcgjgpjaaTxts
namespace Go.Proofs.Ytlomeohcgjgpjaa
open Go Go.Proofs Go.RowKit
set_option maxRecDepth 100000

abbrev wkK : ByteArray := ⟨#[97]⟩
theorem wk1 : grantE [] 7 3 = 0 := by kernel_rfl
theorem wk2 : grantR [] 7 3 = [⟨7, 3, 3, []⟩] := by kernel_rfl
theorem wk3 : grantE [⟨7, 3, 3, []⟩] 7 3 = 34 := by kernel_rfl
theorem wk4 : (getR [⟨7, 3, 3, []⟩] 7) = some ⟨7, 3, 3, []⟩ := by kernel_rfl
theorem wk5 : attachR [⟨7, 3, 3, []⟩] 7 wkK = [⟨7, 3, 3, [wkK]⟩] := by kernel_rfl
theorem wk6 : tickR [⟨7, 3, 3, [wkK]⟩] 2 = [⟨7, 3, 1, [wkK]⟩] := by kernel_rfl
theorem wk7 : toldR [⟨7, 3, 3, [wkK]⟩] 2 = [] := by kernel_rfl
theorem wk8 : tickR [⟨7, 3, 1, [wkK]⟩] 1 = [⟨7, 3, 0, [wkK]⟩] := by kernel_rfl
theorem wk9 : toldR [⟨7, 3, 1, [wkK]⟩] 1 = [7] := by kernel_rfl
theorem wk10 : getR [⟨7, 3, 0, [wkK]⟩] 7 = some ⟨7, 3, 0, [wkK]⟩ := by kernel_rfl
theorem wk11 : renewR [⟨7, 3, 0, [wkK]⟩] 7 = [⟨7, 3, 3, [wkK]⟩] := by kernel_rfl
theorem wk12 : getR [⟨7, 3, 3, [wkK]⟩] 7 = some ⟨7, 3, 3, [wkK]⟩ := by kernel_rfl
theorem wk13 : revokeR [⟨7, 3, 3, [wkK]⟩] 7 = [] := by kernel_rfl
theorem wk14 : ofR [] wkK = 0 := by kernel_rfl
theorem revoke_to {n : Nat} {w w' : World} {t : Nat} {F : Nat → Prop} {R : List LV} {id : Int} {e : Ending} {x : LV} (hx : getR R id = some x) (h : RevTo n w w' t F R id e) :
    ∃ (a : Option Addr) (k c : Nat), e = .returned (.tuple #[.slice a k c, .int .i64 0]) ∧ Hid (k = x.keys.length ∧ SlF w' 9 1 strC (.slice a k c) x.keys ∧ ∃ F', Lea n w' t (revokeR R id) F' ∧ Fr F w w' ∧ (∀ b, F' b → F b) ∧ ∀ b, (Value.slice a k c).ownBlock = some b → F b ∧ ¬ F' b) := by
  unfold RevTo at h
  rw [hx] at h
  obtain ⟨kv, F', rfl, h1, h2, h3, h4, h5⟩ := h
  obtain ⟨a, c, rfl, _⟩ := h1.shape
  exact ⟨a, _, c, rfl, Lib.hid ⟨rfl, h1, F', h2, h3, h4, h5⟩⟩
theorem tick_to {n : Nat} {w w' : World} {t : Nat} {F : Nat → Prop} {R : List LV} {k : Int} {e : Ending} (h : TickTo n w w' t F R k e) :
    ∃ (a : Option Addr) (c : Nat), e = .returned (.slice a (toldR R k).length c) ∧ Hid (SlF w' 3 1 int1 (.slice a (toldR R k).length c) (toldR R k) ∧ (∀ b, (Value.slice a (toldR R k).length c).ownBlock = some b → w.heap.size ≤ b) ∧ ∃ F', Lea n w' t (tickR R k) F' ∧ Fr F w w' ∧ (∀ b, F' b → F b ∨ w.heap.size ≤ b) ∧ ∀ b, (Value.slice a (toldR R k).length c).ownBlock = some b → ¬ F' b) := by
  obtain ⟨v, rfl, h1, h2, F', h3, h4, h5, h6⟩ := h
  obtain ⟨a, c, rfl, _⟩ := h1.shape
  exact ⟨a, c, rfl, Lib.hid ⟨h1, h2, F', h3, h4, h5, h6⟩⟩
theorem Of_at {n : Nat} {w : World} {t : Nat} {R : List LV} {F : Nat → Prop} (h : Lea n w t R F) (key : ByteArray) (hk : key.size ≤ maxLen) :
    Calls Try.prog 15 #[.pointer (some ⟨t, 0, none⟩), .string key] w fun e w' => e = .returned (.int .i64 (ofR R key)) ∧ w = w' := by
  obtain ⟨T, ⟨m, o, qv, hp, FL, a, hF⟩, hT, rfl⟩ := h
  exact Of_calls a key hk
theorem one_sl {α : Type} {f : α → List Value} {W : World} {b : Nat} {x : α} {u : Value} {t : TypeId} (h : W.heap[b]? = some (.cells #[u] t (0, 0))) (hf : f x = [u]) : SlR W 1 f (.slice (some ⟨b, 0, none⟩) 1 1) [x] := by
  refine ⟨_, 1, rfl, by simp, by decide, fun _ => ⟨b, 0, rfl, fun i y hy j v hv => ?_⟩⟩
  cases i with
  | succ i => simp at hy
  | zero =>
    simp only [List.getElem?_cons_zero, Option.some.injEq] at hy
    subst hy
    rw [hf] at hv
    unfold World.cell?
    simp only [h, Nat.zero_mul, Nat.zero_add, Option.isSome_none, Bool.false_eq_true, if_false]
    simpa using hv
set_option maxHeartbeats 4000000 in
theorem awake_calls (w : World) : Calls Try.prog 14 #[] w fun e w' => e = .returned (.bool true) ∧ Fr No w w' := by
  have hN := New_calls w
  go_enter Try.func14, Try.ntmps14
  go_upto_region 2 with (go_at_call 22; (with_reducible refine hN.mono ?_); rintro e w1 ⟨t, F1, rfl, hl1, hf1, hF1⟩)
  have hg := Grant_calls (by omega) hl1 7 3 (by decide) (by unfold maxI; decide)
  rw [wk1, wk2, if_pos rfl] at hg
  go_upto_region 3 with (go_at_call 32; (with_reducible refine hg.mono ?_); rintro e w2 ⟨rfl, F2, hl2, hf2, hF2⟩)
  have hw2 := frn hf1 hf2 hF1
  have hn2 : ∀ b, F2 b → w.heap.size ≤ b := fun b hb => (hF2 b hb).elim (hF1 b) fun h => by have := hf1.size; omega
  clear hg hl1 hf1 hf2 hF1 hF2
  have hg := Grant_calls (by omega) hl2 7 3 (by decide) (by unfold maxI; decide)
  rw [wk3, if_neg (by decide)] at hg
  go_upto_region 4 with (go_at_call 32; (with_reducible refine hg.mono ?_); rintro e w3 ⟨rfl, F3, hl3, hf3, hF3⟩)
  have hw3 := frn hw2 hf3 hn2
  have hn3 : ∀ b, F3 b → w.heap.size ≤ b := fun b hb => (hF3 b hb).elim (hn2 b) fun h => by have := hw2.size; omega
  clear hg hl2 hf3 hF3 hw2 hn2
  have hg := Attach_calls (by omega) hl3 7 wkK (by decide) (by unfold maxLen; decide)
  unfold attE at hg
  rw [wk4, Option.isSome_some, if_pos rfl, if_pos rfl, wk5] at hg
  go_upto_region 5 with (go_at_call 34; (with_reducible refine hg.mono ?_); rintro e w4 ⟨rfl, F4, hl4, hf4, hF4⟩)
  have hw4 := frn hw3 hf4 hn3
  have hn4 : ∀ b, F4 b → w.heap.size ≤ b := fun b hb => (hF4 b hb).elim (hn3 b) fun h => by have := hw3.size; omega
  clear hg hl3 hf4 hF4 hw3 hn3
  have hg := (Tick_calls (by omega) hl4 2).mono fun e w' h => tick_to h
  rw [wk6, wk7] at hg
  go_upto_region 6 with (go_at_call 19; (with_reducible refine hg.mono ?_); rintro e w5 ⟨a5, c5, rfl, H5⟩)
  obtain ⟨_, _, F5, hl5, hf5, hF5, _⟩ := H5.out
  have hw5 := frn hw4 hf5 hn4
  have hn5 : ∀ b, F5 b → w.heap.size ≤ b := fun b hb => (hF5 b hb).elim (hn4 b) fun h => by have := hw4.size; omega
  clear hg hl4 hf5 hF5 hw4 hn4 H5
  have hg := (Tick_calls (by omega) hl5 1).mono fun e w' h => tick_to h
  rw [wk8, wk9] at hg
  go_upto_region 7 with (go_at_call 19; (with_reducible refine hg.mono ?_); rintro e w6 ⟨a6, c6, rfl, H6⟩)
  obtain ⟨hs6, hb6, F6, hl6, hf6, hF6, hd6⟩ := H6.out
  have hw6 := frn hw5 hf6 hn5
  have hn6 : ∀ b, F6 b → w.heap.size ≤ b := fun b hb => (hF6 b hb).elim (hn5 b) fun h => by have := hw5.size; omega
  clear hg hl5 hf6 hF6 hw5 hn5 H6
  have hg := Renew_calls (by omega) hl6 7 (by decide)
  rw [wk10, Option.isSome_some, if_pos rfl, wk11] at hg
  unfold renewV at hg
  dsimp only at hg
  go_upto_region 8 with (go_at_call 33; (with_reducible refine hg.mono ?_); rintro e w7 ⟨rfl, F7, hl7, hf7, hF7⟩)
  have hs7 := hs6.fr hf7 hd6
  have hd7 : ∀ b, (Value.slice a6 [(7 : Int)].length c6).ownBlock = some b → ¬ F7 b := fun b hb hf => (hF7 b hf).elim (hd6 b hb) fun h => by have := hs6.lt b hb; omega
  have hw7 := frn hw6 hf7 hn6
  have hn7 : ∀ b, F7 b → w.heap.size ≤ b := fun b hb => (hF7 b hb).elim (hn6 b) fun h => by have := hw6.size; omega
  clear hg hl6 hf7 hF7 hw6 hn6 hs6 hb6 hd6
  have hg := (Revoke_calls (by omega) hl7 7 (by decide)).mono fun e w' h => revoke_to wk12 h
  rw [wk13] at hg
  go_upto_region 9 with (go_at_call 17; (with_reducible refine hg.mono ?_); rintro e w8 ⟨a8, k8, c8, rfl, H8⟩)
  obtain ⟨rfl, hs8, F8, hl8, hf8, hF8, hd8⟩ := H8.out
  have hs7 := hs7.fr hf8 hd7
  have hw8 := frn hw7 hf8 hn7
  clear hg hl7 hf8 hw7 hn7 H8 hd7
  have hwa : Fr No w8 (w8.alloc (.cells #[.int .i64 7] 3)) := (Fr.refl No w8).alloc _
  have hnc := nums_calls (w8.alloc (.cells #[.int .i64 7] 3)) (.slice a6 1 c6) (.slice (some ⟨w8.heap.size, 0, none⟩) 1 1) [7] ((hs7.fr0 hwa).toR int1_len) (one_sl (alloc_at _ _ _ rfl) rfl)
  have HTC := Lib.hid fun W (hW : Fr No w8 W) => texts_calls (W.alloc (.cells #[.string ⟨#[97]⟩] 9)) (.slice a8 1 c8) (.slice (some ⟨W.heap.size, 0, none⟩) 1 1) [wkK] (((hs8.fr0 hW).alloc _).toR strC_len) (one_sl (alloc_at _ _ _ rfl) rfl)
  have HOF := Lib.hid fun W (hW : Fr No w8 W) => Of_at (hl8.fr0 hW) wkK (by unfold maxLen; decide)
  rw [wk14] at HOF
  have HNC := Lib.hid hnc
  have HWA := Lib.hid hwa
  have HW8 := Lib.hid hw8
  clear hl8 hs7 hs8 hw8 hF8 hd8 hnc hwa
  go_wp2_with (first
    | (go_at_call 20; (with_reducible refine HNC.out.mono ?_); rintro e w9 ⟨rfl, hf9⟩; have HF9 := Lib.hid (HWA.out.trans0 hf9); clear hf9)
    | (go_at_call 18; (with_reducible refine (HTC.out _ HF9.out).mono ?_); rintro e w10 ⟨rfl, hf10⟩; have HF10 := Lib.hid ((HF9.out.alloc _).trans0 hf10); clear hf10)
    | (go_at_call 15; (with_reducible refine (HOF.out _ HF10.out).mono ?_); rintro e w11 ⟨rfl, rfl⟩))
  go_ret
  exact ⟨rfl, HW8.out.trans0 HF10.out⟩
end Go.Proofs.Ytlomeohcgjgpjaa
