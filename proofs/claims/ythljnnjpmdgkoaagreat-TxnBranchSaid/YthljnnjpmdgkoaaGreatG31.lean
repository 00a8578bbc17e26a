/- Own lemmas and contracts that the claim's proof needs, laid together. The conditions stand in each. -/
import Derived.Test.YthljnnjpmdgkoaaGreatG30
import Derived.Test.YthljnnjpmdgkoaaGreatG21
import Derived.Test.YthljnnjpmdgkoaaGreatG09
import Derived.Test.YthljnnjpmdgkoaaGreatG18
import Derived.Test.YthljnnjpmdgkoaaGreatG28
import Derived.Deep.RegionHeld3
namespace Go.Proofs.YthljnnjpmdgkoaaGreat
open Go Go.Proofs Go.RowKit
set_option maxRecDepth 100000
theorem zeo (w : World) (k v : ByteArray) : Calls Tryz.prog 74 #[.string k, .string v] w fun e w' => e = .returned (opV (putO k v)) ∧ Fr No w w' := by
 go_enter Tryz.func74, Tryz.ntmps74; go_wp2; exact bodyPost_ret (results_cell_row rfl _ _ w.heap.size 94 _ (0, 0) _ rfl (zad _ _ _ rfl) Tryz.underlying94 rfl (by kernel_rfl)) rfl ⟨rfl, (Fr.refl No w).alloc _⟩
theorem zhi {W : World} {b : Nat} {o : Cmp} {t : TypeId} (h : W.heap[b]? = some (.cells (cmpC o).toArray t (0, 0))) : SlR W 5 cmpC (.slice (some ⟨b, 0, none⟩) 1 1) [o] := by
 refine ⟨_, 1, rfl, by simp, by decide, fun _ => ⟨b, 0, rfl, fun i x hx j u hu => ?_⟩⟩; obtain ⟨rfl, rfl⟩ := zsp hx; unfold World.cell?; simp only [h, Nat.zero_mul, Nat.zero_add, Option.isSome_none, Bool.false_eq_true, if_false]; simpa using hu
theorem zwk : branch S1 [noneC] [putO bA b2] [getO bA] = [getO bA] := by kernel_rfl
theorem zwj : branch S1 [] [putO bB b2] [] = [putO bB b2] := by kernel_rfl
theorem zvp : allB S1 [noneC] = false := by kernel_rfl
theorem zsg : runE S1 [noneC] [putO bA b2] [getO bA] = 0 := by kernel_rfl
theorem zsf : runE S1 [] [putO bB b2] [] = 0 := by kernel_rfl
theorem zvo : allB S1 [] = true := by kernel_rfl
theorem ztn : applyE newS [putO bA b1] = 0 := by kernel_rfl
theorem zwn : applyE S1 [putO bB b2] = 0 := by kernel_rfl
theorem zkp : ∃ D, Good 1 S1 D := ⟨_, Good.new.apply (by omega) (zbe ztn).1 (by decide)⟩
theorem zvq : ∃ D, Good 2 S2 D := by
 obtain ⟨D, h⟩ := zkp; exact ⟨_, h.apply (by omega) (zbe zwn).1 (by decide)⟩
theorem zrf {TA : zao} (hT : TreeOk TA 1000000) (w : World) (s : Nat) (F : Nat → Prop) (hS : zaj TA w s st0 F) (v : Value) (hv : SlR w 10 opC v [putO bA b1])
 (hvF : 0 < [putO bA b1].length → ∀ b, v.ownBlock = some b → ¬ F b) :
 Calls Tryz.prog 37 #[.pointer (some ⟨s, 0, none⟩), v] w fun e w' => ∃ av ev, e = .returned (.tuple #[av, ev, .int .i64 0]) ∧ ∃ F' Z, zaj TA w' s S1 F' ∧ AnsR w' av Z ∧
  Z.map (·.1) = (runR (newS.rev + 1) ⟨newS, [], []⟩ [putO bA b1]).A ∧ SlF w' 101 13 evC ev (runR (newS.rev + 1) ⟨newS, [], []⟩ [putO bA b1]).E ∧ Fr F w w' ∧ (∀ b, F' b → F b ∨ w.heap.size ≤ b) ∧
  (∀ b, ev.ownBlock = some b → w.heap.size ≤ b ∧ ¬ F' b) ∧ (∀ b, ansF av Z b → w.heap.size ≤ b ∧ ¬ F' b) := by
 have h := zfc hT Good.new (by omega) w s F hS v [putO bA b1] hv hvF (by decide) (by decide); rw [ztn] at h; simp only [if_true] at h; exact h
theorem zud {TA : zao} (hT : TreeOk TA 1000000) (W : World) (s p q r : Nat) (F1 : Nat → Prop) (hS : zaj TA W s S1 F1) (hp : W.heap[p]? = some (.cells (cmpC noneC).toArray 53 (0, 0))) (hq : W.heap[q]? = some (.cells (opC (putO bA b2)).toArray 94 (0, 0)))
 (hr : W.heap[r]? = some (.cells (opC (getO bA)).toArray 94 (0, 0))) (nq : ¬ F1 q) (nr : ¬ F1 r) :
 Calls Tryz.prog 33 #[.pointer (some ⟨s, 0, none⟩), .slice (some ⟨p, 0, none⟩) 1 1, .slice (some ⟨q, 0, none⟩) 1 1, .slice (some ⟨r, 0, none⟩) 1 1] W fun e w' => ∃ g o cap ev F', e = .returned (.tuple #[.bool false, .slice (some ⟨g, o, none⟩) 1 cap, ev, .int .i64 0]) ∧
  zaj TA w' s S1 F' ∧ w'.cell? ⟨g, o + 2, none⟩ = some (.int .i64 1) ∧ Fr F1 W w' ∧ (∀ b, F' b → F1 b ∨ W.heap.size ≤ b) ∧ W.heap.size ≤ g ∧ ¬ F' g := by
 obtain ⟨D, hG⟩ := zkp; have h := zoq hT hG (by omega) W s F1 hS _ _ _ [noneC] [putO bA b2] [getO bA] (zhi hp) (zjt hq) (zjt hr)
  (fun _ b hb => by simp [Value.ownBlock] at hb; rw [← hb]; exact nq) (fun _ b hb => by simp [Value.ownBlock] at hb; rw [← hb]; exact nr) (by decide) (by decide) (by decide) (by decide) (by decide) (by decide)
 unfold RunR RunRE at h; rw [zsg, zwk, zvp] at h; simp only [if_true, decide_true, Bool.true_and] at h; refine h.mono ?_; rintro e w' ⟨av, ev, rfl, F', Z, h1, h2, h3, h4, h5, h6, h7, h8⟩; rw [zwq] at h1
 have hz : Z.map (fun q => (q.1.kvs.length, q.1.count)) = [(1, 1)] := by
  have e1 := congrArg (List.map fun a : Ans => (a.kvs.length, a.count)) h3; rw [zse, List.map_map] at e1; exact e1
 obtain ⟨z, rfl⟩ := List.length_eq_one_iff.1 (show Z.length = 1 by have := congrArg List.length hz; simpa using this); simp only [List.map_cons, List.map_nil, List.cons.injEq, Prod.mk.injEq, and_true] at hz; obtain ⟨a, cap, rfl, h9, h10, h11⟩ := h2.sl.shape; obtain ⟨g, o, rfl⟩ := h11 (by simp); have hc := h2.sl.cell zbk 0 2 rfl rfl; rw [hz.2] at hc; have hg := h8 g (.inl rfl); exact ⟨g, o, cap, ev, F', rfl, h1, by simpa using hc, h5, h6, hg.1, hg.2⟩
theorem zuc {TA : zao} (hT : TreeOk TA 1000000) (W : World) (s q : Nat) (F1 : Nat → Prop) (hS : zaj TA W s S1 F1) (hq : W.heap[q]? = some (.cells (opC (putO bB b2)).toArray 94 (0, 0))) (nq : ¬ F1 q) :
 Calls Tryz.prog 33 #[.pointer (some ⟨s, 0, none⟩), .slice none 0 0, .slice (some ⟨q, 0, none⟩) 1 1, .slice none 0 0] W fun e w' => ∃ av a cap F', e = .returned (.tuple #[.bool true, av, .slice a 1 cap, .int .i64 0]) ∧
  zaj TA w' s S2 F' ∧ Fr F1 W w' := by
 obtain ⟨D, hG⟩ := zkp; have h := zoq hT hG (by omega) W s F1 hS _ _ _ [] [putO bB b2] [] (SlR.nil _ _ _) (zjt hq) (SlR.nil _ _ _)
  (fun _ b hb => by simp [Value.ownBlock] at hb; rw [← hb]; exact nq) (fun h => by cases h) (by decide) (by decide) (by decide) (by decide) (by decide) (by decide)
 unfold RunR RunRE at h; rw [zsf, zwj, zvo] at h; simp only [if_true, decide_true, Bool.true_and] at h; refine h.mono ?_; rintro e w' ⟨av, ev, rfl, F', Z, h1, h2, h3, h4, h5, h6, h7, h8⟩; obtain ⟨a, cap, rfl, h9, h10, h11⟩ := h4.shape; exact ⟨av, a, cap, F', rfl, h1, h5⟩
set_option maxHeartbeats 4000000 in
theorem zba {TA : zao} (hT : TreeOk TA 1000000) (w : World) : Calls Tryz.prog 29 #[] w fun e w' => e = .returned (.bool true) ∧ Fr No w w' := by
 go_enter Tryz.func29, Tryz.ntmps29
 go_upto_region 5 with (first
  | (go_at_call 17; refine (zfl hT _).mono ?_; rintro e w1 ⟨s, rfl, F0, hs1, hf1, hn1⟩)
  | (go_at_call 74; refine (zeo _ _ _).mono ?_; rintro e w2 ⟨rfl, hf2⟩; unfold opV putO rg0; dsimp only)
  | (go_at_call 37; refine (zrf hT _ s F0 ((hs1.fr0 hT hf2).fr0 hT ((Fr.refl No w2).alloc _)) _ (zjt (zad _ _ _ rfl)) (fun _ b hb h => by
      have h1 := hs1.lt hT _ h; have h2 := hf2.size; simp [Value.ownBlock] at hb; omega)).mono ?_
     rintro e w3 ⟨av, ev, rfl, F1, Z, hs3, ha3, hz3, he3, hf3, hn3, hev3, hav3⟩))
 have hS : zaj TA w3 s S1 F1 := hs3; have hw3 : Fr No w w3 := ((hf1.trans0 hf2).alloc _).trans hf3 fun b hb h => by have := hn1 b h; omega
 have hsz2 : w.heap.size ≤ w2.heap.size := (hf1.trans0 hf2).size
 have hF1 : ∀ b, F1 b → w.heap.size ≤ b := fun b hb => by
  rcases hn3 b hb with h | h
  · exact hn1 b h
  · simp at h; omega
 clear hs1 hf1 hn1 hf2 hs3 ha3 hz3 he3 hf3 hn3 hev3 hav3 hsz2; have hb2 : ((w3.alloc (Obj.cells (cmpC oneC).toArray 53)).alloc (Obj.cells (cmpC noneC).toArray 53)).heap[w3.heap.size]? = some (.cells (cmpC oneC).toArray 53 (0, 0)) := zal (zad _ _ _ rfl) _; have hb3 : ((w3.alloc (Obj.cells (cmpC oneC).toArray 53)).alloc (Obj.cells (cmpC noneC).toArray 53)).heap[w3.heap.size + 1]? = some (.cells (cmpC noneC).toArray 53 (0, 0)) := zad _ _ _ (by simp); have hw4 : Fr No w3 ((w3.alloc (Obj.cells (cmpC oneC).toArray 53)).alloc (Obj.cells (cmpC noneC).toArray 53)) := ((Fr.refl No w3).alloc _).alloc _
 have hdef : ((w3.alloc (Obj.cells (cmpC oneC).toArray 53)).alloc (Obj.cells (cmpC noneC).toArray 53)) = ((w3.alloc (Obj.cells #[Value.string ⟨#[97]⟩, .int .i64 1, .int .i64 0, .int .i64 1, .string ⟨#[]⟩] 53)).alloc (Obj.cells #[Value.string ⟨#[97]⟩, .int .i64 2, .int .i64 0, .int .i64 0, .string ⟨#[]⟩] 53)) := rfl; rw [hdef] at hb2 hb3 hw4; clear hdef; generalize ((w3.alloc (Obj.cells #[Value.string ⟨#[97]⟩, .int .i64 1, .int .i64 0, .int .i64 1, .string ⟨#[]⟩] 53)).alloc (Obj.cells #[Value.string ⟨#[97]⟩, .int .i64 2, .int .i64 0, .int .i64 0, .string ⟨#[]⟩] 53)) = W4 at hb2 hb3 hw4 ⊢
 have hcell : ∀ W, Fr F1 W4 W → W.cell? ⟨w3.heap.size + 1, 0, none⟩ = some (.string ⟨#[97]⟩) ∧ W.cell? ⟨w3.heap.size + 1, 1, none⟩ = some (.int .i64 2) ∧ W.cell? ⟨w3.heap.size + 1, 2, none⟩ = some (.int .i64 0) ∧ W.cell? ⟨w3.heap.size + 1, 3, none⟩ = some (.int .i64 0) ∧
  W.cell? ⟨w3.heap.size + 1, 4, none⟩ = some (.string ByteArray.empty) := by
  intro W hW; have h := hW.heap hb3 (fun h => by have := hS.lt hT _ h; omega); simp [World.cell?, h, cmpC, noneC, bA]
 have HCELL := H_ hcell; have HB2 := H_ hb2; have HS := H_ hS; have HW4 := H_ hw4; have HW3 := H_ hw3; have HF1 := H_ hF1; have l34 : w3.heap.size + 2 ≤ W4.heap.size := by have := zaa hb3; omega
 have HLS := H_ (hS.lt hT); clear hcell hb2 hb3 hS hw4 hw3 hF1
 go_cut [4, 5, 7] (fun s4 s5 s7 wx => s4 = .bool false ∧ s7 = .int .i64 0 ∧ ∃ (g o cap : Nat) (F2 : Nat → Prop), s5 = .slice (some ⟨g, o, none⟩) 1 cap ∧ Hid (zaj TA wx s S1 F2) ∧ wx.cell? ⟨g, o + 2, none⟩ = some (.int .i64 1) ∧ Hid (Fr F1 W4 wx) ∧
  Hid (∀ b, F2 b → F1 b ∨ W4.heap.size ≤ b) ∧ Hid (W4.heap.size ≤ g ∧ ¬ F2 g))
 case first =>
  go_region_held3 (fun W => W.cell? ⟨w3.heap.size + 1, 0, none⟩ = some (.string ⟨#[97]⟩) ∧ W.cell? ⟨w3.heap.size + 1, 1, none⟩ = some (.int .i64 2) ∧ W.cell? ⟨w3.heap.size + 1, 2, none⟩ = some (.int .i64 0) ∧ W.cell? ⟨w3.heap.size + 1, 3, none⟩ = some (.int .i64 0) ∧
   W.cell? ⟨w3.heap.size + 1, 4, none⟩ = some (.string ByteArray.empty))
   (first | ((refine HCELL.out _ ?_); (repeat (first | with_reducible exact Fr.refl _ _ | with_reducible exact hf45 | with_reducible refine Fr.alloc ?_ _ | with_reducible refine Fr.drew ?_ | (with_reducible refine Fr.trans0 ?_ (by with_reducible assumption)))); done))
   (first
     | (go_at_call 74; refine (zeo _ _ _).mono ?_; rintro e w4 ⟨rfl, hf4⟩; unfold opV putO rg0; dsimp only)
     | (go_at_call 33
        have hz4 : W4.heap.size ≤ w4.heap.size := (by have := hf4.size; simp at this; omega)
        refine (zud hT _ s _ _ _ F1 (HS.out.fr0 hT (HW4.out.trans0 (by (repeat (first | with_reducible exact Fr.refl _ _ | with_reducible refine Fr.alloc ?_ _ | with_reducible refine Fr.drew ?_ | (with_reducible refine Fr.trans0 ?_ (by with_reducible assumption)))); done)))
         (by repeat (first | exact zad _ _ _ (by first | rfl | simp) | refine zal ?_ _ | refine hf4.heap ?_ id)) (by repeat (first | exact zad _ _ _ (by first | rfl | simp) | refine zal ?_ _ | refine hf4.heap ?_ id)) (by repeat (first | exact zad _ _ _ (by first | rfl | simp) | refine zal ?_ _ | refine hf4.heap ?_ id))
         (fun h => by have := HLS.out _ h; omega) (fun h => by have := HLS.out _ h; omega)).mono ?_
        rintro e w5 ⟨g, o, cap, ev, F2, rfl, hs5, hc5, hf5, hn5, hg5, ng5⟩; have hn6 : ∀ b, F2 b → F1 b ∨ W4.heap.size ≤ b := fun b hb => (hn5 b hb).imp id (fun h => by (try simp at h); omega); have hg6 : W4.heap.size ≤ g := (by (try simp at hg5); omega); have hf45 : Fr F1 W4 w5 := Fr.trans (S := F1) (T := F1) (by (repeat (first | with_reducible exact Fr.refl _ _ | with_reducible refine Fr.alloc ?_ _ | with_reducible refine Fr.drew ?_ | (with_reducible refine Fr.trans0 ?_ (by with_reducible assumption)))); done) hf5 fun _ _ h => h))
  all_goals
   go_wp2_with fail; go_meet
   case rel => exact ⟨rfl, rfl, g, o, cap, F2, rfl, H_ (hs5.fr0 hT (by (repeat (first | with_reducible exact Fr.refl _ _ | with_reducible refine Fr.drew ?_)); done)), hc5, H_ (hf45.trans0 (by (repeat (first | with_reducible exact Fr.refl _ _ | with_reducible refine Fr.drew ?_)); done)), H_ hn6, H_ ⟨hg6, ng5⟩⟩
 case rest =>
  obtain ⟨rfl, rfl, g, o, cap, F2, rfl, HS5, hc5, HF5, HN5, HG5⟩ := hcut; have HB5 := H_ (HF5.out.heap HB2.out (fun h => by have := HLS.out _ h; omega))
  have n2 : ¬ F2 w3.heap.size := fun h => by
   rcases HN5.out _ h with h | h
   · have := HLS.out _ h; omega
   · omega
  have n3 : ∀ b, F2 b → w.heap.size ≤ b := fun b h => by
   have := HW3.out.size; rcases HN5.out _ h with h | h
   · exact HF1.out b h
   · omega
  have lg := World.block_lt_of_cell? _ _ hc5; have hw5 : Fr No w wc := (HW3.out.trans0 HW4.out).trans HF5.out fun b hb h => by have := HF1.out b h; omega
  have HW5 := H_ hw5; have HN3 := H_ n3; have HLS5 := H_ (HS5.out.lt hT); clear hw5 n3 HCELL
  go_upto_region 7 with (first
   | (go_at_call 74; refine (zeo _ _ _).mono ?_; rintro e w6 ⟨rfl, hf6⟩; unfold opV putO rg0; dsimp only)
   | (go_at_call 33; refine (zuc hT _ s w6.heap.size F2 ((HS5.out.fr0 hT hf6).fr0 hT ((Fr.refl No w6).alloc _)) (zad _ _ _ rfl) (fun h => by have := HLS5.out _ h; have := hf6.size; omega)).mono ?_
      rintro e w7 ⟨av7, a7, cap7, F3, rfl, hs7, hf7⟩; have hf57 : Fr F2 wc w7 := (((Fr.refl F2 wc).trans (hf6.mono fun _ _ h => h.elim) fun _ _ h => h).alloc _).trans hf7 fun _ _ h => h; have HB7 := H_ (hf57.heap HB5.out n2); have hc7 := hf57.cell hc5 HG5.out.2; have HS7 := H_ hs7; have HF57 := H_ hf57; clear hs7 hf57 hf7))
  have y0 : w7.cell? ⟨w3.heap.size, 0, none⟩ = some (.string ⟨#[97]⟩) := (by simp [World.cell?, HB7.out, cmpC, oneC, bA]); have y1 : w7.cell? ⟨w3.heap.size, 1, none⟩ = some (.int .i64 1) := (by simp [World.cell?, HB7.out, cmpC, oneC, bA]); have y2 : w7.cell? ⟨w3.heap.size, 2, none⟩ = some (.int .i64 0) := (by simp [World.cell?, HB7.out, cmpC, oneC, bA]); have y3 : w7.cell? ⟨w3.heap.size, 3, none⟩ = some (.int .i64 1) := (by simp [World.cell?, HB7.out, cmpC, oneC, bA]); have y4 : w7.cell? ⟨w3.heap.size, 4, none⟩ = some (.string ByteArray.empty) := (by simp [World.cell?, HB7.out, cmpC, oneC, bA]); have ly := zaa HB7.out; have lg7 := World.block_lt_of_cell? _ _ hc7; obtain ⟨D2, hG2⟩ := zvq; have hho := zmr hT (n := 20000 * 2) (by omega) w7 s S2 F3 HS7.out hG2.ok (by rw [S2_len]; omega) (by decide) oneC (by decide); rw [zuz] at hho; unfold cmpV oneC bA at hho; dsimp only at hho
  have HHO := H_ hho; have hck := fun (W : World) (p : Nat) (hp : W.heap[p]? = some (.cells (cmpC sixC).toArray 53 (0, 0))) => zdf W (.slice (some ⟨p, 0, none⟩) 1 1) (.slice none 0 0) (.slice none 0 0) [sixC] [] [] (zhi hp) (SlR.nil _ _ _) (SlR.nil _ _ _) (by decide) (by decide) (by decide) (by decide) (by decide) (by decide); rw [chk_e] at hck; have HCK := H_ hck; clear hho hck
  go_wp2_with (first
   | (go_at_call 31; refine HHO.out.mono ?_; rintro e w8 ⟨rfl, hf8⟩
      have hc8 := hf8.cell0 hc7)
   | (go_at_call 19; refine (zjb w8 s S2 F3 (HS7.out.fr0 hT hf8)).mono ?_; rintro e w9 ⟨rfl, rfl⟩; rw [S2_rev])
   | (go_at_call 38; refine (HCK.out _ w8.heap.size (zad _ _ _ rfl)).mono ?_; rintro e w10 ⟨rfl, hf10⟩))
  go_ret; refine ⟨rfl, (HW5.out.trans (HF57.out.trans0 (hf8.trans0 (((Fr.refl No w8).alloc _).trans0 hf10))) fun b hb h => ?_)⟩; have := HN3.out b h; omega
def rgz : Rg := ⟨ByteArray.empty, ByteArray.empty, 0, 0, false, false, false⟩
def calO (v : Value) : Cal := ⟨0, v, rgz, 0, 0, .slice none 0 0⟩
def fewCmp (c : Cmp) : Bool := decide (c.key.size ≤ 3000) && decide (c.value.size ≤ 3000)
def fewTxn (cs : List Cmp) (la lb : List Opr) : Bool := decide (cs.length ≤ 30) && zbc [(calO (.slice none 0 0), la, []), (calO (.slice none 0 0), lb, [])] && cs.all fewCmp
theorem zvk {W : World} {b : Nat} {va vb : Value} {la lb : List Opr} (h : W.heap[b]? = some (.cells ((calC (calO va, la, [])) ++ (calC (calO vb, lb, []))).toArray 38 (0, 0))) (ha : SlR W 10 opC va la) (hb : SlR W 10 opC vb lb) :
 CalR W (.slice (some ⟨b, 0, none⟩) 2 2) [(calO va, la, []), (calO vb, lb, [])] := by
 have two : ∀ (i : Nat) (x : Cal × List Opr × List ByteArray), [(calO va, la, []), (calO vb, lb, [])][i]? = some x → (i = 0 ∧ x = (calO va, la, [])) ∨ (i = 1 ∧ x = (calO vb, lb, [])) := by
  intro i x hx
  match i, hx with
  | 0, hx => left; simp at hx; exact ⟨rfl, hx.symm⟩
  | 1, hx => right; simp at hx; exact ⟨rfl, hx.symm⟩
  | i + 2, hx => simp at hx
 refine ⟨⟨_, 2, rfl, by simp, by decide, fun _ => ⟨b, 0, rfl, fun i x hx j u hu => ?_⟩⟩, fun i q hq => ?_, fun i q hq => ?_⟩
 · unfold World.cell?
   simp only [h, Option.isSome_none, Bool.false_eq_true, if_false]; rcases two i x hx with ⟨rfl, rfl⟩ | ⟨rfl, rfl⟩
   · have hj : j < 12 := (List.getElem?_eq_some_iff.1 hu).1
     simp only [Nat.zero_mul, Nat.zero_add, List.getElem?_toArray]; rw [List.getElem?_append_left (by exact hj)]; exact hu
   · have hj : j < 12 := (List.getElem?_eq_some_iff.1 hu).1
     simp only [Nat.one_mul, Nat.zero_add, List.getElem?_toArray]; rw [List.getElem?_append_right (by rw [zas]; omega), zas, Nat.add_sub_cancel_left]; exact hu
 · rcases two i q hq with ⟨rfl, rfl⟩ | ⟨rfl, rfl⟩
   · exact ha
   · exact hb
 · rcases two i q hq with ⟨rfl, rfl⟩ | ⟨rfl, rfl⟩
   · exact SlR.nil _ _ _
   · exact SlR.nil _ _ _
set_option maxHeartbeats 2000000 in
theorem zhc (w : World) (v va vb : Value) (cs : List Cmp) (la lb : List Opr) (hv : SlR w 5 cmpC v cs) (hva : SlR w 10 opC va la) (hvb : SlR w 10 opC vb lb) :
 Calls Tryz.prog 28 #[.agg #[v, va, vb]] w fun e w' => e = .returned (.bool (fewTxn cs la lb)) ∧ Fr No w w' := by
 obtain ⟨a, cap, rfl, hc1, hc2, ha⟩ := hv.shape; obtain ⟨aa, acap, rfl, _, _, _⟩ := hva.shape; obtain ⟨ab, bcap, rfl, _, _, _⟩ := hvb.shape; have HV := H_ hv; clear hv; have HA := H_ ha; clear ha; have HVA := H_ hva; clear hva; have HVB := H_ hvb; clear hvb; by_cases h30 : 30 < cs.length
 · have h30' : (30 : Int) < (cs.length : Int) := by omega
   have : fewTxn cs la lb = false := (by unfold fewTxn; simp; omega); rw [this]; go_enter Tryz.func28, Tryz.ntmps28; go_wp2; go_ret; exact ⟨rfl, (Fr.refl No w).alloc _⟩
 · have h30' : ¬ (30 : Int) < (cs.length : Int) := by omega
   have hE : fewTxn cs la lb = (zbc [(calO (.slice none 0 0), la, []), (calO (.slice none 0 0), lb, [])] && cs.all fewCmp) := by
    have h30'' : decide (cs.length ≤ 30) = true := (by rw [decide_eq_true_eq]; omega); unfold fewTxn; rw [h30'']
    rfl
   have hfc := fun W (p : Nat) h1 h2 h3 => zea W _ _ (zvk (b := p) (va := .slice aa la.length acap) (vb := .slice ab lb.length bcap) (la := la) (lb := lb) (W := W) h1 h2 h3); have hfc : ∀ W (p : Nat), _ → _ → _ → Calls Tryz.prog 15 #[.slice (some ⟨p, 0, none⟩) 2 2] W fun e w' => e = .returned (.bool (zbc [(calO (.slice none 0 0), la, []), (calO (.slice none 0 0), lb, [])])) ∧ W = w' := hfc; generalize zbc [(calO (.slice none 0 0), la, []), (calO (.slice none 0 0), lb, [])] = fc at *; have HE := H_ hE; clear hE; have HFC := H_ hfc; clear hfc; cases fc
   · go_enter Tryz.func28, Tryz.ntmps28
     go_wp2_with (go_at_call 15; refine (HFC.out _ (w.heap.size + 1) (zad _ _ _ (by simp)) ((HVA.out.alloc _).alloc _) ((HVB.out.alloc _).alloc _)).mono ?_; rintro e w' ⟨rfl, rfl⟩); go_ret; exact ⟨by rw [HE.out]; rfl, ((Fr.refl No w).alloc _).alloc _⟩
   · go_enter Tryz.func28, Tryz.ntmps28
     go_wp2_with (go_at_call 15; refine (HFC.out _ (w.heap.size + 1) (zad _ _ _ (by simp)) ((HVA.out.alloc _).alloc _) ((HVB.out.alloc _).alloc _)).mono ?_; rintro e w' ⟨rfl, rfl⟩)
     go_loopg [3] cs.length (fun g s3 wr => ∃ i : Nat, s3 = .int .i64 i ∧ i + g = cs.length ∧ Hid ((cs.take i).all fewCmp = true) ∧ wr = (w.alloc (Obj.cells #[.slice a cs.length cap, .slice aa la.length acap, .slice ab lb.length bcap] 57)).alloc (Obj.cells ((calC (calO (.slice aa la.length acap), la, [])) ++ (calC (calO (.slice ab lb.length bcap), lb, []))).toArray 38))
     case atStart => exact ⟨0, rfl, by simp, H_ (by simp), rfl⟩
     case round =>
      obtain ⟨i, rfl, hi, HJ, rfl⟩ := hrel; have hb0 : ((w.alloc (Obj.cells #[.slice a cs.length cap, .slice aa la.length acap, .slice ab lb.length bcap] 57)).alloc (Obj.cells ((calC (calO (.slice aa la.length acap), la, [])) ++ (calC (calO (.slice ab lb.length bcap), lb, []))).toArray 38)).heap[w.heap.size]? = some (.cells #[.slice a cs.length cap, .slice aa la.length acap, .slice ab lb.length bcap] 57 (0, 0)) := zal (zad _ _ _ rfl) _; have hfw : Fr No w ((w.alloc (Obj.cells #[.slice a cs.length cap, .slice aa la.length acap, .slice ab lb.length bcap] 57)).alloc (Obj.cells ((calC (calO (.slice aa la.length acap), la, [])) ++ (calC (calO (.slice ab lb.length bcap), lb, []))).toArray 38)) := ((Fr.refl No w).alloc _).alloc _
      generalize ((w.alloc (Obj.cells #[.slice a cs.length cap, .slice aa la.length acap, .slice ab lb.length bcap] 57)).alloc (Obj.cells ((calC (calO (.slice aa la.length acap), la, [])) ++ (calC (calO (.slice ab lb.length bcap), lb, []))).toArray 38)) = W at *; have z0 : W.cell? ⟨w.heap.size, 0, none⟩ = some (.slice a cs.length cap) := (by simp [World.cell?, hb0]); have lz := zaa hb0; clear hb0
      cases gk with
      | zero =>
        have hil : ¬ (i : Int) < (cs.length : Int) := (by omega); have hti : cs.take i = cs := List.take_of_length_le (by omega); rw [hti] at HJ; go_wp2; go_ret; exact ⟨by rw [HE.out, HJ.out]; rfl, hfw⟩
      | succ g =>
        obtain ⟨gb, go, rfl⟩ := HA.out (by omega); obtain ⟨p, hx⟩ : ∃ p, cs[i]? = some p := ⟨_, List.getElem?_eq_getElem (by omega)⟩; have hvr := HV.out.fr0 hfw; have x0 := hvr.cell0 zav i hx rfl; have x4 := hvr.cell zav i 4 hx rfl; have hil : (i : Int) < (cs.length : Int) := (by omega); have hnx := zco (p := fewCmp) hx; have hfa := zdb (p := fewCmp) hx; have HNX := H_ hnx; have HFA := H_ hfa; clear hx hvr hnx hfa; by_cases h1 : 3000 < p.key.size
        · have h1' : (3000 : Int) < (p.key.size : Int) := by omega
          have hf : fewCmp p = false := (by unfold fewCmp; simp; omega); have HF := H_ hf; clear hf; go_wp2; go_ret; exact ⟨by rw [HE.out, HFA.out HF.out]; rfl, hfw⟩
        · have h1' : ¬ (3000 : Int) < (p.key.size : Int) := by omega
          by_cases h2 : 3000 < p.value.size
          · have h2' : (3000 : Int) < (p.value.size : Int) := by omega
            have hf : fewCmp p = false := (by unfold fewCmp; simp; omega); have HF := H_ hf; clear hf; go_wp2; go_ret; exact ⟨by rw [HE.out, HFA.out HF.out]; rfl, hfw⟩
          · have h2' : ¬ (3000 : Int) < (p.value.size : Int) := by omega
            have hf : fewCmp p = true := (by unfold fewCmp; simp; omega); have HF := H_ hf; clear hf; go_wp2; go_roundg g
            case rel => exact ⟨i + 1, by go_num, by omega, H_ (by rw [HNX.out, HJ.out, HF.out]; rfl), rfl⟩
            case measure => omega
theorem info198 : (Tryz.prog.info? 231).map (fun i => (i.zero, i.size, i.bytes)) = some (some (.agg #[.slice none 0 0, .slice none 0 0]), 2, 48) := by kernel_rfl
def nz0 : Nz := ⟨nd0, .slice none 0 0, .slice none 0 0⟩
theorem takeZ {Z : List Nz} : ndsZ (Z ++ [nz0]) = ndsZ Z ++ [nd0] := by unfold ndsZ; simp [nz0]
set_option maxHeartbeats 1000000 in
theorem zrv (w : World) (t : Nat) (A : Arr) (fl : List Nat) (root : Nat) (many : Int) (F : Nat → Prop) (h : TreeZ w t A fl root many F) (hA : A.length ≤ 1099511627) (hl : fl.length ≤ 1099511627) (hne : fl ≠ []) :
 Calls Tryz.prog 155 #[.pointer (some ⟨t, 0, none⟩)] w fun e w' => e = .returned (.int .i64 (takeI A fl : Int)) ∧ ∃ F', TreeZ w' t (takeA A fl) fl.dropLast root many F' ∧ Fr F w w' ∧ ∀ b, F' b → F b ∨ w.heap.size ≤ b := by
 obtain ⟨nv, fv, Z, h, rfl, hF⟩ := h; have c1 := h.obj.cell 1 rfl; have f1 := h.obj.free 1; have hpos : 0 < fl.length := List.length_pos_iff.2 hne; obtain ⟨a, cap, rfl, hc1, hc2, ha⟩ := h.free.shape; obtain ⟨fb, fo, rfl⟩ := ha hpos
 have hx : fl[fl.length - 1]? = some (fl.getLast hne) := by
  rw [List.getLast_eq_getElem]; exact List.getElem?_eq_getElem _
 have d0 := h.free.cell1 zah (fl.length - 1) hx rfl; have htI : takeI (ndsZ Z) fl = fl.getLast hne := by unfold takeI; rw [List.getLast?_eq_some_getLast hne]; rfl
 have htA : takeA (ndsZ Z) fl = ndsZ Z := by unfold takeA; rw [if_neg hne]
 have hs := h.free.take zah (fl.length - 1) (by omega); rw [← List.dropLast_eq_take] at hs; have hln : fl.dropLast.length = fl.length - 1 := by simp
 have HS : Hid (SlF w 3 1 nat1 (.slice (some ⟨fb, fo, none⟩) (fl.length - 1) cap) fl.dropLast) := H_ hs; have H := H_ h; have HI := H_ htI; have HTA := H_ htA; have HFF := H_ hF; generalize fl.getLast hne = x at *; have hz0 : (0 : Int) < (fl.length : Int) := by omega
 have hj1 : (0 : Int) ≤ (fl.length : Int) - 1 := by omega
 have hj2 : (fl.length : Int) - 1 ≤ (cap : Int) := by omega
 have hj3 : ((fl.length : Int) - 1).toNat = fl.length - 1 := by omega
 have hj4 : (fl.length : Int) - 1 < (fl.length : Int) := by omega
 have hj5 : (fl.length : Int) ≤ 1099511627 := by omega
 clear h hs htI htA hF hx ha hln; generalize hN : fl.length = n at *; go_enter Tryz.func155, Tryz.ntmps155; go_wp2; go_ret; have hset := H.out.setFree (w1 := w) (fl' := fl.dropLast) (fv' := .slice (some ⟨fb, fo, none⟩) (n - 1) cap) (Fr.refl _ w) HS.out (fun b e => .inl e); obtain ⟨q1, q2, q3⟩ := hset; refine ⟨by rw [HI.out]; rfl, _, ⟨_, _, Z, q1, HTA.out.symm, fun b => Iff.rfl⟩, q2.mono fun b _ e => (HFF.out b).2 ?_, fun b hb => ?_⟩
 · rcases e with e | e
   · exact .inl e
   · exact .inr (.inr (.inl e))
 · rcases q3 b hb with e | e
   · exact .inl ((HFF.out b).2 e)
   · exact .inr e
set_option maxHeartbeats 1000000 in
theorem zrw (w : World) (t : Nat) (A : Arr) (root : Nat) (many : Int) (F : Nat → Prop) (h : TreeZ w t A [] root many F) (hA : A.length ≤ 1099511627) :
 Calls Tryz.prog 155 #[.pointer (some ⟨t, 0, none⟩)] w fun e w' => e = .returned (.int .i64 (takeI A [] : Int)) ∧ ∃ F', TreeZ w' t (takeA A []) [] root many F' ∧ Fr F w w' ∧ ∀ b, F' b → F b ∨ w.heap.size ≤ b := by
 obtain ⟨nv, fv, Z, h, rfl, hF⟩ := h; rw [zau] at hA; have c0 := h.obj.cell 0 rfl; have c1 := h.obj.cell 1 rfl; have f0 := h.obj.free 0; obtain ⟨i0, hi0, hz0, hz1, hz2⟩ := info_parts info198; obtain ⟨a, cap, rfl, hc1, hc2, ha⟩ := h.free.shape; have hnew := zax w [.slice none 0 0, .slice none 0 0] 231 (0, 0); have H := H_ h; have HFF := H_ hF; have HN := H_ h.nodes; have hlt := h.obj.lt; have hnt : ¬ nv.ownBlock = some t := h.a1.1; clear h hF ha; go_enter Tryz.func155, Tryz.ntmps155; go_wp2_with (at_builtin; refine zap rfl _ _ 175 rfl 231 i0 _ 2 48 Tryz.underlying175 hi0 hz0 hz1 hz2 rfl (by decide) nv Z rfl (HN.out.alloc _) w.heap.size 1 nz0 rfl (by simpa [nzC, nz0] using hnew) rfl (by intro u hu; simp [nzC, nz0] at hu; subst hu; rfl) (by unfold maxLen; omega) (by omega) ?_); intro g o cap' w1 hs1 hg1 hb1 hlt1
 have hF1 : Fr (fun b => nv.ownBlock = some b) w w1 := (((Fr.refl _ w).alloc _).grown hg1 fun k hk => .inl hk); have e0 := hF1.cell c0 hnt; have e1 := hF1.cell c1 hnt; have g0 := hF1.free c0 f0 hnt; have HS1 := H_ hs1; have HB1 := H_ hb1; have HF1 := H_ hF1; clear hs1 hg1 hb1 hF1 c0 c1 f0 hnew; have hj : (0 : Int) ≤ (Z.length : Int) := by omega
 go_wp2; go_ret; have hL : (Z ++ [nz0]).length = Z.length + 1 := by simp
 have hset := H.out.snoc (w1 := w1) (nv' := .slice (some ⟨g, o, none⟩) (Z.length + 1) cap') HF1.out HS1.out fun b e => by
  obtain rfl : g = b := by simpa [Value.ownBlock] using e
  rcases HB1.out with e | e
  · exact .inl e
  · right; omega
 obtain ⟨q1, q2, q3⟩ := hset; refine ⟨?_, _, ⟨_, _, _, q1, by unfold takeA; rw [if_pos rfl]; exact takeZ, fun b => Iff.rfl⟩, q2.mono fun b _ e => (HFF.out b).2 ?_, fun b hb => ?_⟩
 · unfold takeI
   rw [List.getLast?_nil, zau]
   rfl
 · rcases e with e | e
   · exact .inl e
   · exact .inr (.inl e)
 · rcases q3 b hb with e | e
   · exact .inl ((HFF.out b).2 e)
   · exact .inr e
theorem zjg (w : World) (t : Nat) (A : Arr) (fl : List Nat) (root : Nat) (many : Int) (F : Nat → Prop) (h : TreeZ w t A fl root many F) (hA : A.length ≤ 1099511627) (hl : fl.length ≤ 1099511627) :
 Calls Tryz.prog 155 #[.pointer (some ⟨t, 0, none⟩)] w fun e w' => e = .returned (.int .i64 (takeI A fl : Int)) ∧ ∃ F', TreeZ w' t (takeA A fl) fl.dropLast root many F' ∧ Fr F w w' ∧ ∀ b, F' b → F b ∨ w.heap.size ≤ b := by
 by_cases hne : fl = []
 · subst hne; exact zrw w t A root many F h hA
 · exact zrv w t A fl root many F h hA hl hne
set_option maxHeartbeats 1000000 in
theorem zjm (w : World) (t : Nat) (A : Arr) (fl : List Nat) (root : Nat) (many : Int) (F : Nat → Prop) (h : TreeZ w t A fl root many F) (at_ : Nat) (hat : at_ < A.length) (hA : A.length ≤ 1099511627) (hl : fl.length ≤ 1099511627) :
 Calls Tryz.prog 149 #[.pointer (some ⟨t, 0, none⟩), .int .i64 at_] w fun e w' => e = .returned (.tuple #[]) ∧ ∃ F', TreeZ w' t (A.set at_ nd0) (fl ++ [at_]) root many F' ∧ Fr F w w' ∧ ∀ b, F' b → F b ∨ w.heap.size ≤ b := by
 obtain ⟨nv, fv, Z, h, rfl, hF⟩ := h
 obtain ⟨z, hz, _⟩ := zcl hat
 rw [zau] at hA hat; have c0 := h.obj.cell 0 rfl; have c1 := h.obj.cell 1 rfl; have f1 := h.obj.free 1; obtain ⟨i0, hi0, hz0, hz1, hz2⟩ := info_parts info3; obtain ⟨a, cap, rfl, hc1, hc2, ha⟩ := h.nodes.shape; obtain ⟨nb, no, rfl⟩ := ha (by omega); have n0 := h.nodes.cell0 zbp at_ hz rfl; have n1 := h.nodes.cell zbp at_ 1 hz rfl; have nf := h.nodes.free (no + at_ * 2); have nf1 := h.nodes.free (no + at_ * 2 + 1); have htn : t ≠ nb := fun e => h.a1.1 (by rw [e]; rfl); have hp := h.setPairs (w1 := w) (pv' := .slice none 0 0) (P' := []) at_ z hz (Fr.refl _ w) (SlF.nil _ _ _ _) (fun b e => by simp [Value.ownBlock] at e); obtain ⟨p1, p2, p3⟩ := hp
 have hz2' : (Z.set at_ ⟨⟨[], z.nd.kids⟩, .slice none 0 0, z.kv⟩)[at_]? = some ⟨⟨[], z.nd.kids⟩, .slice none 0 0, z.kv⟩ := List.getElem?_set_self hat; have p1' : TreeR (w.setCell ⟨nb, no + at_ * 2, none⟩ (.slice none 0 0)) t (.slice (some ⟨nb, no, none⟩) (Z.set at_ ⟨⟨[], z.nd.kids⟩, .slice none 0 0, z.kv⟩).length cap) fv (Z.set at_ ⟨⟨[], z.nd.kids⟩, .slice none 0 0, z.kv⟩) fl root many := by rw [List.length_set]; exact p1
 have hk := p1'.setKids (w1 := w.setCell ⟨nb, no + at_ * 2, none⟩ (.slice none 0 0)) (kv' := .slice none 0 0) (K' := []) at_ _ hz2' (Fr.refl _ _) (SlF.nil _ _ _ _) (fun b e => by simp [Value.ownBlock] at e); obtain ⟨k1, k2, k3⟩ := hk; rw [List.set_set, List.length_set] at k1
 have hFz : ∀ b, treeF t (.slice (some ⟨nb, no, none⟩) Z.length cap) fv (Z.set at_ nz0) b → treeF t (.slice (some ⟨nb, no, none⟩) Z.length cap) fv Z b ∨ w.heap.size ≤ b :=
  zbd hz fun b hb => by rcases hb with e | e <;> simp [Value.ownBlock, nz0] at e
 have hK1 : TreeR ((w.setCell ⟨nb, no + at_ * 2, none⟩ (.slice none 0 0)).setCell ⟨nb, no + at_ * 2 + 1, none⟩ (.slice none 0 0)) t (.slice (some ⟨nb, no, none⟩) Z.length cap) fv (Z.set at_ nz0) fl root many := k1
 have hFR : Fr F w ((w.setCell ⟨nb, no + at_ * 2, none⟩ (.slice none 0 0)).setCell ⟨nb, no + at_ * 2 + 1, none⟩ (.slice none 0 0)) := by
  refine (((Fr.refl F w).setCell (p := ⟨nb, no + at_ * 2, none⟩) (.inl ?_) _).setCell (p := ⟨nb, no + at_ * 2 + 1, none⟩) (.inl ?_) _) <;> exact (hF nb).2 (.inr (.inl rfl))
 have hlnb := h.nodes.lt nb rfl; have hlt := h.obj.lt; have H := H_ hK1; have HFZ := H_ hFz; have HFF := H_ hF; have HFR := H_ hFR; clear h hF ha p1 p2 p3 p1' k1 k2 k3 hK1 hFz hFR hz hz2'; have hj : (at_ : Int) < (Z.length : Int) := by omega
 have hnew := zax ((w.setCell ⟨nb, no + at_ * 2, none⟩ (.slice none 0 0)).setCell ⟨nb, no + at_ * 2 + 1, none⟩ (.slice none 0 0)) [.int .i64 (at_ : Int)] 3 (0, 0); have hsz : ((w.setCell ⟨nb, no + at_ * 2, none⟩ (.slice none 0 0)).setCell ⟨nb, no + at_ * 2 + 1, none⟩ (.slice none 0 0)).heap.size = w.heap.size := by simp
 rw [hsz] at hnew; have HSZ := H_ hsz; clear hsz; go_enter Tryz.func149, Tryz.ntmps149; go_wp2_with (at_builtin; refine zap rfl _ _ 76 rfl 3 i0 _ 1 8 Tryz.underlying76 hi0 hz0 hz1 hz2 rfl (by decide) fv fl rfl (H.out.free.alloc _) w.heap.size 1 at_ rfl (by simpa [nat1] using hnew) rfl (by intro u hu; simp [nat1] at hu; subst hu; rfl) (by unfold maxLen; omega) (by omega) ?_); generalize ((w.setCell ⟨nb, no + at_ * 2, none⟩ (.slice none 0 0)).setCell ⟨nb, no + at_ * 2 + 1, none⟩ (.slice none 0 0)) = W1 at *; intro g o cap' w1 hs1 hg1 hb1 hlt1; have hF1 : Fr (fun b => fv.ownBlock = some b) W1 w1 := (((Fr.refl _ W1).alloc _).grown hg1 fun k hk => .inl hk); have hnt : ¬ fv.ownBlock = some t := H.out.a1.2.1; have e1 := hF1.cell (H.out.obj.cell 1 rfl) hnt; have g1 := hF1.free (H.out.obj.cell 1 rfl) (H.out.obj.free 1) hnt; have HS1 := H_ hs1; have HB1 := H_ hb1; have HF1 := H_ hF1
 clear hs1 hg1 hb1 hF1 c0 c1 f1 hnew n0 n1 nf nf1; go_wp2; refine bodyPost_end (results_none rfl _ _ _) rfl ⟨rfl, ?_⟩
 have hset := H.out.setFree (w1 := w1) (fl' := fl ++ [at_]) (fv' := .slice (some ⟨g, o, none⟩) (fl.length + 1) cap') HF1.out HS1.out fun b e => by
  obtain rfl : g = b := by simpa [Value.ownBlock] using e
  rcases HB1.out with e | e
  · exact .inl e
  · right; have := HSZ.out; omega
 obtain ⟨q1, q2, q3⟩ := hset; refine ⟨_, ⟨_, _, _, q1, by rw [zaw]; rfl, fun b => Iff.rfl⟩, HFR.out.trans q2 fun b hb e => (HFF.out b).2 ?_, fun b hb => ?_⟩
 · rcases e with e | e
   · exact .inl e
   · exact .inr (.inr (.inl e))
 · rcases q3 b hb with e | e
   · rcases HFZ.out b e with e | e
     · exact .inl ((HFF.out b).2 e)
     · exact .inr e
   · right; have := HSZ.out; omega
end Go.Proofs.YthljnnjpmdgkoaaGreat