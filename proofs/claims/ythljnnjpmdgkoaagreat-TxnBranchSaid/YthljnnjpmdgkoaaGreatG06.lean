/- Own lemmas and contracts that the claim's proof needs, laid together. The conditions stand in each. -/
import Derived.Test.YthljnnjpmdgkoaaGreatG05
import Derived.Test.YthljnnjpmdgkoaaGreatG00
import Derived.BigRegion
import Derived.Deep.DeepCutAuto
import Derived.Deep.RegionLaw
namespace Go.Proofs.YthljnnjpmdgkoaaGreat
open Go Go.Proofs Go.RowKit
set_option maxRecDepth 100000
def toOf (key end_ : ByteArray) : ByteArray := if end_.toList.isEmpty then key ++ ⟨#[0]⟩ else if end_.toList == [0] then ByteArray.empty else end_
def oneL (S : St) (rev : Int) (p : ByteArray × Int) : Option Kv := match S.past p.2 with
 | some H => if (hadH H rev).2 then some (hadH H rev).1 else none
 | none => none
def zam (S : St) (R : Pairs) (rev : Int) : List Kv := R.filterMap (oneL S rev)
def zaz (S : St) (key end_ : ByteArray) (rev : Int) : List Kv := zam S (rangeT S.T key (toOf key end_)) rev
theorem info57 : (Tryz.prog.info? 99).map (fun i => (i.zero, i.size, i.bytes)) = some (some (.agg #[.string ByteArray.empty, .string ByteArray.empty, .int .i64 0, .int .i64 0, .int .i64 0, .int .i64 0]), 6, 64) := by kernel_rfl
theorem zgs {T : Pairs} {a b : ByteArray} {p : ByteArray × Int} (h : p ∈ rangeT T a b) : p ∈ T := (List.mem_filter.1 h).1
set_option maxHeartbeats 4000000 in
theorem zgk {TA : zao} {N : Nat} (hT : TreeOk TA N) {n : Nat} (hn : n ≤ 1099511627) (w : World) (s : Nat) (S : St) (F : Nat → Prop) (hS : zaj TA w s S F) (hok : StOk n S) (hN : S.T.length ≤ 1099511627) (key end_ : ByteArray) (rev : Int) (hks : key.size ≤ 1099511627776) :
 Calls Tryz.prog 88 #[.pointer (some ⟨s, 0, none⟩), .string key, .string end_, .int .i64 rev] w fun e w' => ∃ v, e = .returned v ∧ SlF w' 99 6 kvC v (zaz S key end_ rev) ∧ Fr No w w' ∧ (∀ b, v.ownBlock = some b → w.heap.size ≤ b) := by
 have hhad := fun W hW at_ H hH => zih hT hn W s S F hW hok at_ rev H hH; have hSA := H_ hS; obtain ⟨t, p, ev, hp, FT, FH, a, hF⟩ := hS; have c0 := a.obj.cell 0 rfl; have l1 := a.obj.lt; have HT := H_ a.tree; have HLen := H_ fun W hW => hT.len (w := W) (t := t) (T := S.T) (F := FT) hW; have hrange := fun W to1 hW => hT.range (w := W) (t := t) (T := S.T) (F := FT) key to1 hW; have HH := H_ hhad; have HOk := H_ hok.id; obtain ⟨i0, hi0, hz0, hz1, hz2⟩ := info_parts info57; have hlenR : ∀ to1, (rangeT S.T key to1).length ≤ S.T.length := fun to1 => List.length_filter_le _ _
 have hto : (end_.toList.isEmpty = true ∧ toOf key end_ = key ++ ⟨#[0]⟩) ∨ (end_.toList.isEmpty = false ∧ (end_.toList == [0]) = true ∧ toOf key end_ = ⟨#[]⟩) ∨ (end_.toList.isEmpty = false ∧ (end_.toList == [0]) = false ∧ toOf key end_ = end_) := by
  unfold toOf; have he : ByteArray.empty = ⟨#[]⟩ := rfl; rw [he]; cases h1 : end_.toList.isEmpty
  · cases h2 : (end_.toList == [0])
    · exact .inr (.inr ⟨rfl, rfl, by simp⟩)
    · exact .inr (.inl ⟨rfl, rfl, by simp⟩)
  · exact .inl ⟨rfl, by simp⟩
 have hks' : ¬ 9223372036854775807 < key.size + 1 := by omega
 clear a hhad hks; have HF0 : Fr No w w := Fr.refl No w; have HX : ∃ X, toOf key end_ = X ∧ ((end_.toList.isEmpty = true ∧ X = key ++ ⟨#[0]⟩) ∨ (end_.toList.isEmpty = false ∧ (end_.toList == [0]) = true ∧ X = ⟨#[]⟩) ∨ (end_.toList.isEmpty = false ∧ (end_.toList == [0]) = false ∧ X = end_)) := ⟨_, rfl, hto⟩; obtain ⟨X, hX, hto⟩ := HX; unfold zaz; rw [hX]; have hRl := hlenR X; have hRm : ∀ q ∈ rangeT S.T key X, q ∈ S.T := fun q hq => zgs hq; have hrX := fun W hW => hrange W X hW; generalize rangeT S.T key X = R at hRl hRm hrX ⊢
 have HRM := H_ hRm; have HRange := H_ hrX; clear hlenR hrange hRm hrX hX; rcases hto with ⟨h1, hX2⟩ | ⟨h1, h2, hX2⟩ | ⟨h1, h2, hX2⟩
 all_goals
  have HX2 := H_ hX2; clear hX2; go_enter Tryz.func88, Tryz.ntmps88; go_wp2_with fail; have hS0 : w.drew.cell? ⟨s, 0, none⟩ = some (.pointer (some ⟨t, 0, none⟩)) := c0
  go_region_held (fun W => W.cell? ⟨s, 0, none⟩ = some (.pointer (some ⟨t, 0, none⟩)))
   (first | assumption | exact hf2.cell0 c0)
   (first
     | (go_at_call 61; refine (HLen.out _ (hT.fr HT.out (Fr.refl No w).drew (fun _ _ s => s))).mono ?_; rintro e w' ⟨rfl, rfl⟩)
     | (go_at_call 60; (first | rw [← HX2.out] | skip); refine (HRange.out _ (hT.fr HT.out (Fr.refl No w).drew (fun _ _ s => s))).mono ?_; rintro e w2 ⟨v, rfl, hv, hf1, hvn⟩
        have hf2 : Fr No w w2 := (Fr.refl No w).drew.trans0 hf1; obtain ⟨va, vcap, rfl, hc1, hc2, hva⟩ := hv.shape; have HV := H_ hv; have HVA := H_ hva; clear hv hva))
  clear hS0; have l2 := hf2.size; go_wp2_with fail
  go_loopg [36, 10] R.length (fun g s36 s10 wr => ∃ (i : Nat) (o : Value), s36 = .int .i64 i ∧ s10 = o ∧ i + g = R.length ∧ Hid (SlF wr 99 6 kvC o (zam S (R.take i) rev)) ∧ Fr No w wr ∧ w2.heap.size ≤ wr.heap.size ∧ Hid (∀ b, o.ownBlock = some b → w2.heap.size ≤ b) ∧ Hid (Fr No w2 wr))
  case atStart => exact ⟨0, _, rfl, rfl, by simp, H_ (SlF.nil _ _ _ _), hf2, Nat.le_refl _, H_ (by simp [Value.ownBlock]), H_ (Fr.refl _ _)⟩
  case round =>
   obtain ⟨i, o, rfl, rfl, hi, HO, hfr, hsz, HOn, HF2⟩ := hrel
   cases gk with
   | zero =>
     have hil : ¬ (i : Int) < (R.length : Int) := (by omega); go_wp2; go_ret; have e1 := HO.out; rw [List.take_of_length_le (by omega)] at e1; exact ⟨_, rfl, e1, hfr, fun b hb => by have := HOn.out b hb; omega⟩
   | succ g =>
     have hil : (i : Int) < (R.length : Int) := (by omega); obtain ⟨q, hq⟩ : ∃ q, R[i]? = some q := ⟨_, List.getElem?_eq_getElem (by omega)⟩; obtain ⟨H, hH⟩ := HOk.out q (HRM.out q (List.mem_of_getElem? hq)); obtain ⟨gb, go, rfl⟩ := HVA.out (by omega); have hVr := HV.out.fr0 HF2.out; have x0 := hVr.cell0 zae i hq rfl; have x1 := hVr.cell zae i 1 hq rfl; have hone : oneL S rev q = if (hadH H rev).2 then some (hadH H rev).1 else none := (by unfold oneL; rw [hH])
     have hstep : zam S (R.take (i + 1)) rev = zam S (R.take i) rev ++ (oneL S rev q).toList := by
      unfold zam; rw [List.take_add_one, hq, List.filterMap_append]; cases h : oneL S rev q <;> simp [h]
     have HST := H_ hstep; have HON := H_ hone; have HPH := H_ hH; have HQ := H_ hq; clear hstep hone hH hq hVr; rcases hr : hadH H rev with ⟨⟨r1, r2, r3, r4, r5, r6⟩, rb⟩
     rw [hr] at HON; have HR := H_ hr; clear hr; obtain ⟨o1, o2, rfl, ho1, ho2, ho3⟩ := HO.out.shape; clear ho3; have hob : (zam S (R.take i) rev).length ≤ R.length := Nat.le_trans (List.length_filterMap_le _ _) (by simp; omega); have hi5 : 0 ≤ (i : Int) + 1 := (by omega); cases rb
     · have HE : Hid (zam S (R.take (i + 1)) rev = zam S (R.take i) rev) := H_ (by rw [HST.out, HON.out]; simp)
       clear HST HON
       go_wp2_with (go_at_call 62; refine (HH.out _ (hSA.out.fr0 hT (hfr.alloc _)) q.2 H HPH.out).mono ?_; rintro e w3 ⟨rfl, hf3⟩
                    have hf4 : Fr No wr w3 := ((Fr.refl No wr).alloc _).trans0 hf3; rw [HR.out]; unfold zch kvV)
       go_roundg g
       case rel =>
        have hf5 : Fr No wr (w3.alloc (Obj.cells #[Value.string r1, Value.string r2, Value.int .i64 r3, Value.int .i64 r4, Value.int .i64 r5, Value.int .i64 r6] 99)) := hf4.alloc _; exact ⟨i + 1, _, by go_num, rfl, by omega, H_ (by rw [HE.out]; exact HO.out.fr0 hf5), hfr.trans0 hf5, Nat.le_trans hsz hf5.size, HOn, H_ (HF2.out.trans0 hf5)⟩
       case measure => omega
     · have HE : Hid (zam S (R.take (i + 1)) rev = zam S (R.take i) rev ++ [⟨r1, r2, r3, r4, r5, r6⟩]) := H_ (by rw [HST.out, HON.out]; simp)
       clear HST HON
       go_wp2_with (first
        | (go_at_call 62; refine (HH.out _ (hSA.out.fr0 hT (hfr.alloc _)) q.2 H HPH.out).mono ?_; rintro e w3 ⟨rfl, hf3⟩
           have hf4 : Fr No wr w3 := ((Fr.refl No wr).alloc _).trans0 hf3; have hnew := zax (w3.alloc (.cells [Value.string r1, .string r2, .int .i64 r3, .int .i64 r4, .int .i64 r5, .int .i64 r6].toArray 99)) [Value.string r1, .string r2, .int .i64 r3, .int .i64 r4, .int .i64 r5, .int .i64 r6] 99 (0, 0); rw [HR.out]; unfold zch kvV)
        | (at_builtin; refine zap rfl _ _ 27 rfl 99 i0 _ 6 64 Tryz.underlying27 hi0 hz0 hz1 hz2 rfl (by decide) _ (zam S (R.take i) rev) rfl (((HO.out.fr0 hf4).alloc _).alloc _) (w3.heap.size + 1) 1 (⟨r1, r2, r3, r4, r5, r6⟩ : Kv) rfl (by simpa [kvC] using hnew) rfl ?c1 ?c2 ?c3 ?_))
       case c1 => intro u hu; simp [kvC] at hu; rcases hu with rfl | rfl | rfl | rfl | rfl | rfl <;> rfl
       case c2 => unfold maxLen; omega
       case c3 => omega
       intro g1 o' cap w4 hs4 hg4 hb4 hlt4; have hlen4 : (zam S (R.take i) rev ++ [(⟨r1, r2, r3, r4, r5, r6⟩ : Kv)]).length = (zam S (R.take i) rev).length + 1 := (by simp); have hfA : Fr No w w4 := (((hfr.trans0 hf4).alloc _).alloc _).grown hg4 fun k hk => .inr (by have := HOn.out k hk; omega); have hfB : Fr No w2 w4 := (((HF2.out.trans0 hf4).alloc _).alloc _).grown hg4 fun k hk => .inr (HOn.out k hk)
       have hg1 : w2.heap.size ≤ g1 := by
        rcases hb4 with e | e
        · exact HOn.out _ e
        · have := hf4.size; try simp at e
          omega
       have H4 := H_ hs4; have HL4 := H_ hlen4; clear hs4 hlen4 hg4 hb4 hnew; go_wp2; go_roundg g
       case rel =>
        exact ⟨i + 1, _, by go_num, rfl, by omega, H_ (by rw [HE.out]; exact H4.out), hfA, hfB.size, H_ (fun b hb => by simp [Value.ownBlock] at hb; omega), H_ hfB⟩
       case measure => omega
def revOf (g : Rg) (rev : Int) : Int := if g.rev ≠ 0 then g.rev else rev
def allL (S : St) (g : Rg) (rev : Int) : List Kv := zaz S g.key g.end_ (revOf g rev)
def moreB (S : St) (g : Rg) (rev : Int) : Bool := !g.count && decide (0 < g.limit) && decide (g.limit < (allL S g rev).length)
def cutL (g : Rg) (more : Bool) (l : List Kv) : List Kv := if more then l.take g.limit.toNat else l
def getL (S : St) (g : Rg) (rev : Int) : List Kv :=
 if g.count then [] else
  let l := cutL g (moreB S g rev) (if g.desc then (allL S g rev).reverse else allL S g rev)
  if g.keys then l.map fun x => { x with value := ByteArray.empty } else l
def layKv (w : World) (g o : Nat) (y : Kv) : World :=
 (((((w.setCell ⟨g, o, none⟩ (.string y.key)).setCell ⟨g, o + 1, none⟩ (.string y.value)).setCell ⟨g, o + 2, none⟩ (.int .i64 y.create)).setCell ⟨g, o + 3, none⟩ (.int .i64 y.mod)).setCell ⟨g, o + 4, none⟩ (.int .i64 y.version)).setCell ⟨g, o + 5, none⟩ (.int .i64 y.lease)
theorem zpj {w : World} {g o cap : Nat} {L : List Kv} (h : SlF w 99 6 kvC (.slice (some ⟨g, o, none⟩) L.length cap) L) (i : Nat) {x : Kv} (hx : L[i]? = some x) (y : Kv) :
 SlF (layKv w g (o + i * 6) y) 99 6 kvC (.slice (some ⟨g, o, none⟩) L.length cap) (L.set i y) := by
 have hi := (List.getElem?_eq_some_iff.1 hx).1
 have step : ∀ {w : World} {M : List Kv} {z : Kv} (j : Nat) (u : Value) (z' : Kv), j < 6 → M.length = L.length → SlF w 99 6 kvC (.slice (some ⟨g, o, none⟩) L.length cap) M → M[i]? = some z → kvC z' = (kvC z).set j u →
  SlF (w.setCell ⟨g, o + i * 6 + j, none⟩ u) 99 6 kvC (.slice (some ⟨g, o, none⟩) L.length cap) (M.set i z') := by
  intro w M z j u z' hj hM hs hz he; rw [← hM] at hs ⊢
  exact hs.set zaf i j hj z z' u hz he
 have s0 := step 0 (.string y.key) ({ x with key := y.key }) (by omega) rfl h hx rfl; have s1 := step (z := { x with key := y.key }) 1 (.string y.value) ({ x with key := y.key, value := y.value }) (by omega) (by simp) s0 (by simp [hi]) rfl; have s2 := step (z := { x with key := y.key, value := y.value }) 2 (.int .i64 y.create) ({ x with key := y.key, value := y.value, create := y.create }) (by omega) (by simp) s1 (by simp [hi]) rfl; have s3 := step (z := { x with key := y.key, value := y.value, create := y.create }) 3 (.int .i64 y.mod) ({ x with key := y.key, value := y.value, create := y.create, mod := y.mod }) (by omega) (by simp) s2 (by simp [hi]) rfl
 have s4 := step (z := { x with key := y.key, value := y.value, create := y.create, mod := y.mod }) 4 (.int .i64 y.version) ({ x with key := y.key, value := y.value, create := y.create, mod := y.mod, version := y.version }) (by omega) (by simp) s3 (by simp [hi]) rfl; have s5 := step (z := { x with key := y.key, value := y.value, create := y.create, mod := y.mod, version := y.version }) 5 (.int .i64 y.lease) (y) (by omega) (by simp) s4 (by simp [hi]) rfl; simpa [layKv, List.set_set] using s5
theorem zpk {S : Nat → Prop} {a w : World} (h : Fr S a w) (g o : Nat) (y : Kv) (hg : S g) : Fr S a (layKv w g o y) := by
 unfold layKv; exact (((((h.setCell (.inl hg) _).setCell (.inl hg) _).setCell (.inl hg) _).setCell (.inl hg) _).setCell (.inl hg) _).setCell (.inl hg) _
def Turned (L M : List Kv) (i : Nat) : Prop := M.length = L.length ∧ ∀ k, k < L.length → M[k]? = if k < i ∨ L.length - i ≤ k then L[L.length - 1 - k]? else L[k]?
theorem Turned.start (L : List Kv) : Turned L L 0 := ⟨rfl, fun k hk => by rw [if_neg (by omega)]⟩
theorem Turned.done {L M : List Kv} {i : Nat} (h : Turned L M i) (hi : L.length ≤ 2 * i + 1) : M = L.reverse := by
 refine List.ext_getElem? fun k => ?_; by_cases hk : k < L.length
 · rw [h.2 k hk, List.getElem?_reverse hk]
   split
   · rfl
   · rename_i hn
     congr 1; omega
 · rw [List.getElem?_eq_none (by rw [h.1]; omega), List.getElem?_eq_none (by simp; omega)]
theorem Turned.next {L M : List Kv} {i j : Nat} (h : Turned L M i) (hij : i + j + 1 = L.length) (hlt : i < j) {x y : Kv} (hx : L[i]? = some x) (hy : L[j]? = some y) : Turned L ((M.set i y).set j x) (i + 1) := by
 refine ⟨by simp [h.1], fun k hk => ?_⟩; have hM := h.1; by_cases hkj : k = j
 · subst hkj
   rw [List.getElem?_set_self (by simp; omega), if_pos (by omega), show L.length - 1 - k = i by omega, hx]
 · rw [List.getElem?_set_ne (fun e => hkj e.symm)]
   by_cases hki : k = i
   · subst hki
     rw [List.getElem?_set_self (by omega), if_pos (by omega), show L.length - 1 - k = j by omega, hy]
   · rw [List.getElem?_set_ne (fun e => hki e.symm), h.2 k hk]
     by_cases hc : k < i ∨ L.length - i ≤ k
     · rw [if_pos hc, if_pos (by omega)]
     · rw [if_neg hc, if_neg (by omega)]
theorem Turned.at {L M : List Kv} {i k : Nat} (h : Turned L M i) (h1 : i ≤ k) (h2 : k + i < L.length) : M[k]? = L[k]? := by rw [h.2 k (by omega), if_neg (by omega)]
set_option maxHeartbeats 4000000 in
theorem zjx (w : World) (v : Value) (L : List Kv) (hv : SlF w 99 6 kvC v L) (hl : L.length ≤ 1099511627) :
 Calls Tryz.prog 132 #[v] w fun e w' => (∃ u, e = .returned u) ∧ SlF w' 99 6 kvC v L.reverse ∧ Fr (fun b => v.ownBlock = some b) w w' := by
 obtain ⟨a, cap, rfl, hc1, hc2, ha⟩ := hv.shape; rcases Nat.eq_zero_or_pos L.length with h0 | hp
 · obtain rfl := List.eq_nil_of_length_eq_zero h0
   have HV := H_ hv; clear hv ha; go_enter Tryz.func132, Tryz.ntmps132; go_wp2
   go_loopg [2, 3] 0 (fun g s2 s3 wr => g = 0 ∧ s2 = .int .i64 0 ∧ s3 = .int .i64 (-1) ∧ w = wr)
   case atStart => exact ⟨rfl, rfl, rfl, rfl⟩
   case round =>
    obtain ⟨rfl, rfl, rfl, rfl⟩ := hrel; go_wp2; refine bodyPost_end (results_none rfl _ _ _) rfl ?_; exact ⟨⟨_, rfl⟩, HV.out, Fr.refl _ w⟩
 · obtain ⟨gb, go, rfl⟩ := ha hp
   have HV := H_ hv; clear hv; go_enter Tryz.func132, Tryz.ntmps132; go_wp2
   go_loopg [2, 3] L.length (fun g s2 s3 wr => ∃ (i j : Nat) (M : List Kv), s2 = .int .i64 i ∧ s3 = .int .i64 j ∧ i + j + 1 = L.length ∧ i ≤ j + 1 ∧ i + g = L.length ∧ Hid (Turned L M i) ∧ Hid (SlF wr 99 6 kvC (.slice (some ⟨gb, go, none⟩) L.length cap) M) ∧ Hid (Fr (fun b => b = gb) w wr))
   case atStart => exact ⟨0, L.length - 1, L, rfl, by go_num, by omega, by omega, by omega, H_ (Turned.start L), HV, H_ (Fr.refl _ w)⟩
   case round =>
    obtain ⟨i, j, M, rfl, rfl, hij, hle, hi, HT, HS, HF⟩ := hrel; by_cases hlt : i < j
    · cases gk with
      | zero => omega
      | succ g =>
        have hlt' : (i : Int) < (j : Int) := (by omega); have hiL : (i : Int) < (L.length : Int) := (by omega); have hjL : (j : Int) < (L.length : Int) := (by omega); obtain ⟨x, hx⟩ : ∃ x, L[i]? = some x := ⟨_, List.getElem?_eq_getElem (by omega)⟩; obtain ⟨y, hy⟩ : ∃ y, L[j]? = some y := ⟨_, List.getElem?_eq_getElem (by omega)⟩; have hMx := (HT.out.at (k := i) (by omega) (by omega)).trans hx; have hMy := (HT.out.at (k := j) (by omega) (by omega)).trans hy; have hsl : SlF wr 99 6 kvC (.slice (some ⟨gb, go, none⟩) M.length cap) M := (by rw [HT.out.1]; exact HS.out); have lgb : gb < wr.heap.size := hsl.lt gb rfl; obtain ⟨x1, x2, x3, x4, x5, x6⟩ := x; obtain ⟨y1, y2, y3, y4, y5, y6⟩ := y; have u0 := hsl.cell0 zaf i hMx rfl; have u1 := hsl.cell zaf i 1 hMx rfl; have u2 := hsl.cell zaf i 2 hMx rfl; have u3 := hsl.cell zaf i 3 hMx rfl; have u4 := hsl.cell zaf i 4 hMx rfl
        have u5 := hsl.cell zaf i 5 hMx rfl; have v0 := hsl.cell0 zaf j hMy rfl; have v1 := hsl.cell zaf j 1 hMy rfl; have v2 := hsl.cell zaf j 2 hMy rfl; have v3 := hsl.cell zaf j 3 hMy rfl; have v4 := hsl.cell zaf j 4 hMy rfl; have v5 := hsl.cell zaf j 5 hMy rfl; have hfz : ∀ k, wr.frozen? ⟨gb, k, none⟩ = false := fun k => hsl.free k; have s1 := zpj hsl i hMx ⟨y1, y2, y3, y4, y5, y6⟩; have s2 := zpj (L := M.set i ⟨y1, y2, y3, y4, y5, y6⟩) (by rw [List.length_set]; exact s1) j (x := ⟨y1, y2, y3, y4, y5, y6⟩) (by rw [List.getElem?_set_ne (by omega)]; exact hMy) ⟨x1, x2, x3, x4, x5, x6⟩; have hfr := zpk (zpk HF.out gb (go + i * 6) ⟨y1, y2, y3, y4, y5, y6⟩ rfl) gb (go + j * 6) ⟨x1, x2, x3, x4, x5, x6⟩ rfl; have HN := H_ (HT.out.next hij hlt hx hy); rw [List.length_set, HT.out.1] at s2; have HS2 := H_ s2; have HFR := H_ hfr; clear hx hy hMx hMy hsl s1 s2 hfr; unfold layKv at HS2 HFR
        dsimp only at HS2 HFR; go_wp2_with fail
        go_region
        go_wp2; go_roundg g
        case rel => exact ⟨i + 1, j - 1, _, by go_num, by go_num, by omega, by omega, by omega, HN, H_ HS2.out.drew, H_ HFR.out.drew⟩
        case measure => omega
    · have hlt' : ¬ (i : Int) < (j : Int) := by omega
      go_wp2; refine bodyPost_end (results_none rfl _ _ _) rfl ?_; exact ⟨⟨_, rfl⟩, by rw [← HT.out.done (by omega)]; exact HS.out, HF.out.mono fun b _ h => by rw [h]; rfl⟩
def bareK (x : Kv) : Kv := { x with value := ByteArray.empty }
def bareTo (i : Nat) (L : List Kv) : List Kv := (L.take i).map bareK ++ L.drop i
theorem zok (L : List Kv) : bareTo 0 L = L := by simp [bareTo]
theorem zrb (L : List Kv) {i : Nat} (h : L.length ≤ i) : bareTo i L = L.map bareK := by
 unfold bareTo; rw [List.take_of_length_le h, List.drop_eq_nil_of_le h, List.append_nil]
theorem zef (i : Nat) (L : List Kv) : (bareTo i L).length = L.length := by
 unfold bareTo; simp; omega
theorem zjo {i : Nat} {L : List Kv} {x : Kv} (h : L[i]? = some x) : (bareTo i L)[i]? = some x := by
 have hi := (List.getElem?_eq_some_iff.1 h).1; unfold bareTo; rw [List.getElem?_append_right (by simp; omega)]; simp only [List.length_map, List.length_take, List.getElem?_drop]; rw [Nat.min_eq_left (by omega), show i + (i - i) = i by omega]; exact h
theorem zol {i : Nat} {L : List Kv} {x : Kv} (h : L[i]? = some x) : (bareTo i L).set i (bareK x) = bareTo (i + 1) L := by
 have hi := (List.getElem?_eq_some_iff.1 h).1; unfold bareTo; rw [List.take_add_one, h, List.map_append, List.drop_eq_getElem_cons hi, List.set_append_right _ _ (by simp; omega)]; have : i - ((L.take i).map bareK).length = 0 := by simp; omega
 rw [this, List.set_cons_zero]; simp
theorem zra {w : World} {g o cap : Nat} {L : List Kv} {K i : Nat} {x : Kv} (h : SlF w 99 6 kvC (.slice (some ⟨g, o, none⟩) K cap) (bareTo i L)) (hK : L.length = K) (hx : L[i]? = some x) :
 SlF (w.setCell ⟨g, o + i * 6 + 1, none⟩ (.string ByteArray.empty)) 99 6 kvC (.slice (some ⟨g, o, none⟩) K cap) (bareTo (i + 1) L) := by
 subst hK; rw [← zef i L] at h; have h2 := h.set zaf i 1 (by omega) x (bareK x) (.string ByteArray.empty) (zjo hx) rfl; rw [zol hx, zef] at h2; exact h2
def keyTo (b : Bool) (i : Nat) (L : List Kv) : List Kv := if b then bareTo i L else L
theorem zqn (b : Bool) (L : List Kv) : keyTo b 0 L = L := by cases b with
 | false => rfl
 | true => exact zok L
theorem zic (b : Bool) (L : List Kv) {i : Nat} (h : L.length ≤ i) : keyTo b i L = if b then L.map fun x => { x with value := ByteArray.empty } else L := by cases b with
 | false => rfl
 | true => exact zrb L h
set_option maxHeartbeats 8000000 in
theorem zew {TA : zao} {N : Nat} (hT : TreeOk TA N) {n : Nat} (hn : n ≤ 1099511627) (w : World) (s : Nat) (S : St) (F : Nat → Prop) (hS : zaj TA w s S F) (hok : StOk n S) (hN : S.T.length ≤ 1099511627) (g : Rg) (rev : Int)
 (hks : g.key.size ≤ 1099511627776) :
 Calls Tryz.prog 89 #[.pointer (some ⟨s, 0, none⟩), rgV g, .int .i64 rev] w fun e w' => ∃ v, e = .returned (.tuple #[v, .int .i64 (allL S g rev).length, .bool (moreB S g rev)]) ∧ SlF w' 99 6 kvC v (getL S g rev) ∧ Fr No w w' ∧ (∀ b, v.ownBlock = some b → w.heap.size ≤ b) := by
 have hbl : (allL S g rev).length ≤ 1099511627 := Nat.le_trans (List.length_filterMap_le _ _) (Nat.le_trans (List.length_filter_le _ _) hN); have hb := fun W (hW : Fr No w W) => zgk hT hn W s S F (hS.fr0 hT hW) hok hN g.key g.end_ (revOf g rev) hks; have hal : zaz S g.key g.end_ (revOf g rev) = allL S g rev := rfl; rw [hal] at hb
 have hgl : getL S g rev = if g.count then [] else keyTo g.keys (allL S g rev).length (cutL g (moreB S g rev) (if g.desc then (allL S g rev).reverse else allL S g rev)) := by
  have hl : (cutL g (moreB S g rev) (if g.desc then (allL S g rev).reverse else allL S g rev)).length ≤ (allL S g rev).length := by
   unfold cutL
   split
   · rw [List.length_take]; split
     · rw [List.length_reverse]; omega
     · omega
   · split
     · rw [List.length_reverse]; omega
     · omega
  rw [zic _ _ hl]
  rfl
 have hmo : moreB S g rev = (!g.count && decide (0 < g.limit) && decide (g.limit < (allL S g rev).length)) := rfl; have hrv : revOf g rev = if g.rev ≠ 0 then g.rev else rev := rfl; have hcu : ∀ m l, cutL g m l = if m then l.take g.limit.toNat else l := fun _ _ => rfl; rw [hgl]; generalize hR : (if g.count then [] else keyTo g.keys (allL S g rev).length (cutL g (moreB S g rev) (if g.desc then (allL S g rev).reverse else allL S g rev))) = R at *; generalize allL S g rev = l at *; generalize moreB S g rev = mo at *; generalize revOf g rev = rv at *; generalize cutL g = cu at *; obtain ⟨g1, g2, g3, g4, g5, g6, g7⟩ := g; unfold rgV; dsimp only at *; have HB := H_ hb; have HMO := H_ hmo; have HRV := H_ hrv; have HCU := H_ hcu; have HR := H_ hR; clear hb hgl hmo hrv hcu hal hS hR
 have hb1 := zad w (Obj.cells #[.string g1, .string g2, .int .i64 g3, .int .i64 g4, .bool g5, .bool g6, .bool g7] 35) _ rfl; have hf1 : Fr No w (w.alloc (Obj.cells #[.string g1, .string g2, .int .i64 g3, .int .i64 g4, .bool g5, .bool g6, .bool g7] 35)) := (Fr.refl No w).alloc _; have HB1 := H_ hb1; have HF1 := H_ hf1; clear hb1 hf1; go_enter Tryz.func89, Tryz.ntmps89; go_upto_if 15 with fail; generalize w.alloc (Obj.cells #[.string g1, .string g2, .int .i64 g3, .int .i64 g4, .bool g5, .bool g6, .bool g7] 35) = W1 at *; have hws : w.heap.size < W1.heap.size := zaa HB1.out; have hb1 := HB1.out; have b0 := cellAt hb1 0 rfl; have b1 := cellAt hb1 1 rfl; have b2 := cellAt hb1 2 rfl; have b3 := cellAt hb1 3 rfl; have b4 := cellAt hb1 4 rfl; have b5 := cellAt hb1 5 rfl; have b6 := cellAt hb1 6 rfl
 go_cut [2] (fun s2 wx => s2 = .int .i64 rv ∧ wx = W1)
 case first =>
  by_cases hz : g3 = 0
  · have hz' : (g3 != 0) = false := by rw [hz]; rfl
    have hr : rv = rev := (by rw [HRV.out, if_neg (by simp [hz])]); go_wp2; go_meet
    case rel => exact ⟨by first | rfl | rw [hr], rfl⟩
  · have hz' : (g3 != 0) = true := by rw [bne_iff_ne]; exact hz
    have hr : rv = g3 := (by rw [HRV.out, if_pos hz]); go_wp2; go_meet
    case rel => exact ⟨by first | rfl | rw [hr], rfl⟩
 case rest =>
  obtain ⟨rfl, rfl⟩ := hcut; go_upto_region 4 with (go_at_call 88; refine (HB.out _ HF1.out).mono ?_; rintro e w1 ⟨v, rfl, hv, hfv, hvn⟩); obtain ⟨va, vcap, rfl, hc1, hc2, hva⟩ := hv.shape; have hbw := hfv.heap HB1.out id; have HV := H_ hv; have HBW := H_ hbw; have HFV := H_ (HF1.out.trans0 hfv); have HVX : Hid (¬ (Value.slice va l.length vcap).ownBlock = some w.heap.size) := H_ (fun h => by have := hvn _ h; omega); have HVN : Hid (∀ b, (Value.slice va l.length vcap).ownBlock = some b → w.heap.size ≤ b) := H_ (fun b hb => by have := hvn b hb; omega); clear hv hfv hvn b0 b1 b2 b3 b4 b5 b6 hb1; have b0 := cellAt hbw 0 rfl; have b1 := cellAt hbw 1 rfl; have b2 := cellAt hbw 2 rfl; have b3 := cellAt hbw 3 rfl; have b4 := cellAt hbw 4 rfl; have b5 := cellAt hbw 5 rfl; have b6 := cellAt hbw 6 rfl; have lbw := zaa hbw; clear hbw; go_upto_if 28 with fail
  cases g6 with
  | true =>
    have hm : mo = false := HMO.out; go_wp2; go_ret3; exact ⟨_, by first | rfl | (rw [hm]; rfl), by rw [← HR.out]; exact SlF.nil _ _ _ _, HFV.out, by simp [Value.ownBlock]⟩
  | false =>
    go_upto_if 31 with fail
    go_cut [33] (fun _ wx => Hid (SlF wx 99 6 kvC (.slice va l.length vcap) (if g7 then l.reverse else l)) ∧ Hid (Fr (fun b => (Value.slice va l.length vcap).ownBlock = some b) w1 wx))
    case first =>
     cases g7 with
     | false =>
       go_wp2; go_meet
       case rel => exact ⟨HV, H_ (Fr.refl _ _)⟩
     | true =>
       go_wp2_with (go_at_call 132; refine (zjx _ _ _ HV.out hbl).mono ?_; rintro e w2 ⟨⟨u, rfl⟩, hv2, hf3⟩); go_meet
       case rel => exact ⟨H_ hv2, H_ hf3⟩
    case rest =>
     obtain ⟨HV2, HF2⟩ := hcut; have hb2 := HF2.out.heap HBW.out HVX.out; have lb2 := zaa hb2; clear b0 b1 b2 b3 b4 b5 b6 lbw; have b0 := cellAt hb2 0 rfl; have b1 := cellAt hb2 1 rfl; have b2 := cellAt hb2 2 rfl; have b3 := cellAt hb2 3 rfl; have b4 := cellAt hb2 4 rfl; have b5 := cellAt hb2 5 rfl; have b6 := cellAt hb2 6 rfl; have HB2 := H_ hb2; clear hb2; have hR2 := HR.out; generalize hM : (if g7 then l.reverse else l) = M at *; have HR2 := H_ hR2; clear hR2; have hML : M.length = l.length := (by rw [← hM]; split <;> simp); clear hM; generalize wc = W2 at *; go_upto_region 9 with fail
     go_cut [11] (fun s11 wx => s11 = .bool mo ∧ wx = W2)
     case first =>
      by_cases h1 : 0 < g4
      · have h1' : decide (g4 > 0) = true := decide_eq_true h1
        by_cases h2 : g4 < (l.length : Int)
        · have h2' : decide (g4 < (l.length : Int)) = true := decide_eq_true h2
          have hm : mo = true := (by rw [HMO.out, h2', decide_eq_true h1]; rfl); go_wp2; go_meet
          case rel => exact ⟨by first | rfl | rw [hm], rfl⟩
        · have h2' : decide (g4 < (l.length : Int)) = false := decide_eq_false h2
          have hm : mo = false := (by rw [HMO.out, h2']; simp); go_wp2; go_meet
          case rel => exact ⟨by first | rfl | rw [hm], rfl⟩
      · have h1' : decide (g4 > 0) = false := decide_eq_false h1
        have hm : mo = false := (by rw [HMO.out, decide_eq_false h1]; rfl); go_wp2; go_meet
        case rel => exact ⟨by first | rfl | rw [hm], rfl⟩
     case rest =>
      obtain ⟨rfl, rfl⟩ := hcut; go_upto_if 43 with fail
      go_cut [9] (fun s9 wx => ∃ a c, s9 = .slice a (cu mo M).length c ∧ Hid (SlF wx 99 6 kvC (.slice a (cu mo M).length c) (cu mo M)) ∧ Hid (∀ b, (Value.slice a (cu mo M).length c).ownBlock = some b → w.heap.size ≤ b ∧ b ≠ w.heap.size) ∧ wx = wc)
      case first =>
       cases mo with
       | false =>
         have hcl : cu false M = M := HCU.out false M; go_wp2; go_meet
         case rel =>
          rw [hcl, hML]; exact ⟨va, vcap, rfl, HV2, H_ fun b hb => ⟨HVN.out b hb, fun e => HVX.out (e ▸ hb)⟩, rfl⟩
       | true =>
         have hcl : cu true M = M.take g4.toNat := HCU.out true M; have h12 : 0 < g4 ∧ g4 < (l.length : Int) := (by have := HMO.out; simpa using this.symm); obtain ⟨k, rfl⟩ : ∃ k : Nat, g4 = k := ⟨g4.toNat, by omega⟩; have hkl : k ≤ l.length := (by omega); have hcap : (k : Int) ≤ (vcap : Int) := (by omega); obtain ⟨ga, go, rfl⟩ := hva (by omega); go_wp2; go_meet
         case rel =>
          rw [hcl]; have hlen : (M.take ((k : Int).toNat)).length = k := (by rw [List.length_take]; omega); rw [hlen]; have h3 := HV2.out; rw [← hML] at h3; exact ⟨some ⟨ga, go, none⟩, vcap, rfl, H_ (h3.take zaf k (by omega)), H_ fun b hb => ⟨HVN.out b hb, fun e => HVX.out (e ▸ hb)⟩, rfl⟩
      case rest =>
       obtain ⟨a9, c9, rfl, HV9, HN9, rfl⟩ := hcut
       have hKl : (cu mo M).length ≤ l.length := by
        rw [HCU.out]; split
        · rw [List.length_take]; omega
        · omega
       have hR3 := HR2.out; generalize cu mo M = K at *; have HR3 := H_ hR3; clear hR3; go_wp2
       go_loopg [50] K.length (fun g s50 wr => ∃ i : Nat, s50 = .int .i64 i ∧ i + g = K.length ∧ Hid (SlF wr 99 6 kvC (.slice a9 K.length c9) (keyTo g5 i K)) ∧ Hid (Fr (fun b => (Value.slice a9 K.length c9).ownBlock = some b) wc wr))
       case atStart => exact ⟨0, rfl, by omega, by rw [zqn]; exact HV9, H_ (Fr.refl _ _)⟩
       case round =>
        obtain ⟨i, rfl, hi, HK, HFK⟩ := hrel
        cases gk with
        | zero =>
          have hil : ¬ (i : Int) < (K.length : Int) := (by omega); go_wp2; go_ret3; refine ⟨_, rfl, ?_, (HFV.out.trans HF2.out fun b hb h => ?_).trans HFK.out fun b hb h => ?_, fun b hb => (HN9.out b hb).1⟩
          · rw [← HR3.out, if_neg (by simp), zic _ _ (show K.length ≤ l.length by omega), ← zic _ _ (show K.length ≤ i by omega)]
            exact HK.out
          · have := HVN.out b h; omega
          · have := (HN9.out b h).1; omega
        | succ g =>
          have hil : (i : Int) < (K.length : Int) := (by omega); have hbr := HFK.out.heap HB2.out fun h => (HN9.out _ h).2 rfl; have z4 := cellAt hbr 4 rfl; have lz := zaa hbr
          cases g5 with
          | false =>
            go_wp2; go_roundg g
            case rel => exact ⟨i + 1, by go_num, by omega, HK, HFK⟩
            case measure => omega
          | true =>
            obtain ⟨ga, go, rfl⟩ : ∃ ga go, a9 = some ⟨ga, go, none⟩ := by
             obtain ⟨a, c, h1, _, _, h4⟩ := HV9.out.shape; cases h1
             exact h4 (by omega)
            obtain ⟨x, hx⟩ : ∃ x, K[i]? = some x := ⟨_, List.getElem?_eq_getElem (by omega)⟩; have hkk : SlF wr 99 6 kvC (.slice (some ⟨ga, go, none⟩) K.length c9) (bareTo i K) := HK.out; have hset := zra hkk rfl hx; have hkk2 := hkk; rw [← zef i K] at hkk2; have f1 := hkk2.cell zaf i 1 (zjo hx) rfl; have ff := hkk2.free (go + i * 6 + 1); have lf := World.block_lt_of_cell? _ _ f1; have HSET := H_ hset; have hst : Fr (fun b => (Value.slice (some ⟨ga, go, none⟩) K.length c9).ownBlock = some b) wc (wr.setCell ⟨ga, go + i * 6 + 1, none⟩ (.string ByteArray.empty)) := HFK.out.setCell (p := ⟨ga, go + i * 6 + 1, none⟩) (.inl rfl) _; have HST := H_ hst; clear hset hkk hkk2 hst hx; go_wp2; go_roundg g
            case rel => exact ⟨i + 1, by go_num, by omega, HSET, HST⟩
            case measure => omega
open Go Go.RowKit
theorem zfw {α : Type} {f : α → List Value} {P : Program} {w : World} {ops : Array Oper} {o : Oper} {a : Act} {K : Act → World → Prop} {Q : Exit → Act → World → Prop} {E : Prop} (hgd : o.guard = none) (s x : Operand) (t : TypeId)
 (ho : o.op = .call { callee := .builtin .append, args := #[s, x], argTypes := #[t, t] })
 (e : TypeId) (i : TypeInfo) (z : Value) (sz bytes : Nat) (ht : P.underlying t = some (.slice e)) (hi : P.info? e = some i) (hz : i.zero = some z) (hsize : i.size = sz) (hby : i.bytes = bytes) (hzs : z.cells.size = sz) (hsz : 0 < sz)
 (v : Value) (L : List α) (hs : a.eval s = v) (hown : SlF w e sz f v L)
 (b c : Nat) (y : α) (hx : a.eval x = .slice (some ⟨b, 0, none⟩) 1 c) (hnews : ∀ j u, (f y)[j]? = some u → w.cell? ((⟨b, 0, none⟩ : Addr).add j) = some u) (hl : (f y).length = sz) (h1 : ∀ u ∈ f y, u.oneCell' = true)
 (h63 : L.length + 1 ≤ maxLen) (hbytes : (L.length + 1) * bytes ≤ 140737488355328)
 (h : ∀ g o' cap w', SlF w' e sz f (.slice (some ⟨g, o', none⟩) (L.length + 1) cap) (L ++ [y]) → w.grownBy w' v.ownBlock → (v.ownBlock = some g ∨ g = w.heap.size) → g < w'.heap.size →
   K (a.put o.dst (.slice (some ⟨g, o', none⟩) (L.length + 1) cap)) w') :
 if Region.wanted o (yielded ops a.tmps) = true then Oper.wp P o a w K Q else E := by
 have hw : Region.wanted o (yielded ops a.tmps) = true := by simp [Region.wanted, hgd]
 rw [if_pos hw]; subst hsize; subst hby; obtain ⟨g, o', cap, w', hr, h2, h3, h4, h5⟩ := zcp (P := P) w t o.type e i z ht hi hz hzs hsz v L.length (L.flatMap f) hown ⟨b, 0, none⟩ 1 c (f y) (by omega) (by omega) hnews h1 h63 hbytes; unfold Oper.wp execOp; simp only [ho, resolve, invoke, builtin, Sem.run_bind, Sem.run_pure, Result.andThen_ok, List.map_toArray, List.map_cons, List.map_nil, hs, hx, hr]; refine h g o' cap w' ?_ h3 h4 h5; unfold SlF; simpa using h2
theorem zbr {fn : Func} {t u v x : Tmp} (h : fn.results = #[.tmp t, .tmp u, .tmp v, .tmp x]) (tmps : Array Value) (P : Program) (w : World) :
 (results fn tmps).run P w = .ok (.tuple #[tmps.getD t undef, tmps.getD u undef, tmps.getD v undef, tmps.getD x undef]) w := by
 simp [results, h]
def rangeE (S : St) (g : Rg) : Int := if askE g ≠ 0 then askE g else whenE S g.rev
set_option maxHeartbeats 4000000 in
theorem zts {TA : zao} {N : Nat} (hT : TreeOk TA N) (w : World) (s : Nat) (S : St) (F : Nat → Prop) (hS : zaj TA w s S F) (g : Rg) (hks : g.key.size ≤ 1099511627776) (hE : rangeE S g ≠ 0) :
 Calls Tryz.prog 46 #[.pointer (some ⟨s, 0, none⟩), rgV g] w fun e w' => e = .returned (.tuple #[.slice none 0 0, .int .i64 0, .bool false, .int .i64 (rangeE S g)]) ∧ Fr No w w' := by
 have ha := fun W => zdq W g hks; have hw := fun W (h : Fr No w W) => zcq W s S F (hS.fr0 hT h) g.rev; unfold rangeE at *; obtain ⟨g1, g2, g3, g4, g5, g6, g7⟩ := g; unfold rgV at *; dsimp only at *; generalize askE _ = a at *; generalize whenE S g3 = b at *; have HA := H_ ha; have HW := H_ hw; clear ha hw hks hS; by_cases h1 : a = 0
 · subst h1
   have hE' : b ≠ 0 := (by simpa using hE); have h2' : (b == 0) = false := (by simpa using hE'); rw [if_neg (by simp)]; clear hE; go_enter Tryz.func46, Tryz.ntmps46
   go_wp2_with (first
    | (go_at_call 97; refine (HA.out _).mono ?_; rintro e w1 ⟨rfl, hf⟩
       have hf1 : Fr No w w1 := ((Fr.refl No w).alloc _).trans0 hf; have hb : w1.heap[w.heap.size]? = some (.cells #[.string g1, .string g2, .int .i64 g3, .int .i64 g4, .bool g5, .bool g6, .bool g7] 35 (0, 0)) := hf.heap (zad _ _ _ rfl) id; have x2 : w1.cell? ⟨w.heap.size, 2, none⟩ = some (.int .i64 g3) := by simp [World.cell?, hb])
    | (go_at_call 84; refine (HW.out _ hf1).mono ?_; rintro e w2 ⟨rfl, rfl⟩))
   (try simp only [Exit.inBlock, Exit.then]); refine bodyPost_ret (zbr rfl _ _ _) rfl ?_
   exact ⟨rfl, hf1⟩
 · have h1' : (a == 0) = false := by simpa using h1
   rw [if_pos h1]; go_enter Tryz.func46, Tryz.ntmps46; go_wp2_with (go_at_call 97; refine (HA.out _).mono ?_; rintro e w1 ⟨rfl, hf⟩)
   (try simp only [Exit.inBlock, Exit.then]); refine bodyPost_ret (zbr rfl _ _ _) rfl ?_
   exact ⟨rfl, ((Fr.refl No w).alloc _).trans0 hf⟩
set_option maxHeartbeats 4000000 in
theorem zor {TA : zao} {N : Nat} (hT : TreeOk TA N) {n : Nat} (hn : n ≤ 1099511627) (w : World) (s : Nat) (S : St) (F : Nat → Prop) (hS : zaj TA w s S F) (hok : StOk n S) (hN : S.T.length ≤ 1099511627) (g : Rg)
 (hks : g.key.size ≤ 1099511627776) (hdesc : g.desc = false) (hkeys : g.keys = false) (hE : rangeE S g = 0) :
 Calls Tryz.prog 46 #[.pointer (some ⟨s, 0, none⟩), rgV g] w fun e w' => ∃ v, e = .returned (.tuple #[v, .int .i64 (allL S g S.rev).length, .bool (moreB S g S.rev), .int .i64 0]) ∧ SlF w' 99 6 kvC v (getL S g S.rev) ∧ Fr No w w' ∧ (∀ b, v.ownBlock = some b → w.heap.size ≤ b) := by
 have ha := fun W => zdq W g hks; have hw := fun W (h : Fr No w W) => zcq W s S F (hS.fr0 hT h) g.rev; have hg := fun W (h : Fr No w W) => zew hT hn W s S F (hS.fr0 hT h) hok hN g S.rev hks
 have c3 : ∀ W, Fr No w W → W.cell? ⟨s, 3, none⟩ = some (.int .i64 S.rev) := fun W hW => by
  obtain ⟨t, p, ev, hp, FT, FH, a, hF⟩ := hS; exact hW.cell0 (a.obj.cell 3 rfl)
 have h0 : askE g = 0 ∧ whenE S g.rev = 0 := by
  unfold rangeE at hE; by_cases h : askE g = 0
  · rw [if_neg (by simpa using h)] at hE; exact ⟨h, hE⟩
  · rw [if_pos h] at hE; exact absurd hE h
 rw [h0.1] at ha; rw [h0.2] at hw; obtain ⟨g1, g2, g3, g4, g5, g6, g7⟩ := g; dsimp only at hdesc hkeys; subst hdesc hkeys; generalize hal : allL S ⟨g1, g2, g3, g4, false, g6, false⟩ S.rev = al at *; generalize hmo : moreB S ⟨g1, g2, g3, g4, false, g6, false⟩ S.rev = mo at *; generalize hgl : getL S ⟨g1, g2, g3, g4, false, g6, false⟩ S.rev = gl at *; unfold rgV at *; dsimp only at *; have HA := H_ ha; have HW := H_ hw; have HG := H_ hg; have HC := H_ c3; clear ha hw hg c3 hE h0 hks hS hok hN hal hmo hgl; go_enter Tryz.func46, Tryz.ntmps46
 go_upto_region 8 with (first
  | (go_at_call 97; refine (HA.out _).mono ?_; rintro e w1 ⟨rfl, hf⟩
     have hf1 : Fr No w w1 := ((Fr.refl No w).alloc _).trans0 hf; have hb : w1.heap[w.heap.size]? = some (.cells #[.string g1, .string g2, .int .i64 g3, .int .i64 g4, .bool false, .bool g6, .bool false] 35 (0, 0)) := hf.heap (zad _ _ _ rfl) id; have x0 : w1.cell? ⟨w.heap.size, 0, none⟩ = some (.string g1) := (by simp [World.cell?, hb]); have x1 : w1.cell? ⟨w.heap.size, 1, none⟩ = some (.string g2) := (by simp [World.cell?, hb]); have x2 : w1.cell? ⟨w.heap.size, 2, none⟩ = some (.int .i64 g3) := (by simp [World.cell?, hb]); have x3 : w1.cell? ⟨w.heap.size, 3, none⟩ = some (.int .i64 g4) := (by simp [World.cell?, hb]); have x4 : w1.cell? ⟨w.heap.size, 4, none⟩ = some (.bool false) := (by simp [World.cell?, hb]); have x5 : w1.cell? ⟨w.heap.size, 5, none⟩ = some (.bool g6) := (by simp [World.cell?, hb])
     have x6 : w1.cell? ⟨w.heap.size, 6, none⟩ = some (.bool false) := (by simp [World.cell?, hb]); have lx := zaa hb; have y := HC.out _ hf1; have ly := World.block_lt_of_cell? _ _ y)
  | (go_at_call 84; refine (HW.out _ hf1).mono ?_; rintro e w2 ⟨rfl, rfl⟩))
 go_region_held (fun W => W.cell? ⟨s, 3, none⟩ = some (.int .i64 S.rev) ∧ W.cell? ⟨w.heap.size, 0, none⟩ = some (.string g1) ∧ W.cell? ⟨w.heap.size, 1, none⟩ = some (.string g2) ∧ W.cell? ⟨w.heap.size, 2, none⟩ = some (.int .i64 g3) ∧
  W.cell? ⟨w.heap.size, 3, none⟩ = some (.int .i64 g4) ∧ W.cell? ⟨w.heap.size, 4, none⟩ = some (.bool false) ∧ W.cell? ⟨w.heap.size, 5, none⟩ = some (.bool g6) ∧ W.cell? ⟨w.heap.size, 6, none⟩ = some (.bool false))
  (first | exact ⟨y, x0, x1, x2, x3, x4, x5, x6⟩ | exact ⟨hf3.cell0 y, hf3.cell0 x0, hf3.cell0 x1, hf3.cell0 x2, hf3.cell0 x3, hf3.cell0 x4, hf3.cell0 x5, hf3.cell0 x6⟩)
  (first | (go_at_call 89; refine (HG.out _ hf1.drew).mono ?_; rintro e w3 ⟨v, rfl, hv, hf3, hvn⟩; obtain ⟨va, vcap, rfl, hc1, hc2, hva⟩ := hv.shape; have HV := H_ hv; have HVN := H_ hvn; clear hv hvn))
 go_wp2
 (try simp only [Exit.inBlock, Exit.then]); refine bodyPost_ret (zbr rfl _ _ _) rfl ?_
 have hsz := hf1.size; exact ⟨_, rfl, HV.out, hf1.drew.trans0 hf3, fun b hb => Nat.le_trans hsz (HVN.out b hb)⟩
end Go.Proofs.YthljnnjpmdgkoaaGreat