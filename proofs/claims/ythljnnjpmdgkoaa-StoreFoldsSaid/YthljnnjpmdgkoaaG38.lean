/- The package index, at a tree of any size: Delete. The arguments of the statements opened: slices of compares and of ops as lists (SlR). Plain facts; no program is run. The arguments of the store's statements opened: calls of a store. Plain facts; no program is run. Maps from texts (MapS): look up, store, delete, their length. No condition. -/
import Derived.Test.YthljnnjpmdgkoaaG36
import Derived.Test.YthljnnjpmdgkoaaG37
import Derived.Test.YthljnnjpmdgkoaaG18
import Derived.Test.YthljnnjpmdgkoaaG02
import Derived.ProofKit
import Derived.Deep.Slices
import Derived.Deep.Fields
import Derived.ChangeSame
import Derived.StringKeys
import Derived.Maps.Keyed
namespace Go.Proofs.Ythljnnjpmdgkoaa
open Go Go.Proofs Go.RowKit
set_option maxRecDepth 100000

theorem getT_none {T : Pairs} {key : ByteArray} {n : Int} (h : getT T key = (n, false)) : n = 0 ∧ delT T key = T := by
  unfold getT at h
  split at h
  · simp at h
  · rename_i hf
    refine ⟨by simp at h; exact h.symm, ?_⟩
    unfold delT
    refine List.filter_eq_self.2 fun p hp => ?_
    have := List.find?_eq_none.1 hf p hp
    simpa using this

/-- What Delete leaves. -/
def DelEnd (w : World) (t : Nat) (A : Arr) (many : Int) (F : Nat → Prop) (T : Pairs) (key : ByteArray) (e : Ending) (w' : World) : Prop :=
  e = .returned (getTuple (getT T key)) ∧ ∃ A' fl' root' F', TreeZ w' t A' fl' root' (many - if (getT T key).2 then 1 else 0) F' ∧ GoodT A' fl' root' (delT T key) ∧ A'.length = A.length ∧ Fr F w w' ∧ (∀ b, F' b → F b ∨ w.heap.size ≤ b)

set_option maxHeartbeats 4000000 in
theorem DelN_calls (w : World) (t : Nat) (A : Arr) (fl : List Nat) (root : Nat) (many : Int) (F : Nat → Prop) (T : Pairs) (key : ByteArray) (h : TreeZ w t A fl root many F) (hg : GoodT A fl root T) (hA : A.length ≤ 109951162) (hm : 0 ≤ many ∧ many ≤ 1000000) :
    Calls Try.prog 86 #[.pointer (some ⟨t, 0, none⟩), .string key] w (DelEnd w t A many F T key) := by
  have hget := GetN_calls w t A fl root many F T key h hg hA
  have HZ := Lib.hid h
  unfold DelEnd
  cases hgt : getT T key with
  | mk n ok =>
  rw [hgt] at hget
  unfold getTuple at hget ⊢
  cases ok with
  | false =>
    obtain ⟨hn, hd⟩ := getT_none hgt
    subst hn
    rw [hd]
    have HG := Lib.hid hg
    clear hg h hgt hd
    go_enter Try.func86, Try.ntmps86
    go_wp2_with (go_at_call 112; refine hget.mono ?_; clear hget; rintro e w1 ⟨rfl, hf1⟩)
    go_ret2
    exact ⟨rfl, A, fl, root, F, by simpa using HZ.out.fr0 hf1, HG.out, rfl, hf1.mono fun _ _ s => s.elim, fun b hb => .inl hb⟩
  | true =>
    obtain ⟨g, d1, d2, d3, d4, d5, d6, d7⟩ := delR_ok hg key (by rw [hgt])
    have hrem := fun (W : World) (hz : TreeZ W t A fl root many F) => remove_calls W t A fl root many F hz root key g d1 hA
    generalize delA g A fl root key = r at hrem d2 d4 d5 d6 d7
    obtain ⟨A1, fl1⟩ := r
    dsimp only at hrem d2 d4 d5 d6 d7
    obtain ⟨nv, fv, Z, hR, hZ, hF⟩ := h
    have c2 := hR.obj.cell 2 rfl
    have HD5 := Lib.hid d5
    have HD6 := Lib.hid d6
    have HD7 := Lib.hid d7
    clear d1 d5 d6 d7 hR hZ hF hg hgt
    go_enter Try.func86, Try.ntmps86
    go_upto_region 5 with (first
      | (go_at_call 112; refine hget.mono ?_; clear hget; rintro e w1 ⟨rfl, hf1⟩; replace c2 := hf1.cell0 c2)
      | (go_at_call 119; refine (hrem _ (HZ.out.fr0 hf1)).mono ?_; clear hrem; rintro e w2 ⟨⟨v, rfl⟩, F1, hz1, hf2, hn1⟩))
    obtain ⟨nv1, fv1, Z1, hR1, hZ1, hF1⟩ := hz1
    obtain ⟨z1, hzz, hnd⟩ := ndsZ_eq hZ1 (i := root) (by omega)
    have hrl : root < Z1.length := (List.getElem?_eq_some_iff.1 hzz).1
    have hzl : Z1.length ≤ 109951162 := by rw [← ndsZ_len, hZ1]; omega
    obtain ⟨nb, no, cap, rfl, hcap⟩ := hR1.headLen (by omega)
    rw [← hnd] at d4
    have x3 := hR1.obj.cell 3 rfl
    have x3f := hR1.obj.free 3
    have hlt : t < w2.heap.size := hR1.obj.lt
    have ho := hR1.obj.set 3 (.int .i64 (many - 1))
    have hfs : Fr (fun b => b = t) w2 (w2.setCell ⟨t, 3, none⟩ (.int .i64 (many - 1))) := (Fr.refl _ w2).setAt _ _
    have hR2 := hR1.setObj hfs root (many - 1) ho
    have HR2 := Lib.hid hR2
    have HFS := Lib.hid hfs
    have HF1 := Lib.hid hF1
    have HZ1 := Lib.hid hZ1
    have HZZ := Lib.hid hzz
    have HND := Lib.hid hnd
    have HN1 := Lib.hid hn1
    have HFW : Hid (Fr F w w2) := Lib.hid ((hf1.mono fun _ _ s => s.elim).trans hf2 fun b _ e => e)
    have HSZ : Hid (w.heap.size ≤ w1.heap.size) := Lib.hid hf1.size
    have hm1 : IntKind.i64.wrap (many - 1) = many - 1 := by rw [IntKind.wrap_i64]; omega
    clear hR1 hZ1 hF1 hzz hnd hn1 hf2 hfs hR2 ho hf1 c2
    go_upto_region 6 with fail
    generalize w2.setCell ⟨t, 3, none⟩ (.int .i64 (many - 1)) = W3 at HR2 HFS ⊢
    clear hlt x3 x3f hm1
    obtain ⟨a1, a2, a3, a4⟩ := HR2.out.look root z1 HZZ.out
    have c0 := HR2.out.obj.cell 0 rfl
    have c2 := HR2.out.obj.cell 2 rfl
    have c2f := HR2.out.obj.free 2
    have hP := HR2.out.pairs root z1 HZZ.out
    have hK := HR2.out.kids root z1 HZZ.out
    obtain ⟨pa, pcap, hpv, hp1, hp2, hpa⟩ := hP.shape
    obtain ⟨ka, kcap, hkv, hk1, hk2, hka⟩ := hK.shape
    rw [hpv] at a1
    rw [hkv] at a2 hK
    have hiz : (root : Int) < (Z1.length : Int) := by omega
    have hlt3 : t < W3.heap.size := HR2.out.obj.lt
    have hnl3 : nb < W3.heap.size := HR2.out.nodes.lt nb rfl
    have hkey : ∀ b, treeF t (.slice (some ⟨nb, no, none⟩) Z1.length cap) fv1 Z1 b → F b ∨ w.heap.size ≤ b := fun b hb => by
      rcases HN1.out b ((HF1.out b).2 hb) with e | e
      · exact .inl e
      · exact .inr (by have := HSZ.out; omega)
    have hFW3 : Fr F w W3 := HFW.out.trans HFS.out fun b hb e => by
      rcases hkey b (.inl e) with e | e
      · exact e
      · omega
    have HKEY := Lib.hid hkey
    have HFW3 := Lib.hid hFW3
    clear hkey hFW3 hP hpv hkv hpa
    have hlenz : z1.nd.pairs.length ≤ 9 := d4
    go_region
    have hf4 := ((Fr.refl No W3).alloc (.cells #[.slice pa z1.nd.pairs.length pcap, .slice ka z1.nd.kids.length kcap] 198)).drew
    have hal := alloc_at W3 (.cells #[.slice pa z1.nd.pairs.length pcap, .slice ka z1.nd.kids.length kcap] 198) _ rfl
    have y0 : (W3.alloc (.cells #[.slice pa z1.nd.pairs.length pcap, .slice ka z1.nd.kids.length kcap] 198)).drew.cell? ⟨W3.heap.size, 0, none⟩ = some (.slice pa z1.nd.pairs.length pcap) := ((Fr.refl No _).drew).cell0 (by unfold World.cell?; dsimp only; rw [hal]; rfl)
    have y1 : (W3.alloc (.cells #[.slice pa z1.nd.pairs.length pcap, .slice ka z1.nd.kids.length kcap] 198)).drew.cell? ⟨W3.heap.size, 1, none⟩ = some (.slice ka z1.nd.kids.length kcap) := ((Fr.refl No _).drew).cell0 (by unfold World.cell?; dsimp only; rw [hal]; rfl)
    generalize (W3.alloc (.cells #[.slice pa z1.nd.pairs.length pcap, .slice ka z1.nd.kids.length kcap] 198)).drew = W4 at hf4 y0 y1 ⊢
    have HR4 := Lib.hid (HR2.out.fr0 hf4)
    have HF4 := Lib.hid hf4
    replace c2 := hf4.cell0 c2
    have c2f4 := HR4.out.obj.free 2
    have hlt4 : t < W4.heap.size := HR4.out.obj.lt
    clear c0 a1 a2 a3 a4 hal c2f hf4
    by_cases hsh : z1.nd.pairs.length = 0 ∧ z1.nd.kids ≠ []
    · have hkl : 0 < z1.nd.kids.length := List.length_pos_iff.2 hsh.2
      obtain ⟨kb, ko, rfl⟩ := hka hkl
      have hc := HD6.out (by rw [← HND.out]; exact hsh.2)
      have hsk : shrinkA A1 fl1 root = (A1.set root nd0, fl1 ++ [root], kidA A1 root 0) := by unfold shrinkA; rw [if_pos (by rw [← HND.out]; exact hsh)]
      rw [← HND.out] at hc
      generalize kidA A1 root 0 = kid at hc hsk
      have hkc := (HF4.out.cell0 (hK.cell1 nat1_length 0 hc rfl))
      simp only [Nat.add_zero] at hkc
      have hp0 : ((z1.nd.pairs.length : Int) == 0) = true := by rw [beq_iff_eq]; omega
      have hk0 : (0 : Int) < (z1.nd.kids.length : Int) := by omega
      have ho := HR4.out.obj.set 2 (.int .i64 (kid : Int))
      have hfs := (Fr.refl (fun b => b = t) W4).setAt 2 (.int .i64 (kid : Int))
      have hR5 := HR4.out.setObj hfs kid (many - 1) ho
      have hz5 : TreeZ (W4.setCell ⟨t, 2, none⟩ (.int .i64 (kid : Int))) t A1 fl1 kid (many - 1) (treeF t (.slice (some ⟨nb, no, none⟩) Z1.length cap) fv1 Z1) := ⟨_, _, _, hR5, HZ1.out, fun b => Iff.rfl⟩
      have HZ5 := Lib.hid hz5
      have HFS5 := Lib.hid hfs
      have HSK := Lib.hid hsk
      have hfl5 : fl1.length ≤ 1099511627 := by have := HD5.out; omega
      have hA5 : A1.length ≤ 1099511627 := by omega
      have hrl5 : root < A1.length := by rw [← HZ1.out, ndsZ_len]; exact hrl
      clear hsh hkl hc hsk ho hfs hR5 hz5 hK hka
      go_wp2_with (go_at_call 120; refine (drop_calls _ t A1 fl1 kid (many - 1) _ HZ5.out root hrl5 hA5 hfl5).mono ?_; rintro e w6 ⟨rfl, F6, hz6, hf6, hn6⟩)
      go_ret2
      have hg7 := HD7.out
      rw [HSK.out] at hg7
      have hsz3 := HFW3.out.size
      have hsz4 := HF4.out.size
      have hsz5 := HFS5.out.size
      refine ⟨rfl, _, _, kid, F6, by simpa using hz6, hg7, by simp; exact d2, ?_, fun b hb => ?_⟩
      · refine ((HFW3.out.trans HF4.out fun _ _ s => s.elim).trans HFS5.out fun b hb e => ?_).trans hf6 fun b hb e => ?_
        · rcases HKEY.out b (.inl e) with e | e
          · exact e
          · omega
        · rcases HKEY.out b e with e | e
          · exact e
          · omega
      · rcases hn6 b hb with e | e
        · exact HKEY.out b e
        · exact .inr (by omega)
    · have hsk : shrinkA A1 fl1 root = (A1, fl1, root) := by unfold shrinkA; rw [if_neg (by rw [← HND.out]; exact hsh)]
      have hg7 := HD7.out
      rw [hsk] at hg7
      have HG7 := Lib.hid hg7
      have hend : Hid (∀ W, Fr No W4 W → ∃ A' fl' root' F', TreeZ W t A' fl' root' (many - 1) F' ∧ GoodT A' fl' root' (delT T key) ∧ A'.length = A.length ∧ Fr F w W ∧ (∀ b, F' b → F b ∨ w.heap.size ≤ b)) := Lib.hid fun W hW =>
        ⟨A1, fl1, root, _, ⟨_, _, _, HR4.out.fr0 hW, HZ1.out, fun b => Iff.rfl⟩, HG7.out, d2, (HFW3.out.trans HF4.out fun _ _ s => s.elim).trans hW fun _ _ s => s.elim, HKEY.out⟩
      by_cases hp : z1.nd.pairs.length = 0
      · have hp0 : ((z1.nd.pairs.length : Int) == 0) = true := by rw [beq_iff_eq]; omega
        have hkn : z1.nd.kids = [] := Classical.byContradiction fun e => hsh ⟨hp, e⟩
        have hkl : z1.nd.kids.length = 0 := by rw [hkn]; rfl
        rw [hkl] at y1
        clear hsh hsk hg7 hK hka hkn
        go_wp2_with fail
        go_ret2
        obtain ⟨A', fl', root', F', hb1, hb2⟩ := hend.out _ (Fr.refl No _)
        exact ⟨rfl, A', fl', root', F', by simpa using hb1, hb2⟩
      · have hp0 : ((z1.nd.pairs.length : Int) == 0) = false := by rw [beq_eq_false_iff_ne]; omega
        clear hsh hsk hg7 hK hka
        go_wp2_with fail
        go_ret2
        obtain ⟨A', fl', root', F', hb1, hb2⟩ := hend.out _ (Fr.refl No _)
        exact ⟨rfl, A', fl', root', F', by simpa using hb1, hb2⟩

/-- What Delete is asked of a tree. -/
structure TreeDel (TA : TreeRel) : Prop where
  del : ∀ {w t T F} (key : ByteArray), TA w t T F → Calls Try.prog 86 #[.pointer (some ⟨t, 0, none⟩), .string key] w fun e w' => e = .returned (getTuple (getT T key)) ∧ ∃ F', TA w' t (delT T key) F' ∧ Fr F w w' ∧ (∀ b, F' b → F b ∨ w.heap.size ≤ b)
theorem treeDelN : TreeDel TreeAtN where
  del {w t T F} key h := by
    obtain ⟨A, fl, root, h, h2, h3, h4⟩ := h
    refine (DelN_calls w t A fl root T.length F T key h h2 (by omega) ⟨by omega, by omega⟩).mono ?_
    rintro e w' ⟨he, A', fl', root', F', b1, b2, b3, b4, b5⟩
    have hsT : Sorted T := by obtain ⟨D, hD⟩ := h2; exact hD.sorted
    have hl : ((delT T key).length : Int) = (T.length : Int) - if (getT T key).2 then 1 else 0 := by
      cases hg : getT T key with
      | mk n ok =>
      cases ok with
      | false => rw [(getT_none hg).2]; simp
      | true => have := delT_len key T hsT (by rw [hg]); simp; omega
    have hle : (delT T key).length ≤ T.length := List.length_filter_le _ _
    exact ⟨he, F', ⟨A', fl', root', by rw [hl]; exact b1, b2, by omega, by omega⟩, b4, b5⟩
end Go.Proofs.Ythljnnjpmdgkoaa

namespace Go.Proofs.Ythljnnjpmdgkoaa
open Go Go.Proofs Go.ChangeShapes Go.WideShapes Go.ChangeAt Go.RowKit Go.Deep
set_option maxRecDepth 100000

theorem list_of {α : Type} (P : Nat → α → Prop) : ∀ n : Nat, (∀ i, i < n → ∃ x, P i x) → ∃ L : List α, L.length = n ∧ ∀ (i : Nat) (x : α), L[i]? = some x → P i x
  | 0, _ => ⟨[], rfl, fun i x h => by simp at h⟩
  | n + 1, h => by
    obtain ⟨L, h1, h2⟩ := list_of P n fun i hi => h i (by omega)
    obtain ⟨x, hx⟩ := h n (by omega)
    refine ⟨L ++ [x], by simp [h1], fun i y hy => ?_⟩
    by_cases hi : i < L.length
    · rw [List.getElem?_append_left hi] at hy
      exact h2 i y hy
    · rw [List.getElem?_append_right (by omega)] at hy
      have h0 : i - L.length = 0 := by
        have := (List.getElem?_eq_some_iff.1 hy).1
        simp at this; omega
      rw [h0] at hy
      simp at hy
      subst hy
      rw [show i = n by omega]
      exact hx

section
variable {H : Type} {enc : TypeId × Value → H} {w : World} {base : Nat} {spare : Nat → Bool} {held : Bool}

theorem open_list {α : Type} {t e : TypeId} {sz : Nat} (f : α → List Value) (hu : Try.prog.underlying t = some (.slice e)) (hC : Try.prog.cellsOf e = sz) (hsz : 0 < sz) (hf : ∀ x, (f x).length = sz)
    (hel : ∀ n cs x, DataW.trod enc Try.prog w base spare held n e cs = some x → cs.length = sz → ∃ y, cs = f y) {fuel : Nat} {cs : List Value} {x : DataW H × List MemPlace}
    (h : DataW.trod enc Try.prog w base spare held fuel t cs = some x) : ∃ v L, cs = [v] ∧ SlR w sz f v L ∧ ∀ b, v.ownBlock = some b → base ≤ b := by
  rcases open_slice hu h with ⟨rfl, _⟩ | ⟨a, len, cap, m, n, D, Pl, rfl, hb, hl, hm, hmm, hx, hi⟩
  · exact ⟨_, [], rfl, SlR.nil _ _ _, by simp [Value.ownBlock]⟩
  · have hlm : len ≤ m := by rw [hmm]; split <;> omega
    obtain ⟨L, hL1, hL2⟩ := list_of (fun i y => ∀ j, j < sz → w.cell? ((a.add (i * sz)).add j) = (f y)[j]?) len fun i him => by
      obtain ⟨cs', hc, ht⟩ := hi i (by omega)
      rw [hC] at hc
      obtain ⟨_, hcl, hat⟩ := World.cells?_some hc
      obtain ⟨y, rfl⟩ := hel _ _ _ ht hcl
      exact ⟨y, hat⟩
    refine ⟨_, L, rfl, ⟨some a, cap, by rw [hL1], by omega, hm, fun hp => ?_⟩, fun b hb' => ?_⟩
    · obtain ⟨g, o, sp⟩ := a
      have h0 : sp = none := by
        have hx0 : ∃ x0, L[0]? = some x0 := ⟨_, List.getElem?_eq_getElem hp⟩
        obtain ⟨x0, hx0⟩ := hx0
        have := hL2 0 x0 hx0 0 hsz
        have hlt : 0 < (f x0).length := by rw [hf]; exact hsz
        rw [Nat.zero_mul] at this
        simp only [Addr.add, if_true] at this
        rw [List.getElem?_eq_getElem hlt] at this
        unfold World.cell? at this
        cases sp with
        | none => rfl
        | some q =>
          simp only [Option.isSome_some, if_true] at this
          split at this <;> simp at this
      subst h0
      refine ⟨g, o, rfl, fun i y hy j u hu' => ?_⟩
      have hj : j < sz := by
        have := (List.getElem?_eq_some_iff.1 hu').1
        rwa [hf] at this
      have := hL2 i y hy j hj
      rw [hu'] at this
      rw [← this]
      congr 1
      unfold Addr.add
      by_cases h1 : i * sz = 0
      · by_cases h2 : j = 0
        · simp [h1, h2]
        · simp [h1, h2]
      · by_cases h2 : j = 0
        · simp [h1, h2]
        · simp [h1, h2]
    · simp [Value.ownBlock] at hb'
      omega

theorem Try.cells9 : Try.prog.cellsOf 9 = 1 := by kernel_rfl
theorem Try.cells3 : Try.prog.cellsOf 3 = 1 := by kernel_rfl
theorem Try.cells4 : Try.prog.cellsOf 4 = 1 := by kernel_rfl
theorem Try.cells38 : Try.prog.cellsOf 38 = 7 := by kernel_rfl
theorem Try.cells87 : Try.prog.cellsOf 87 = 10 := by kernel_rfl
theorem Try.cells23 : Try.prog.cellsOf 23 = 1 := by kernel_rfl

theorem open_rg (n : Nat) (cs : List Value) (x : DataW H × List MemPlace) (h : DataW.trod enc Try.prog w base spare held n 38 cs = some x) (hl : cs.length = 7) : ∃ y, cs = rgC y := by
  obtain ⟨ys, n', _, _, _, hyl, hf⟩ := DataW.trod_struct Try.underlying38 h
  match cs, hl with
  | [c0, c1, c2, c3, c4, c5, c6], _ =>
    match ys, hyl with
    | [y0, y1, y2, y3, y4, y5, y6], _ =>
      have g0 : DataW.trod enc Try.prog w base spare held n' 9 [c0] = some y0 := by have := hf 0 _ rfl; simpa [Try.cells9] using this
      have g1 : DataW.trod enc Try.prog w base spare held n' 9 [c1] = some y1 := by have := hf 1 _ rfl; simpa [Try.cells9] using this
      have g2 : DataW.trod enc Try.prog w base spare held n' 3 [c2] = some y2 := by have := hf 2 _ rfl; simpa [Try.cells3] using this
      have g3 : DataW.trod enc Try.prog w base spare held n' 3 [c3] = some y3 := by have := hf 3 _ rfl; simpa [Try.cells3] using this
      have g4 : DataW.trod enc Try.prog w base spare held n' 4 [c4] = some y4 := by have := hf 4 _ rfl; simpa [Try.cells4] using this
      have g5 : DataW.trod enc Try.prog w base spare held n' 4 [c5] = some y5 := by have := hf 5 _ rfl; simpa [Try.cells4] using this
      have g6 : DataW.trod enc Try.prog w base spare held n' 4 [c6] = some y6 := by have := hf 6 _ rfl; simpa [Try.cells4] using this
      obtain ⟨s0, e0, _⟩ := DataW.trod_string Try.underlying9 g0
      obtain ⟨s1, e1, _⟩ := DataW.trod_string Try.underlying9 g1
      obtain ⟨s2, e2, _⟩ := DataW.trod_int Try.underlying3 g2
      obtain ⟨s3, e3, _⟩ := DataW.trod_int Try.underlying3 g3
      obtain ⟨s4, e4, _⟩ := DataW.trod_bool Try.underlying4 g4
      obtain ⟨s5, e5, _⟩ := DataW.trod_bool Try.underlying4 g5
      obtain ⟨s6, e6, _⟩ := DataW.trod_bool Try.underlying4 g6
      simp only [List.cons.injEq, and_true] at e0 e1 e2 e3 e4 e5 e6
      subst e0 e1 e2 e3 e4 e5 e6
      exact ⟨⟨s0, s1, s2, s3, s4, s5, s6⟩, rfl⟩

theorem open_op (n : Nat) (cs : List Value) (x : DataW H × List MemPlace) (h : DataW.trod enc Try.prog w base spare held n 87 cs = some x) (hl : cs.length = 10) : ∃ y, cs = opC y := by
  obtain ⟨ys, n', _, _, _, hyl, hf⟩ := DataW.trod_struct Try.underlying87 h
  match cs, hl with
  | [c0, c1, c2, c3, c4, c5, c6, c7, c8, c9], _ =>
    match ys, hyl with
    | [y0, y1, y2, y3], _ =>
      have g0 : DataW.trod enc Try.prog w base spare held n' 3 [c0] = some y0 := by have := hf 0 _ rfl; simpa [Try.cells3] using this
      have g1 : DataW.trod enc Try.prog w base spare held n' 38 [c1, c2, c3, c4, c5, c6, c7] = some y1 := by have := hf 1 _ rfl; simpa [Try.cells38] using this
      have g2 : DataW.trod enc Try.prog w base spare held n' 9 [c8] = some y2 := by have := hf 2 _ rfl; simpa [Try.cells9] using this
      have g3 : DataW.trod enc Try.prog w base spare held n' 3 [c9] = some y3 := by have := hf 3 _ rfl; simpa [Try.cells3] using this
      obtain ⟨s0, e0, _⟩ := DataW.trod_int Try.underlying3 g0
      obtain ⟨r, e1⟩ := open_rg _ _ _ g1 rfl
      obtain ⟨s2, e2, _⟩ := DataW.trod_string Try.underlying9 g2
      obtain ⟨s3, e3, _⟩ := DataW.trod_int Try.underlying3 g3
      unfold rgC at e1
      simp only [List.cons.injEq, and_true] at e0 e1 e2 e3
      obtain ⟨rfl, rfl, rfl, rfl, rfl, rfl, rfl⟩ := e1
      subst e0 e2 e3
      exact ⟨⟨s0, r, s2, s3⟩, rfl⟩

end
end Go.Proofs.Ythljnnjpmdgkoaa

namespace Go.Proofs.Ythljnnjpmdgkoaa
open Go Go.Proofs Go.ChangeShapes Go.WideShapes Go.ChangeAt Go.RowKit Go.Deep
set_option maxRecDepth 100000

section
variable {H : Type} {enc : TypeId × Value → H} {w : World} {base : Nat} {spare : Nat → Bool} {held : Bool}
theorem Try.cells62 : Try.prog.cellsOf 62 = 1 := by kernel_rfl
theorem Try.cells64 : Try.prog.cellsOf 64 = 12 := by kernel_rfl
theorem open_str (n : Nat) (cs : List Value) (x : DataW H × List MemPlace) (h : DataW.trod enc Try.prog w base spare held n 9 cs = some x) (_ : cs.length = 1) : ∃ y, cs = strC y := by
  obtain ⟨s, e, _⟩ := DataW.trod_string Try.underlying9 h
  exact ⟨s, e⟩
/-- A call's cells. -/
theorem open_cal (n : Nat) (cs : List Value) (x : DataW H × List MemPlace) (h : DataW.trod enc Try.prog w base spare held n 64 cs = some x) (hl : cs.length = 12) :
    ∃ q : Cal × List Opr × List ByteArray, cs = calC q ∧ SlR w 10 opC q.1.ops q.2.1 ∧ SlR w 1 strC q.1.keys q.2.2 := by
  obtain ⟨ys, n', _, _, _, hyl, hg⟩ := DataW.trod_struct Try.underlying64 h
  match cs, hl with
  | [c0, c1, c2, c3, c4, c5, c6, c7, c8, c9, c10, c11], _ =>
    match ys, hyl with
    | [y0, y1, y2, y3, y4, y5], _ =>
      have g0 : DataW.trod enc Try.prog w base spare held n' 3 [c0] = some y0 := by have := hg 0 _ rfl; simpa [Try.cells3, Value.cells] using this
      have g1 : DataW.trod enc Try.prog w base spare held n' 23 [c1] = some y1 := by have := hg 1 _ rfl; simpa [Try.cells23, Value.cells] using this
      have g2 : DataW.trod enc Try.prog w base spare held n' 38 [c2, c3, c4, c5, c6, c7, c8] = some y2 := by have := hg 2 _ rfl; simpa [Try.cells38, Value.cells] using this
      have g3 : DataW.trod enc Try.prog w base spare held n' 3 [c9] = some y3 := by have := hg 3 _ rfl; simpa [Try.cells3, Value.cells] using this
      have g4 : DataW.trod enc Try.prog w base spare held n' 3 [c10] = some y4 := by have := hg 4 _ rfl; simpa [Try.cells3, Value.cells] using this
      have g5 : DataW.trod enc Try.prog w base spare held n' 62 [c11] = some y5 := by have := hg 5 _ rfl; simpa [Try.cells62, Value.cells] using this
      obtain ⟨s0, e0, _⟩ := DataW.trod_int Try.underlying3 g0
      obtain ⟨u1, L1, e1, h1, _⟩ := open_list opC Try.underlying23 Try.cells87 (by omega) opC_length (fun n cs x => open_op n cs x) g1
      obtain ⟨r, e2⟩ := open_rg _ _ _ g2 rfl
      obtain ⟨s3, e3, _⟩ := DataW.trod_int Try.underlying3 g3
      obtain ⟨s4, e4, _⟩ := DataW.trod_int Try.underlying3 g4
      obtain ⟨u5, L5, e5, h5, _⟩ := open_list strC Try.underlying62 Try.cells9 (by omega) strC_length (fun n cs x => open_str n cs x) g5
      unfold rgC at e2
      simp only [List.cons.injEq, and_true] at e0 e1 e2 e3 e4 e5
      obtain ⟨rfl, rfl, rfl, rfl, rfl, rfl, rfl⟩ := e2
      subst e0 e1 e3 e4 e5
      exact ⟨(⟨s0, _, r, s3, s4, _⟩, L1, L5), rfl, h1, h5⟩
/-- A slice of calls. -/
theorem open_calls {b0 : Nat} {v : Value} {d : DataW H} {p : List MemPlace} (hv : Value.okWide Try.prog w .any b0 50 v) (h : DataW.Trod enc Try.prog w base spare held 50 v d p) : ∃ l, CalR w v l := by
  obtain ⟨a, len, cap, rfl⟩ := okWide_slice Try.underlying50 hv
  obtain ⟨fuel, hf⟩ := h
  simp only [Value.cells] at hf
  rcases open_slice Try.underlying50 hf with ⟨he, _⟩ | ⟨a, len', cap', m, n, D, Pl, he, hb, hl, hm, hmm, hx, hi⟩
  · simp only [List.cons.injEq, and_true] at he
    rw [he]
    exact ⟨[], ⟨SlR.nil _ _ _, by simp, by simp⟩⟩
  · simp only [List.cons.injEq, and_true] at he
    rw [he]
    have hlm : len' ≤ m := by rw [hmm]; split <;> omega
    obtain ⟨L, hL1, hL2⟩ := list_of (fun i (y : Cal × List Opr × List ByteArray) => (∀ j, j < 12 → w.cell? ((a.add (i * 12)).add j) = (calC y)[j]?) ∧ SlR w 10 opC y.1.ops y.2.1 ∧ SlR w 1 strC y.1.keys y.2.2) len' fun i him => by
      obtain ⟨cs', hc, ht⟩ := hi i (by omega)
      rw [Try.cells64] at hc
      obtain ⟨_, hcl, hat⟩ := World.cells?_some hc
      obtain ⟨y, rfl, h1, h2⟩ := open_cal _ _ _ ht hcl
      exact ⟨y, hat, h1, h2⟩
    refine ⟨L, ⟨⟨some a, cap', by rw [hL1], by omega, hm, fun hp => ?_⟩, fun i q hq => (hL2 i q hq).2.1, fun i q hq => (hL2 i q hq).2.2⟩⟩
    obtain ⟨g, o, sp⟩ := a
    have h0 : sp = none := by
      obtain ⟨x0, hx0⟩ : ∃ x0, L[0]? = some x0 := ⟨_, List.getElem?_eq_getElem hp⟩
      have := (hL2 0 x0 hx0).1 0 (by decide)
      have hlt : 0 < (calC x0).length := by rw [calC_length]; decide
      rw [Nat.zero_mul] at this
      simp only [Addr.add, if_true] at this
      rw [List.getElem?_eq_getElem hlt] at this
      unfold World.cell? at this
      cases sp with
      | none => rfl
      | some q =>
        simp only [Option.isSome_some, if_true] at this
        split at this <;> simp at this
    subst h0
    refine ⟨g, o, rfl, fun i y hy j u hu' => ?_⟩
    have hj : j < 12 := by
      have := (List.getElem?_eq_some_iff.1 hu').1
      rwa [calC_length] at this
    have := (hL2 i y hy).1 j hj
    rw [hu'] at this
    rw [← this]
    congr 1
    unfold Addr.add
    by_cases h1 : i * 12 = 0
    · by_cases h2 : j = 0
      · simp [h1, h2]
      · simp [h1, h2]
    · by_cases h2 : j = 0
      · simp [h1, h2]
      · simp [h1, h2]
end
end Go.Proofs.Ythljnnjpmdgkoaa

namespace Go.Proofs.Ythljnnjpmdgkoaa
open Go Go.RowKit Go.WideElems Go.ChangeMaps Go.WideMaps

/-- The block b is a map from texts that has f. -/
def MapS (w : World) (b : Nat) (f : ByteArray → Option Value) : Prop :=
  ∃ es clock, w.heap[b]? = some (.map es clock) ∧ MapKept.Stamped es clock ∧ (∀ e ∈ es.toList, ∃ n, e.key = .string n ∧ n.size ≤ maxLen ∧ f n = some e.val) ∧
    ∀ n v, f n = some v → ∃ e ∈ es.toList, e.key = .string n ∧ e.val = v
theorem MapS.lt {w : World} {b : Nat} {f : ByteArray → Option Value} (h : MapS w b f) : b < w.heap.size := by
  obtain ⟨es, clock, hb, _⟩ := h
  exact heap_lt hb
theorem MapS.fr {w w' : World} {b : Nat} {f : ByteArray → Option Value} {S : Nat → Prop} (h : MapS w b f) (hf : Fr S w w') (hn : ¬ S b) : MapS w' b f := by
  have hlt := h.lt
  obtain ⟨es, clock, hb, h2⟩ := h
  exact ⟨es, clock, by rw [hf.block b hlt hn]; exact hb, h2⟩
theorem MapS.made (w : World) : MapS (w.alloc (.map #[] 0)) w.heap.size fun _ => none :=
  ⟨#[], 0, alloc_at _ _ _ rfl, MapKept.stamped_empty 0, by simp, by simp⟩

section
variable {P : Program} {w : World} {b : Nat} {f : ByteArray → Option Value} {t k e : TypeId}

theorem keysS_of (hk : P.underlying k = some .string) {es : List MapEntry} (h : ∀ e ∈ es, ∃ n, e.key = .string n ∧ n.size ≤ maxLen ∧ f n = some e.val) : ∀ e ∈ es, ∃ l, keyOf P k e.key = some l := by
  intro e he
  obtain ⟨n, h1, h2, _⟩ := h e he
  exact ⟨_, by rw [h1]; exact keyOf_string_mk hk h2⟩

theorem MapS.look (h : MapS w b f) (ht : P.underlying t = some (.map k e)) (hk : P.underlying k = some .string) {n : ByteArray} (hn : n.size ≤ maxLen) {z : Value} (hz : (zeroValue e).run P w = .ok z w) :
    (Instr.lookup t (.map (some b)) (.string n) false).run P w = .ok ((f n).getD z) w := by
  obtain ⟨es, clock, hb, hst, h1, h2⟩ := h
  have K := Maps.string_keyed hk
  have hkey := keyOf_string_mk hk hn
  rcases K.find w hkey es.toList (keysS_of hk h1) with ⟨g1, g2⟩ | ⟨j, e0, g1, g2, g3⟩
  · have : f n = none := by
      cases hf : f n with
      | none => rfl
      | some v =>
        obtain ⟨e1, he1, hek, _⟩ := h2 n v hf
        exact absurd hek (g2 e1 he1)
    simp [Instr.lookup, run_underlying ht, MapKept.run_getObj_map hb, K.check w _ hkey, g1, hz, Result.andThen, this]
  · obtain ⟨m, hm, _, hfm⟩ := h1 e0 (List.mem_of_getElem? g2)
    rw [g3] at hm; cases hm
    simp [Instr.lookup, run_underlying ht, MapKept.run_getObj_map hb, K.check w _ hkey, g1, Result.andThen, hfm]

theorem MapS.store (h : MapS w b f) (ht : P.underlying t = some (.map k e)) (hk : P.underlying k = some .string) {n : ByteArray} (hn : n.size ≤ maxLen) (v : Value) :
    ∃ w', (Instr.mapUpdate t (.map (some b)) (.string n) v).run P w = .ok () w' ∧ MapS w' b (fun m => if m = n then some v else f m) ∧ Fr (fun x => x = b) w w' ∧ w'.heap.size = w.heap.size := by
  obtain ⟨es, clock, hb, hst, h1, h2⟩ := h
  have K := Maps.string_keyed hk
  have hkey := keyOf_string_mk hk hn
  have hfr : ∀ o, Fr (fun x => x = b) w (setBlock w b o) := fun o => ⟨rfl, rfl, rfl, by simp [setBlock], fun i _ hi => heap_setBlock_other hb _ hi⟩
  rcases K.find w hkey es.toList (keysS_of hk h1) with ⟨g1, g2⟩ | ⟨j, e0, g1, g2, g3⟩
  · refine ⟨setBlock w b (.map (es.push ⟨.string n, v, clock⟩) (clock + 1)), ?_, ⟨_, _, heap_setBlock_same hb _, MapKept.stamped_push hst g2, ?_, ?_⟩, hfr _, by simp [setBlock]⟩
    · simp [Instr.mapUpdate, run_underlying ht, MapKept.run_getObj_map hb, K.check w false hkey, g1, MapKept.run_setObj_map _ hb, Result.andThen, setBlock]
    · intro x hx
      simp only [Array.toList_push, List.mem_append, List.mem_singleton] at hx
      rcases hx with hx | rfl
      · obtain ⟨m, e1, e2, e3⟩ := h1 x hx
        refine ⟨m, e1, e2, ?_⟩
        dsimp only
        rw [if_neg (fun e => g2 x hx (by rw [e1, e]))]; exact e3
      · exact ⟨n, rfl, hn, by simp⟩
    · intro m u hu
      simp only [Array.toList_push, List.mem_append, List.mem_singleton]
      by_cases hmn : m = n
      · subst hmn
        simp at hu; subst hu
        exact ⟨_, .inr rfl, rfl, rfl⟩
      · dsimp only at hu
        rw [if_neg hmn] at hu
        obtain ⟨x, hx, hx'⟩ := h2 m u hu
        exact ⟨x, .inl hx, hx'⟩
  · have hj : es[j]? = some e0 := by simpa using g2
    have hjl : j < es.size := (Array.getElem?_eq_some_iff.1 hj).1
    have hkeyf : ∀ e', es[j]? = some e' → ({ e' with key := .string n, val := v } : MapEntry).key = e'.key := fun e' he' => by rw [hj] at he'; cases he'; exact g3.symm
    have hnd : es.toList.Pairwise (fun x y => x.key ≠ y.key) := ((MapKept.stamped_iff _ _).1 hst).2.2
    have hother : ∀ i x, es[i]? = some x → i ≠ j → x.key ≠ .string n := by
      intro i x hx hij e1
      have hil := (Array.getElem?_eq_some_iff.1 hx).1
      rw [List.pairwise_iff_getElem] at hnd
      have ex : es[i] = x := (Array.getElem?_eq_some_iff.1 hx).2
      have e0' : es[j] = e0 := (Array.getElem?_eq_some_iff.1 hj).2
      rcases Nat.lt_or_gt_of_ne hij with h | h
      · exact hnd i j (by simpa using hil) (by simpa using hjl) h (by simp [ex, e0', e1, g3])
      · exact hnd j i (by simpa using hjl) (by simpa using hil) h (by simp [ex, e0', e1, g3])
    refine ⟨setBlock w b (.map (es.modify j (fun e' => { e' with key := .string n, val := v })) clock), ?_,
      ⟨_, _, heap_setBlock_same hb _, MapKept.stamped_modify hst _ _ (fun _ _ => rfl) (fun e' _ he' => hkeyf e' he'), ?_, ?_⟩, hfr _, by simp [setBlock]⟩
    · simp [Instr.mapUpdate, run_underlying ht, MapKept.run_getObj_map hb, K.check w false hkey, g1, hj, g3, K.stays w hkey, MapKept.run_setObj_map _ hb, Result.andThen, setBlock]
    · intro x hx
      obtain ⟨i, hi⟩ := List.getElem?_of_mem hx
      have hi' : (es.modify j (fun e' => { e' with key := .string n, val := v }))[i]? = some x := by rw [Array.getElem?_toList] at hi; exact hi
      rw [Array.getElem?_modify] at hi'
      by_cases hji : j = i
      · rw [if_pos hji] at hi'
        obtain ⟨y, hy, rfl⟩ := Option.map_eq_some_iff.1 hi'
        exact ⟨n, rfl, hn, by simp⟩
      · rw [if_neg hji] at hi'
        obtain ⟨m, e1, e2, e3⟩ := h1 x (List.mem_of_getElem? (by simpa using hi'))
        refine ⟨m, e1, e2, ?_⟩
        dsimp only
        rw [if_neg (fun e => hother i x hi' (fun e' => hji e'.symm) (by rw [e1, e]))]; exact e3
    · intro m u hu
      by_cases hmn : m = n
      · subst hmn
        simp at hu; subst hu
        refine ⟨{ e0 with key := .string m, val := v }, ?_, rfl, rfl⟩
        refine List.mem_of_getElem? (i := j) ?_
        have : (es.modify j (fun e' => { e' with key := .string m, val := v }))[j]? = some { e0 with key := .string m, val := v } := by rw [Array.getElem?_modify, if_pos rfl, hj]; rfl
        rw [Array.getElem?_toList]; exact this
      · dsimp only at hu
        rw [if_neg hmn] at hu
        obtain ⟨x, hx, hx1, hx2⟩ := h2 m u hu
        obtain ⟨i, hi⟩ := List.getElem?_of_mem hx
        have hi' : es[i]? = some x := by simpa using hi
        have hij : j ≠ i := by
          rintro rfl
          rw [hj] at hi'; cases hi'
          rw [g3] at hx1; cases hx1; exact hmn rfl
        refine ⟨x, List.mem_of_getElem? (i := i) ?_, hx1, hx2⟩
        have : (es.modify j (fun e' => { e' with key := .string n, val := v }))[i]? = some x := by rw [Array.getElem?_modify, if_neg hij]; exact hi'
        rw [Array.getElem?_toList]; exact this

theorem MapS.drop (h : MapS w b f) (ht : P.underlying t = some (.map k e)) (hk : P.underlying k = some .string) {n : ByteArray} (hn : n.size ≤ maxLen) (ty : TypeId) :
    ∃ w', (Builtin.delete_ #[t, k] ty #[.map (some b), .string n]).run P w = .ok (.tuple #[]) w' ∧ MapS w' b (fun m => if m = n then none else f m) ∧ Fr (fun x => x = b) w w' ∧ w'.heap.size = w.heap.size := by
  obtain ⟨es, clock, hb, hst, h1, h2⟩ := h
  have K := Maps.string_keyed hk
  have hkey := keyOf_string_mk hk hn
  have hfr : ∀ o, Fr (fun x => x = b) w (setBlock w b o) := fun o => ⟨rfl, rfl, rfl, by simp [setBlock], fun i _ hi => heap_setBlock_other hb _ hi⟩
  rcases K.find w hkey es.toList (keysS_of hk h1) with ⟨g1, g2⟩ | ⟨j, e0, g1, g2, g3⟩
  · refine ⟨setBlock w b (.map es clock), ?_, ⟨_, _, heap_setBlock_same hb _, hst, ?_, ?_⟩, hfr _, by simp [setBlock]⟩
    · simp [Builtin.delete_, run_underlying ht, MapKept.run_getObj_map hb, K.check w _ hkey, g1, MapKept.run_setObj_map _ hb, Result.andThen, setBlock]
    · intro x hx
      obtain ⟨m, e1, e2, e3⟩ := h1 x hx
      refine ⟨m, e1, e2, ?_⟩
      dsimp only
      rw [if_neg (fun e => g2 x hx (by rw [e1, e]))]; exact e3
    · intro m u hu
      dsimp only at hu
      split at hu
      · cases hu
      · exact h2 m u hu
  · have hj : es[j]? = some e0 := by simpa using g2
    have hjl : j < es.size := (Array.getElem?_eq_some_iff.1 hj).1
    have hsub : (es.eraseIdxIfInBounds j).toList = es.toList.eraseIdx j := by
      unfold Array.eraseIdxIfInBounds
      rw [dif_pos hjl]
      simp
    have hnd : es.toList.Pairwise (fun x y => x.key ≠ y.key) := ((MapKept.stamped_iff _ _).1 hst).2.2
    refine ⟨setBlock w b (.map (es.eraseIdxIfInBounds j) clock), ?_, ⟨_, _, heap_setBlock_same hb _, MapKept.stamped_erase hst j, ?_, ?_⟩, hfr _, by simp [setBlock]⟩
    · simp [Builtin.delete_, run_underlying ht, MapKept.run_getObj_map hb, K.check w _ hkey, g1, MapKept.run_setObj_map _ hb, Result.andThen, setBlock]
    · intro x hx
      rw [hsub] at hx
      obtain ⟨m, e1, e2, e3⟩ := h1 x ((List.eraseIdx_sublist _ _).subset hx)
      refine ⟨m, e1, e2, ?_⟩
      dsimp only
      rw [if_neg ?_]; exact e3
      rintro rfl
      obtain ⟨i, hi⟩ := List.mem_iff_getElem?.1 hx
      rw [List.pairwise_iff_getElem] at hnd
      rw [List.getElem?_eraseIdx] at hi
      have e0' : es[j] = e0 := (Array.getElem?_eq_some_iff.1 hj).2
      split at hi
      · rename_i hlt
        obtain ⟨hil, hx'⟩ := List.getElem?_eq_some_iff.1 hi
        exact hnd i j hil (by simpa using hjl) hlt (by rw [hx', e1]; simp [e0', g3])
      · rename_i hge
        obtain ⟨hil, hx'⟩ := List.getElem?_eq_some_iff.1 hi
        exact hnd j (i + 1) (by simpa using hjl) hil (by omega) (by rw [hx', e1]; simp [e0', g3])
    · intro m u hu
      dsimp only at hu
      split at hu
      · cases hu
      · rename_i hmn
        obtain ⟨x, hx, hx1, hx2⟩ := h2 m u hu
        refine ⟨x, ?_, hx1, hx2⟩
        rw [hsub]
        obtain ⟨i, hi⟩ := List.mem_iff_getElem?.1 hx
        refine List.mem_iff_getElem?.2 ?_
        have hij : i ≠ j := by
          rintro rfl
          have : es.toList[i]? = some e0 := g2
          rw [hi] at this; cases this
          rw [g3] at hx1; cases hx1; exact hmn rfl
        by_cases hlt : i < j
        · exact ⟨i, by rw [List.getElem?_eraseIdx, if_pos hlt]; exact hi⟩
        · exact ⟨i - 1, by rw [List.getElem?_eraseIdx, if_neg (by omega), show i - 1 + 1 = i from by omega]; exact hi⟩
end

/-- A look-up in the walk. -/
theorem wpList_lookS {P : Program} {w : World} {ops : Array Oper} {rest : List Oper} {o : Oper} {a : Act} {Q : Exit → Act → World → Prop} (hg : o.guard = none) (m x : Operand) (t : TypeId) (hop : o.op = Op.lookup t m x false)
    (k e : TypeId) (ht : P.underlying t = some (.map k e)) (hk : P.underlying k = some .string) (b : Nat) (f : ByteArray → Option Value) (hm : a.eval m = .map (some b)) (h : MapS w b f) (n : ByteArray) (hx : a.eval x = .string n)
    (hn : n.size ≤ maxLen) (z : Value) (hz : (zeroValue e).run P w = .ok z w) (v : Value) (hv : (f n).getD z = v) (hK : wpList P ops Q rest (a.put o.dst v) w) : wpList P ops Q (o :: rest) a w := by
  refine wpList_plain hg fun K' hK' => ?_
  have hrun := h.look ht hk hn hz
  rw [hv] at hrun
  unfold Oper.wp
  simp [execOp, hop, hm, hx, hrun, Result.andThen]
  exact hK' _ _ hK
/-- A store into a map in the walk. -/
theorem wpList_storeS {P : Program} {w : World} {ops : Array Oper} {rest : List Oper} {o : Oper} {a : Act} {Q : Exit → Act → World → Prop} (hg : o.guard = none) (m x v : Operand) (t : TypeId) (hop : o.op = Op.mapUpdate t m x v)
    (k e : TypeId) (ht : P.underlying t = some (.map k e)) (hk : P.underlying k = some .string) (b : Nat) (f : ByteArray → Option Value) (hm : a.eval m = .map (some b)) (h : MapS w b f) (n : ByteArray) (hx : a.eval x = .string n)
    (hn : n.size ≤ maxLen) (u : Value) (hv : a.eval v = u)
    (hK : ∀ w', MapS w' b (fun m => if m = n then some u else f m) → Fr (fun x => x = b) w w' → w'.heap.size = w.heap.size → wpList P ops Q rest (a.put o.dst undef) w') : wpList P ops Q (o :: rest) a w := by
  refine wpList_plain hg fun K' hK' => ?_
  obtain ⟨w', hrun, r1, r2, r3⟩ := h.store ht hk hn u
  unfold Oper.wp
  simp [execOp, hop, hm, hx, hv, hrun, Result.andThen]
  exact hK' _ _ (hK w' r1 r2 r3)
/-- A delete in the walk. -/
theorem wpList_dropS {P : Program} {w : World} {ops : Array Oper} {rest : List Oper} {o : Oper} {a : Act} {Q : Exit → Act → World → Prop} (hg : o.guard = none) (m x : Operand) (t k : TypeId) (hop : o.op = Op.call { callee := Callee.builtin Builtin.delete, args := #[m, x], argTypes := #[t, k] })
    (e : TypeId) (ht : P.underlying t = some (.map k e)) (hk : P.underlying k = some .string) (b : Nat) (f : ByteArray → Option Value) (hm : a.eval m = .map (some b)) (h : MapS w b f) (n : ByteArray) (hx : a.eval x = .string n)
    (hn : n.size ≤ maxLen)
    (hK : ∀ w', MapS w' b (fun m => if m = n then none else f m) → Fr (fun x => x = b) w w' → w'.heap.size = w.heap.size → wpList P ops Q rest (a.put o.dst (.tuple #[])) w') : wpList P ops Q (o :: rest) a w := by
  refine wpList_plain hg fun K' hK' => ?_
  obtain ⟨w', hrun, r1, r2, r3⟩ := h.drop ht hk hn o.type
  unfold Oper.wp
  simp [execOp, hop, resolve, invoke, builtin, hm, hx, hrun, Result.andThen]
  exact hK' _ _ (hK w' r1 r2 r3)
end Go.Proofs.Ythljnnjpmdgkoaa
