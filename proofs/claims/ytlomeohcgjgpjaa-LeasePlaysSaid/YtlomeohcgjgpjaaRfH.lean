/- The document's table in memory (chanceryref14): its Attach does what the document's table does. -/
import Derived.Test.YtlomeohcgjgpjaaRfG
namespace Go.Proofs.Ytlomeohcgjgpjaa
open Go Go.Proofs Go.RowKit
set_option maxRecDepth 100000

theorem klt_gt {a b : ByteArray} (h : klt a b = true) : klt b a = false ∧ keq b a = false := by
  constructor
  · cases h2 : klt b a with
    | false => rfl
    | true => have := klt_trans h h2; rw [klt_irrefl] at this; cases this
  · cases h2 : keq b a with
    | false => rfl
    | true => have := keq_iff.1 h2; subst this; rw [klt_irrefl] at h; cases h
theorem klt_ge {a b : ByteArray} (h : klt a b = false) (h2 : klt b a = false) : keq b a = true := by
  rcases klt_tri b a with h3 | h3 | h3
  · rw [h3] at h2; cases h2
  · exact keq_iff.2 h3
  · rw [h3] at h; cases h
/-- Behind the document's Attach. -/
def rattTo (w w' : World) (t : Nat) (R : List LV) (G : Nat → Prop) (id : Int) (key : ByteArray) (e : Ending) : Prop := match getR R id with
  | some _ => e = .returned (.int .i64 0) ∧ RfTo w w' t (attachR R id key) G
  | none => e = .returned (.int .i64 35) ∧ RfTo w w' t R G
theorem att_end {w w2 wr : World} {t ga oa n cap i : Nat} {Q : List (LV × Value)} {G : Nat → Prop} {R D : List LV} {x : LV} {kv u : Value} {ks : List ByteArray} (hf : Fr G w w2) (h : Rf w2 t (.slice (some ⟨ga, oa, none⟩) n cap) Q (grow G w w2)) (hf2 : Fr No w2 wr)
    (hx : Q[i]? = some (x, kv)) (hu : SlF wr 9 1 strC u ks) (hn : ∀ b, u.ownBlock = some b → w2.heap.size ≤ b) (hg : G ga) (hQ : Q.map (·.1) = D) (hR : R = D.set i { x with keys := ks }) :
    RfTo w (wr.setCell ⟨ga, oa + i * 4 + 3, none⟩ u) t R G := by
  have h1 := h.setK hf2 hx hu hn
  have hsz : (wr.setCell ⟨ga, oa + i * 4 + 3, none⟩ u).heap.size = wr.heap.size := by simp [World.setCell]
  have h3 := hf.size
  have h4 := hf2.size
  refine ⟨_, _, h1.more (fun b hb => ?_) (fun b hb => ?_), by rw [map_set_fst, hQ, hR], (hf.trans hf2 fun _ _ h => h.elim).setCell (.inl hg) u⟩
  · rcases hb with (hb | hb) | hb
    · exact .inl hb
    · exact .inr ⟨hb.1, by omega⟩
    · exact .inr ⟨by omega, by omega⟩
  · rcases hb with hb | hb
    · have := h.lt b (.inl hb); omega
    · exact hb.2
set_option maxHeartbeats 4000000 in
theorem rattach_calls {w : World} {t : Nat} {v : Value} {P : List (LV × Value)} {G : Nat → Prop} (h : Rf w t v P G) (hlen : P.length ≤ 100000) (hkl : ∀ p ∈ P, p.1.keys.length ≤ 100000) (hr : (P.map (·.1)).Pairwise fun a b => a.id < b.id) (id : Int) (key : ByteArray) :
    Calls Try.prog 42 #[.pointer (some ⟨t, 0, none⟩), .int .i64 id, .string key] w fun e w' => rattTo w w' t (P.map (·.1)) G id key e := by
  have hat := at_calls h hlen id
  unfold idxR at hat
  unfold rattTo
  cases hm : (P.map (·.1)).findIdx? fun x => x.id == id with
  | none =>
    rw [hm] at hat
    rw [idx_none hm]
    have HAT := Lib.hid hat
    have HS := Lib.hid (h.to_same (Fr.refl No w))
    clear h hat hm
    dsimp only at HAT ⊢
    go_enter Try.func42, Try.ntmps42
    go_wp2_with (go_at_call 45; (with_reducible refine HAT.out.mono ?_); rintro e w' ⟨rfl, rfl⟩)
    go_ret
    exact ⟨rfl, HS.out⟩
  | some i =>
    rw [hm] at hat
    obtain ⟨x0, hx0, he0, hg⟩ := idx_some hm
    rw [hg]
    have hdt := rdetach_calls h hlen hkl key
    have hil : i < P.length := by have := (List.getElem?_eq_some_iff.1 hx0).1; simpa using this
    obtain ⟨a, cap, rfl, h1, h2, h3⟩ := h.sl.shape
    obtain ⟨ga, oa, rfl⟩ := h3 (by omega)
    have hxk : x0.keys.length ≤ 100000 := by
      obtain ⟨p, hp, rfl⟩ := List.mem_map.1 (List.mem_of_getElem? hx0)
      exact hkl p hp
    have hxi : (detachR (P.map (·.1)) key)[i]? = some (offK key x0) := by
      unfold detachR
      rw [List.getElem?_map, hx0]
      rfl
    have hrd : (detachR (P.map (·.1)) key).Pairwise fun a b => a.id < b.id := by
      unfold detachR
      rw [List.pairwise_map]
      exact hr
    have hkn : (offK key x0).keys.length ≤ 100000 := Nat.le_trans (List.length_filter_le _ _) hxk
    have hat2 : attachR (P.map (·.1)) id key = (detachR (P.map (·.1)) key).set i { offK key x0 with keys := insK key (offK key x0).keys } := by
      have h9 := set_map (f := fun y : LV => { y with keys := insK key y.keys }) hrd hxi
      unfold attachR
      rw [h9]
      have e9 : (offK key x0).id = id := he0
      rw [e9]
    have HAT := Lib.hid hat
    have HDT := Lib.hid hdt
    have HXI := Lib.hid hxi
    have HAT2 := Lib.hid hat2
    have HH := Lib.hid h
    have hgG : G ga := h.own.2.2 ga rfl
    have hgw := h.lt ga hgG
    have hw0 : 0 ≤ (i : Int) := by omega
    have hili : (i : Int) < (P.length : Int) := by omega
    obtain ⟨i0, hi0, hz0, hz1, hz2⟩ := info_parts info9
    unfold maxLen at h2
    generalize offK key x0 = x at *
    clear h hat hdt hxi hat2 hm hg hx0 h3 he0 hkl hr hrd hxk
    dsimp only at HAT ⊢
    go_enter Try.func42, Try.ntmps42
    go_upto_region 8 with (first
      | (go_at_call 45; (with_reducible refine HAT.out.mono ?_); rintro e w' ⟨rfl, rfl⟩)
      | (go_at_call 43; (with_reducible refine HDT.out.mono ?_); rintro e w2 ⟨rfl, Q, hQ, hQm, hfr⟩))
    have HQ1 := Lib.hid hQ
    have HF := Lib.hid hfr
    have HQM := Lib.hid hQm
    have hQl : Q.length = P.length := by have := congrArg List.length hQm; rw [List.length_map] at this; rw [this]; unfold detachR; simp
    obtain ⟨⟨x', kv⟩, hx⟩ : ∃ p, Q[i]? = some p := ⟨_, List.getElem?_eq_getElem (by omega)⟩
    obtain rfl : x' = x := by
      have h5 := HXI.out
      rw [← hQm, List.getElem?_map, hx] at h5
      simpa using h5
    have hks := (hQ.keys _ (List.mem_of_getElem? hx)).1
    obtain ⟨ka, kc, hkv, k1, k2, k3⟩ := hks.shape
    dsimp only at hkv hks k1 k3
    subst hkv
    have HK3 := Lib.hid k3
    have HKS := Lib.hid hks
    have HX := Lib.hid hx
    unfold maxLen at k2
    clear hQ hQm hfr hx hks k3 HDT HAT HXI
    go_loopg [8, 9, 10] x'.keys.length (fun g s8 s9 s10 wr => ∃ (k : Nat) (d : Bool) (u : Value), s10 = .int .i64 k ∧ s9 = .bool d ∧ s8 = u ∧ k + g = x'.keys.length ∧ Hid (insMet (klt key) x'.keys k d) ∧ Hid (SlF wr 9 1 strC u (insTo (klt key) key x'.keys k d)) ∧ Hid (∀ b, u.ownBlock = some b → w2.heap.size ≤ b) ∧ Hid (Fr No w2 wr))
    case atStart => exact ⟨0, false, _, rfl, rfl, rfl, by omega, Lib.hid met_zero, Lib.hid (by rw [insTo_zero]; exact SlF.nil _ _ _ _), Lib.hid (by simp [Value.ownBlock]), Lib.hid (Fr.refl No w2)⟩
    case round =>
      obtain ⟨k, d, u, rfl, rfl, rfl, hk, HM, HS, HN, HX2⟩ := hrel
      have hT := HQ1.out.fr0 HX2.out
      have ht := hT.cell
      have lt := World.block_lt_of_cell? _ _ ht
      obtain ⟨y0, y1, y2, y3⟩ := hT.cells HX.out
      have ly := World.block_lt_of_cell? _ _ y0
      have hil2 := fun d => insTo_len (p := klt key) (x := key) (d := d) (show k ≤ x'.keys.length by omega)
      have hl1 := hil2 true
      have hl2 := hil2 false
      clear hil2
      cases gk with
      | succ g =>
        have hkl : (k : Int) < (x'.keys.length : Int) := by omega
        obtain ⟨y, hy⟩ : ∃ y, x'.keys[k]? = some y := ⟨_, List.getElem?_eq_getElem (by omega)⟩
        obtain ⟨gb, ob, rfl⟩ := HK3.out (by omega)
        have q0 := (HKS.out.fr0 HX2.out).cell1 strC_len k hy rfl
        have lq := World.block_lt_of_cell? _ _ q0
        have HY := Lib.hid hy
        have hwk : 0 ≤ (k : Int) := by omega
        have HT := Lib.hid hT
        clear hy hT y0 y1 y2
        cases d with
        | true =>
          have HSTEP := Lib.hid (insTo_old (x := key) HM.out HY.out)
          have HM2 := Lib.hid (met_step HM.out HY.out)
          have HNEW := Lib.hid (cells_new wr [.string y] 9 (0, 0))
          go_wp2_with (at_builtin; refine wpList_app rfl _ _ 30 rfl 9 i0 _ 1 16 Try.underlying30 hi0 hz0 hz1 hz2 rfl (by decide) _ (insTo (klt key) key x'.keys k true) rfl (HS.out.alloc _) w2 HN.out (HX2.out.alloc _) wr.heap.size 1 y rfl HNEW.out rfl (one_strC _) (by unfold maxLen; omega) (by omega) ?_)
          intro g5 o5 cap5 w5 hs5 hg5 hf5 hlt5
          have HS5 := Lib.hid hs5
          have HF5 := Lib.hid hf5
          clear hs5 hf5
          go_wp2
          go_roundg g
          case rel => exact ⟨k + 1, true, _, by go_num, rfl, rfl, by omega, Lib.hid (by have := HM2.out; simpa using this), Lib.hid (by rw [HSTEP.out]; exact HS5.out), Lib.hid (own_slice hg5), HF5⟩
          case measure => omega
        | false =>
          cases hc : klt key y with
          | false =>
            cases hcc : klt y key with
            | true =>
                have hc3 : Op.bytesLess y.toList key.toList = true := hcc
                have HSTEP := Lib.hid (insTo_not (p := klt key) (x := key) HY.out)
                have HM2 := Lib.hid (met_step HM.out HY.out)
                rw [hc] at HM2
                have HNEW := Lib.hid (cells_new wr [.string y] 9 (0, 0))
                go_wp2_with (at_builtin; refine wpList_app rfl _ _ 30 rfl 9 i0 _ 1 16 Try.underlying30 hi0 hz0 hz1 hz2 rfl (by decide) _ (insTo (klt key) key x'.keys k false) rfl (HS.out.alloc _) w2 HN.out (HX2.out.alloc _) wr.heap.size 1 y rfl HNEW.out rfl (one_strC _) (by unfold maxLen; omega) (by omega) ?_)
                intro g5 o5 cap5 w5 hs5 hg5 hf5 hlt5
                have HS5 := Lib.hid hs5
                have HF5 := Lib.hid hf5
                clear hs5 hf5
                go_wp2
                go_roundg g
                case rel => exact ⟨k + 1, false, _, by go_num, rfl, rfl, by omega, Lib.hid (by have := HM2.out; simpa using this), Lib.hid (by rw [HSTEP.out]; exact HS5.out), Lib.hid (own_slice hg5), HF5⟩
                case measure => omega
            | false =>
                have hc3 : Op.bytesLess y.toList key.toList = false := hcc
                have hc4 : (y.toList == key.toList) = true := klt_ge hc hcc
                have HSTEP := Lib.hid (insTo_not (p := klt key) (x := key) HY.out)
                have HM2 := Lib.hid (met_step HM.out HY.out)
                rw [hc] at HM2
                have HNEW := Lib.hid (cells_new wr [.string y] 9 (0, 0))
                go_wp2_with (at_builtin; refine wpList_app rfl _ _ 30 rfl 9 i0 _ 1 16 Try.underlying30 hi0 hz0 hz1 hz2 rfl (by decide) _ (insTo (klt key) key x'.keys k false) rfl (HS.out.alloc _) w2 HN.out (HX2.out.alloc _) wr.heap.size 1 y rfl HNEW.out rfl (one_strC _) (by unfold maxLen; omega) (by omega) ?_)
                intro g5 o5 cap5 w5 hs5 hg5 hf5 hlt5
                have HS5 := Lib.hid hs5
                have HF5 := Lib.hid hf5
                clear hs5 hf5
                go_wp2
                go_roundg g
                case rel => exact ⟨k + 1, false, _, by go_num, rfl, rfl, by omega, Lib.hid (by have := HM2.out; simpa using this), Lib.hid (by rw [HSTEP.out]; exact HS5.out), Lib.hid (own_slice hg5), HF5⟩
                case measure => omega
          | true =>
            have hc3 : Op.bytesLess y.toList key.toList = false := (klt_gt hc).1
            have hc4 : (y.toList == key.toList) = false := (klt_gt hc).2
            have HSTEP := Lib.hid (insTo_new (x := key) HM.out HY.out hc)
            have HM2 := Lib.hid (met_step HM.out HY.out)
            rw [hc] at HM2
            have HNEW := Lib.hid (cells_new wr [.string key] 9 (0, 0))
            go_upto_region 13 with (at_builtin; refine wpList_app rfl _ _ 30 rfl 9 i0 _ 1 16 Try.underlying30 hi0 hz0 hz1 hz2 rfl (by decide) _ (insTo (klt key) key x'.keys k false) rfl (HS.out.alloc _) w2 HN.out (HX2.out.alloc _) wr.heap.size 1 key rfl HNEW.out rfl (one_strC _) (by unfold maxLen; omega) (by omega) ?_)
            intro g4 o4 cap4 w4 hs4 hg4 hf4 hlt4
            have hT4 := HQ1.out.fr0 hf4
            have ht4 := hT4.cell
            have lt4 := World.block_lt_of_cell? _ _ ht4
            obtain ⟨z0, z1, z2, z3⟩ := hT4.cells HX.out
            have lz := World.block_lt_of_cell? _ _ z0
            have p0 := (HKS.out.fr0 hf4).cell1 strC_len k HY.out rfl
            have lp := World.block_lt_of_cell? _ _ p0
            have HS4 := Lib.hid hs4
            have HF4 := Lib.hid hf4
            have HNEW4 := Lib.hid (cells_new w4 [.string y] 9 (0, 0))
            have hl4 : (insTo (klt key) key x'.keys k false ++ [key]).length ≤ k + 2 := by rw [List.length_append, List.length_singleton]; omega
            clear hs4 hf4 hT4 z0 z1 z2 y3 q0 lq ly
            go_wp2_with (at_builtin; refine wpList_app rfl _ _ 30 rfl 9 i0 _ 1 16 Try.underlying30 hi0 hz0 hz1 hz2 rfl (by decide) _ (insTo (klt key) key x'.keys k false ++ [key]) rfl (HS4.out.alloc _) w2 (own_slice hg4) (HF4.out.alloc _) w4.heap.size 1 y rfl HNEW4.out rfl (one_strC _) (by unfold maxLen; omega) (by omega) ?_)
            intro g5 o5 cap5 w5 hs5 hg5 hf5 hlt5
            have HS5 := Lib.hid hs5
            have HF5 := Lib.hid hf5
            clear hs5 hf5
            go_wp2
            go_roundg g
            case rel => exact ⟨k + 1, true, _, by go_num, rfl, rfl, by omega, Lib.hid (by have := HM2.out; simpa using this), Lib.hid (by rw [HSTEP.out, List.append_assoc]; exact HS5.out), Lib.hid (own_slice hg5), HF5⟩
            case measure => omega
      | zero =>
        have hkl : ¬ (k : Int) < (x'.keys.length : Int) := by omega
        have HIM : Hid (k = x'.keys.length) := Lib.hid (by omega)
        have hff := hT.free (oa + i * 4 + 3)
        have HT := Lib.hid hT
        clear hT y0 y1 y2
        cases d with
        | true =>
          have hs := HS.out
          rw [insTo_true HIM.out, ← insK_P] at hs
          obtain ⟨ua, uc, rfl, _, _, _⟩ := hs.shape
          have HTO := Lib.hid (att_end HF.out HQ1.out HX2.out HX.out hs HN.out hgG HQM.out HAT2.out)
          clear hs
          go_wp2
          go_ret
          exact ⟨rfl, HTO.out⟩
        | false =>
          have HNEW := Lib.hid (cells_new wr [.string key] 9 (0, 0))
          go_wp2_with (at_builtin; refine wpList_app rfl _ _ 30 rfl 9 i0 _ 1 16 Try.underlying30 hi0 hz0 hz1 hz2 rfl (by decide) _ (insTo (klt key) key x'.keys k false) rfl (HS.out.alloc _) w2 HN.out (HX2.out.alloc _) wr.heap.size 1 key rfl HNEW.out rfl (one_strC _) (by unfold maxLen; omega) (by omega) ?_)
          intro g5 o5 cap5 w5 hs5 hg5 hf5 hlt5
          have hT5 := HQ1.out.fr0 hf5
          have ht5 := hT5.cell
          have lt5 := World.block_lt_of_cell? _ _ ht5
          obtain ⟨z0, z1, z2, z3⟩ := hT5.cells HX.out
          have lz := World.block_lt_of_cell? _ _ z0
          have hff5 := hT5.free (oa + i * 4 + 3)
          have hs6 : SlF w5 9 1 strC (.slice (some ⟨g5, o5, none⟩) ((insTo (klt key) key x'.keys k false).length + 1) cap5) (insK key x'.keys) := by rw [insK_P, ← insTo_false HIM.out HM.out]; exact hs5
          have HTO := Lib.hid (att_end HF.out HQ1.out hf5 HX.out hs6 (own_slice hg5) hgG HQM.out HAT2.out)
          clear hs5 hs6 hf5 hT5 z0 z1 z2
          go_wp2
          go_ret
          exact ⟨rfl, HTO.out⟩
end Go.Proofs.Ytlomeohcgjgpjaa
