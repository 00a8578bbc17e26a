/- The document's table in memory (chanceryref14): its Detach and Attach do what the document's table does. -/
import Derived.Test.YtlomeohcgjgpjaaRfE
namespace Go.Proofs.Ytlomeohcgjgpjaa
open Go Go.Proofs Go.RowKit
set_option maxRecDepth 100000

def offK (key : ByteArray) (x : LV) : LV := { x with keys := delK key x.keys }
theorem delK_step {key : ByteArray} {l : List ByteArray} {k : Nat} {y : ByteArray} (hy : l[k]? = some y) : delK key (l.take (k + 1)) = delK key (l.take k) ++ if keq y key = true then [] else [y] := by
  unfold delK
  rw [List.take_add_one, hy, List.filter_append]
  congr 1
  cases h : keq y key <;> simp [h]
theorem grow_up {G : Nat → Prop} {w a b : World} (h : a.heap.size ≤ b.heap.size) : ∀ k, grow G w a k → grow G w b k := fun _ hk => hk.imp (fun h => h) fun hk => ⟨hk.1, by omega⟩
theorem one_strC (y : ByteArray) : ∀ u ∈ strC y, u.oneCell' = true := by intro u hu; simp [strC] at hu; subst hu; rfl
/-- Behind a change of one lease's keys. -/
theorem Rf.setK {w w1 : World} {t g o n cap : Nat} {P : List (LV × Value)} {G : Nat → Prop} (h : Rf w t (.slice (some ⟨g, o, none⟩) n cap) P G) (hf : Fr No w w1) {i : Nat} {x : LV} {kv u : Value} {ks : List ByteArray} (hp : P[i]? = some (x, kv))
    (hu : SlF w1 9 1 strC u ks) (hn : ∀ b, u.ownBlock = some b → w.heap.size ≤ b) : Rf (w1.setCell ⟨g, o + i * 4 + 3, none⟩ u) t (.slice (some ⟨g, o, none⟩) n cap) (P.set i ({ x with keys := ks }, u)) (grow G w w1) := by
  have hfs := hf.size
  have h1 := (h.fr0 hf).more (G' := grow G w w1) (fun b hb => .inl hb) (fun b hb => hb.elim (fun hb => by have := h.lt b hb; omega) fun hb => hb.2)
  refine h1.set (j := 3) (by omega) hp rfl ⟨hu, fun b hb => ⟨.inr ⟨hn b hb, hu.lt b hb⟩, ?_, ?_⟩⟩
  · have := hn b hb; have := h.lt t h.own.1; omega
  · have := hn b hb; have := h.lt g (h.own.2.2 g rfl); omega
set_option maxHeartbeats 4000000 in
theorem rdetach_calls {w : World} {t : Nat} {v : Value} {P : List (LV × Value)} {G : Nat → Prop} (h : Rf w t v P G) (hlen : P.length ≤ 100000) (hkl : ∀ p ∈ P, p.1.keys.length ≤ 100000) (key : ByteArray) :
    Calls Try.prog 43 #[.pointer (some ⟨t, 0, none⟩), .string key] w fun e w' => e = .returned (.int .i64 (ofR (P.map (·.1)) key)) ∧ ∃ Q, Rf w' t v Q (grow G w w') ∧ Q.map (·.1) = detachR (P.map (·.1)) key ∧ Fr G w w' := by
  have hof := rof_calls h hlen hkl key
  obtain ⟨a, cap, rfl, h1, h2, h3⟩ := h.sl.shape
  have H := Lib.hid h
  have H3 := Lib.hid h3
  have HOF := Lib.hid hof
  have HKL : Hid (∀ x ∈ P.map (·.1), x.keys.length ≤ 100000) := Lib.hid (fun x hx => by obtain ⟨p, hp, rfl⟩ := List.mem_map.1 hx; exact hkl p hp)
  have HD : Hid (detachR (P.map (·.1)) key = (P.map (·.1)).map (offK key)) := Lib.hid rfl
  have hRl : (P.map (·.1)).length = P.length := List.length_map ..
  have hgs : ∀ b, G b → b < w.heap.size := h.lt
  have HGS := Lib.hid hgs
  obtain ⟨i0, hi0, hz0, hz1, hz2⟩ := info_parts info9
  unfold maxLen at h2
  generalize hR : P.map (·.1) = R at *
  have HR := Lib.hid hR
  generalize hm : P.length = m at *
  clear h h3 hkl hof hR hm hgs
  go_enter Try.func43, Try.ntmps43
  go_upto_region 3 with (go_at_call 26; (with_reducible refine HOF.out.mono ?_); rintro e w' ⟨rfl, rfl⟩)
  go_loopg [6] m (fun g s6 wr => ∃ i : Nat, s6 = .int .i64 i ∧ i + g = m ∧ Hid (∃ Q, Rf wr t (.slice a m cap) Q (grow G w wr) ∧ Q.map (·.1) = mapTo (offK key) R i) ∧ Hid (Fr G w wr))
  case atStart => exact ⟨0, rfl, by omega, Lib.hid ⟨P, H.out.more (fun b hb => .inl hb) (fun b hb => hb.elim (HGS.out b) fun hb => hb.2), by rw [mapTo_zero]; exact HR.out⟩, Lib.hid (Fr.refl _ w)⟩
  case round =>
    obtain ⟨i, rfl, hi, HQ, HF⟩ := hrel
    obtain ⟨Q, hQ, hQm⟩ := HQ.out
    have ht2 := hQ.cell
    have lt2 := World.block_lt_of_cell? _ _ ht2
    have HQ1 := Lib.hid hQ
    have HQM := Lib.hid hQm
    cases gk with
    | zero =>
      have hil : ¬ (i : Int) < (m : Int) := by omega
      clear hQ hQm HQ
      go_wp2
      go_ret
      refine ⟨rfl, Q, HQ1.out, ?_, HF.out⟩
      rw [HD.out, HQM.out, show i = R.length by omega, mapTo_all]
    | succ g =>
      have hil : (i : Int) < (m : Int) := by omega
      obtain ⟨ga, oa, rfl⟩ := H3.out (by omega)
      have hQl : Q.length = m := by have := congrArg List.length hQm; rw [List.length_map, mapTo_length] at this; omega
      obtain ⟨⟨x, kv⟩, hx⟩ : ∃ p, Q[i]? = some p := ⟨_, List.getElem?_eq_getElem (by omega)⟩
      have hRx : R[i]? = some x := by
        rw [← mapTo_get (f := offK key) (by omega), ← hQm, List.getElem?_map, hx]; rfl
      have hxk := HKL.out x (List.mem_of_getElem? hRx)
      have hxm := List.mem_of_getElem? hx
      obtain ⟨f0, f1, f2, f3⟩ := hQ.cells hx
      have lf := World.block_lt_of_cell? _ _ f0
      have hks := (hQ.keys _ hxm).1
      obtain ⟨ka, kc, hkv, k1, k2, k3⟩ := hks.shape
      dsimp only at hkv hks k1 k3
      subst hkv
      have HK3 := Lib.hid k3
      have HKS := Lib.hid hks
      have HX := Lib.hid hx
      have HRX := Lib.hid hRx
      have hgG : G ga := H.out.own.2.2 ga rfl
      have hgs := HGS.out ga hgG
      unfold maxLen at k2
      have hwi : 0 ≤ (i : Int) := by omega
      clear hQ hQm HQ hx hRx hxm hks k3 f0 f1 f2
      go_upto_region 7 with fail
      obtain ⟨w2, hw2⟩ : ∃ w2, w2 = wr := ⟨_, rfl⟩
      subst hw2
      go_loopg [7, 8] x.keys.length (fun g s7 s8 wr => ∃ (k : Nat) (u : Value), s8 = .int .i64 k ∧ s7 = u ∧ k + g = x.keys.length ∧ Hid (SlF wr 9 1 strC u (delK key (x.keys.take k))) ∧ Hid (∀ b, u.ownBlock = some b → w2.heap.size ≤ b) ∧ Hid (Fr No w2 wr))
      case atStart => exact ⟨0, _, rfl, rfl, by omega, Lib.hid (SlF.nil _ _ _ _), Lib.hid (by simp [Value.ownBlock]), Lib.hid (Fr.refl No w2)⟩
      case round =>
        obtain ⟨k, u, rfl, rfl, hk, HS, HN, HX2⟩ := hrel
        have hT := HQ1.out.fr0 HX2.out
        have ht3 := hT.cell
        have lt3 := World.block_lt_of_cell? _ _ ht3
        obtain ⟨y0, y1, y2, y3⟩ := hT.cells HX.out
        have ly := World.block_lt_of_cell? _ _ y0
        cases gk with
        | zero =>
          have hkl : ¬ (k : Int) < (x.keys.length : Int) := by omega
          have hs := HS.out
          rw [List.take_of_length_le (by omega)] at hs
          obtain ⟨ua, uc, rfl, _, _, _⟩ := hs.shape
          have hff := hT.free (oa + i * 4 + 3)
          have hset := HQ1.out.setK HX2.out HX.out hs HN.out
          have hfx := HX2.out.size
          have hfw := HF.out.size
          have hfr : Fr G w (wr.setCell ⟨ga, oa + i * 4 + 3, none⟩ (.slice ua (delK key x.keys).length uc)) := (HF.out.trans HX2.out fun _ _ h => h.elim).setCell (.inl hgG) _
          have hq : ((Q.set i ({ x with keys := delK key x.keys }, .slice ua (delK key x.keys).length uc)).map (·.1)) = mapTo (offK key) R (i + 1) := by
            rw [map_set_fst, HQM.out, ← mapTo_set HRX.out]; rfl
          have HSZ : Hid (wr.heap.size = (wr.setCell ⟨ga, oa + i * 4 + 3, none⟩ (.slice ua (delK key x.keys).length uc)).heap.size) := Lib.hid (by simp [World.setCell])
          have HSET := Lib.hid hset
          have HFR := Lib.hid hfr
          have HQQ := Lib.hid hq
          clear hs hset hfr hq hT y0 y1 y2
          go_wp2
          go_roundg g
          case rel =>
            refine ⟨i + 1, by go_num, by omega, Lib.hid ⟨_, HSET.out.more (fun b hb => ?_) (fun b hb => ?_), HQQ.out⟩, HFR⟩
            · rcases hb with hb | hb
              · exact hb.imp (fun h => h) fun hb => ⟨hb.1, by have := HSZ.out; omega⟩
              · exact .inr ⟨by omega, by have := HSZ.out; omega⟩
            · rcases hb with hb | hb
              · have := HGS.out b hb; have := HFR.out.size; omega
              · exact hb.2
          case measure => omega
        | succ g2 =>
          have hkl : (k : Int) < (x.keys.length : Int) := by omega
          obtain ⟨y, hy⟩ : ∃ y, x.keys[k]? = some y := ⟨_, List.getElem?_eq_getElem (by omega)⟩
          obtain ⟨gb, ob, rfl⟩ := HK3.out (by omega)
          have q0 := (HKS.out.fr0 HX2.out).cell1 strC_len k hy rfl
          have lq := World.block_lt_of_cell? _ _ q0
          have hstep := delK_step (key := key) hy
          have HSTEP := Lib.hid hstep
          have hdl : (delK key (x.keys.take k)).length ≤ 100000 := by
            unfold delK
            have := List.length_filter_le (fun k => !keq k key) (x.keys.take k)
            rw [List.length_take] at this
            omega
          have hnew := cells_new wr [.string y] 9 (0, 0)
          have HNEW := Lib.hid hnew
          have hwk : 0 ≤ (k : Int) := by omega
          clear hy hstep hT y0 y1 y2 hnew
          cases he : keq y key with
          | true =>
            have he' : (y.toList == key.toList) = true := he
            go_wp2
            go_roundg g2
            case rel => exact ⟨k + 1, u7, by go_num, rfl, by omega, Lib.hid (by rw [HSTEP.out, if_pos he, List.append_nil]; exact HS.out), HN, HX2⟩
            case measure => omega
          | false =>
            have he' : (y.toList == key.toList) = false := he
            go_wp2_with (at_builtin; refine wpList_app rfl _ _ 30 rfl 9 i0 _ 1 16 Try.underlying30 hi0 hz0 hz1 hz2 rfl (by decide) _ (delK key (x.keys.take k)) rfl (HS.out.alloc _) w2 HN.out (HX2.out.alloc _) wr.heap.size 1 y rfl HNEW.out rfl (one_strC _) (by unfold maxLen; omega) (by omega) ?_)
            intro g5 o5 cap5 w5 hs5 hg5 hf5 hlt5
            have HS5 := Lib.hid hs5
            have HF5 := Lib.hid hf5
            clear hs5 hf5
            go_wp2
            go_roundg g2
            case rel => exact ⟨k + 1, _, by go_num, rfl, by omega, Lib.hid (by rw [HSTEP.out, he]; exact HS5.out), Lib.hid (own_slice hg5), HF5⟩
            case measure => omega
end Go.Proofs.Ytlomeohcgjgpjaa
