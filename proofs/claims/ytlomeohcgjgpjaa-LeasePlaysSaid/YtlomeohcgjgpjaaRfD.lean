/- The document's table in memory (chanceryref14): its Tick does what the document's table does. -/
import Derived.Test.YtlomeohcgjgpjaaRfC
namespace Go.Proofs.Ytlomeohcgjgpjaa
open Go Go.Proofs Go.RowKit
set_option maxRecDepth 100000

theorem told_step {R : List LV} {n : Int} (hn : ¬ n < 1) {i : Nat} {x : LV} (hx : R[i]? = some x) : toldR (R.take (i + 1)) n = toldR (R.take i) n ++ if 0 < x.left ∧ x.left ≤ n then [x.id] else [] := by
  unfold toldR
  rw [if_neg hn, if_neg hn, List.take_add_one, hx, List.filter_append, List.map_append]
  congr 1
  by_cases h1 : 0 < x.left
  · by_cases h2 : x.left ≤ n
    · simp [h1, h2]
    · simp [h1, h2]
  · simp [h1]
theorem told_len (R : List LV) (n : Int) : (toldR R n).length ≤ R.length := by
  unfold toldR
  split
  · simp
  · rw [List.length_map]; exact List.length_filter_le _ _
/-- Behind the document's Tick. -/
def rtickTo (w w' : World) (t : Nat) (R : List LV) (G : Nat → Prop) (n : Int) (e : Ending) : Prop := ∃ u, e = .returned u ∧ SlF w' 3 1 int1 u (toldR R n) ∧ RfTo w w' t (tickR R n) G
set_option maxHeartbeats 4000000 in
theorem rtick_calls {w : World} {t : Nat} {v : Value} {P : List (LV × Value)} {G : Nat → Prop} (h : Rf w t v P G) (hlen : P.length ≤ 100000) (hb : ∀ p ∈ P, 0 ≤ p.1.left ∧ p.1.left ≤ maxT) (n : Int) :
    Calls Try.prog 44 #[.pointer (some ⟨t, 0, none⟩), .int .i64 n] w fun e w' => rtickTo w w' t (P.map (·.1)) G n e := by
  obtain ⟨a, cap, rfl, h1, h2, h3⟩ := h.sl.shape
  have ht := h.cell
  have lt := World.block_lt_of_cell? _ _ ht
  have H := Lib.hid h
  have H3 := Lib.hid h3
  have HB := Lib.hid hb
  have HL := Lib.hid h.lt
  unfold maxLen at h2
  clear h h3 hb
  by_cases hn : n < 1
  · have e1 : tickR (P.map (·.1)) n = P.map (·.1) := if_pos hn
    have e2 : toldR (P.map (·.1)) n = [] := if_pos hn
    have HTO : Hid (rtickTo w w t (P.map (·.1)) G n (.returned (.slice none 0 0))) := Lib.hid ⟨_, rfl, by rw [e2]; exact SlF.nil _ _ _ _, by rw [e1]; exact H.out.to_same (Fr.refl No w)⟩
    have hn0 : ¬ 0 < n := by omega
    clear e1 e2
    go_enter Try.func44, Try.ntmps44
    go_upto_region 3 with fail
    go_loopg [5, 6] 0 (fun g s5 s6 wr => s5 = .slice none 0 0 ∧ s6 = .int .i64 0 ∧ Hid (w = wr))
    case atStart => exact ⟨rfl, rfl, Lib.hid rfl⟩
    case round =>
      obtain ⟨rfl, rfl, HW⟩ := hrel
      obtain rfl := HW.out
      by_cases hz : (0 : Int) < (P.length : Int)
      · go_wp2
        go_ret
        exact HTO.out
      · go_wp2
        go_ret
        exact HTO.out
  · have hn0 : 0 < n := by omega
    obtain ⟨i0, hi0, hz0, hz1, hz2⟩ := info_parts info3
    have HT1 : Hid (tickR (P.map (·.1)) n = (P.map (·.1)).map (tick1 n)) := Lib.hid (if_neg hn)
    have hRl : (P.map (·.1)).length = P.length := List.length_map ..
    generalize hR : P.map (·.1) = R at *
    generalize hPl : P.length = m at *
    go_enter Try.func44, Try.ntmps44
    go_upto_region 3 with fail
    go_loopg [5, 6] m (fun g s5 s6 wr => ∃ (i : Nat) (u : Value), s6 = .int .i64 i ∧ s5 = u ∧ i + g = m ∧ Hid (∃ Q, Rf wr t (.slice a m cap) Q G ∧ Q.map (·.1) = mapTo (tick1 n) R i) ∧ Hid (SlF wr 3 1 int1 u (toldR (R.take i) n)) ∧ Hid (∀ b, u.ownBlock = some b → w.heap.size ≤ b) ∧ Hid (Fr G w wr))
    case atStart => exact ⟨0, _, rfl, rfl, by omega, Lib.hid ⟨P, H.out, by rw [mapTo_zero, hR]⟩, Lib.hid (by rw [show toldR (R.take 0) n = [] from by unfold toldR; simp]; exact SlF.nil _ _ _ _), Lib.hid (by simp [Value.ownBlock]), Lib.hid (Fr.refl _ w)⟩
    case round =>
      obtain ⟨i, u, rfl, rfl, hi, HQ, HS, HN, HF⟩ := hrel
      obtain ⟨Q, hQ, hQm⟩ := HQ.out
      have ht2 := hQ.cell
      have lt2 := World.block_lt_of_cell? _ _ ht2
      cases gk with
      | zero =>
        have hil : ¬ (i : Int) < (m : Int) := by omega
        have HQ1 := Lib.hid hQ
        have HQM := Lib.hid hQm
        clear hQ hQm
        go_wp2
        go_ret
        have him : i = R.length := by omega
        have hs := HS.out
        have hq := HQM.out
        rw [him, List.take_length] at hs
        rw [him, mapTo_all] at hq
        exact ⟨_, rfl, hs, _, Q, HQ1.out.more (fun _ hb => .inl hb) (fun b hb => hb.elim (HQ1.out.lt b) fun hb => hb.2), by rw [HT1.out]; exact hq, HF.out⟩
      | succ g =>
        have hil : (i : Int) < (m : Int) := by omega
        obtain ⟨ga, oa, rfl⟩ := H3.out (by omega)
        have hQl : Q.length = m := by have := congrArg List.length hQm; rw [List.length_map, mapTo_length] at this; omega
        obtain ⟨⟨x, kv⟩, hx⟩ : ∃ p, Q[i]? = some p := ⟨_, List.getElem?_eq_getElem (by omega)⟩
        have hRx : R[i]? = some x := by
          rw [← mapTo_get (f := tick1 n) (by omega), ← hQm, List.getElem?_map, hx]; rfl
        have hxb : 0 ≤ x.left ∧ x.left ≤ maxT := by
          rw [← hR] at hRx
          obtain ⟨p, hp, rfl⟩ := List.mem_map.1 (List.mem_of_getElem? hRx)
          exact HB.out p hp
        have hxm := List.mem_of_getElem? hx
        have htold := told_step (n := n) (by omega) hRx
        obtain ⟨f0, f1, f2, f3⟩ := hQ.cells hx
        have lf := World.block_lt_of_cell? _ _ f0
        have ff := hQ.free (oa + i * 4 + 2)
        have hgG : G ga := hQ.own.2.2 ga rfl
        have hgt : ga ≠ t := fun e => hQ.own.2.1 (by rw [← e]; rfl)
        have hset := fun l => hQ.set (j := 2) (by omega) (p' := ({ x with left := l }, kv)) (u := .int .i64 l) hx rfl ⟨(hQ.keys _ hxm).1, fun b hb => ⟨((hQ.keys _ hxm).2 b hb).1, ((hQ.keys _ hxm).2 b hb).2.1, fun e => ((hQ.keys _ hxm).2 b hb).2.2 (by rw [e]; rfl)⟩⟩
        have hfr : ∀ u, Fr G w (wr.setCell ⟨ga, oa + i * 4 + 2, none⟩ u) := fun u => HF.out.setCell (.inl hgG) u
        have hgl : ga < w.heap.size := HL.out ga hgG
        have hun : u5.ownBlock ≠ some ga := fun e => by have := HN.out ga e; omega
        have hso : ∀ u, SlF (wr.setCell ⟨ga, oa + i * 4 + 2, none⟩ u) 3 1 int1 u5 (toldR (R.take i) n) := fun u => HS.out.other _ u hun
        have hmt : ∀ l, l = (if n < x.left then x.left - n else 0) → (Q.set i ({ x with left := l }, kv)).map (·.1) = mapTo (tick1 n) R (i + 1) := fun l hl => by
          subst hl
          rw [map_set_fst, hQm, ← mapTo_set hRx]
          rfl
        have HSET := Lib.hid hset
        have HFR := Lib.hid hfr
        have HSO := Lib.hid hso
        have HMT := Lib.hid hmt
        have HTD := Lib.hid htold
        have hol := told_len (R.take i) n
        rw [List.length_take] at hol
        have hwi : 0 ≤ (i : Int) := by omega
        unfold maxT at hxb
        clear hQ hQm hset hfr hso hmt htold hx hRx hxm HQ hun f1 f3
        by_cases hgr : n < x.left
        · have hwr : IntKind.i64.wrap (x.left - n) = x.left - n := by rw [IntKind.wrap_i64]; omega
          go_wp2
          go_roundg g
          case rel => exact ⟨i + 1, u5, by go_num, rfl, by omega, Lib.hid ⟨_, HSET.out _, HMT.out _ (by rw [if_pos hgr])⟩, Lib.hid (by rw [HTD.out, if_neg (by omega), List.append_nil]; exact HSO.out _), HN, Lib.hid (HFR.out _)⟩
          case measure => omega
        · have HG := Lib.hid hgr
          have hset0 := HSET.out 0
          have ht3 := hset0.cell
          have lt3 := World.block_lt_of_cell? _ _ ht3
          have hQ2 : ∃ y kv2, (Q.set i ({ x with left := 0 }, kv))[i]? = some (y, kv2) ∧ y = { x with left := 0 } := ⟨_, _, List.getElem?_set_self (by omega), rfl⟩
          obtain ⟨y, kv2, hy, rfl⟩ := hQ2
          obtain ⟨y0, y1, y2, y3⟩ := hset0.cells hy
          have ly := World.block_lt_of_cell? _ _ y0
          have hfr0 := HFR.out (.int .i64 0)
          have hso0 := HSO.out (.int .i64 0)
          have HM0 := Lib.hid (HMT.out 0 (by rw [if_neg hgr]))
          clear hy y1 y2 y3
          dsimp only at y0
          by_cases hp : 0 < x.left
          · go_upto_region 10 with fail
            generalize wr.setCell ⟨ga, oa + i * 4 + 2, none⟩ (.int .i64 0) = W at *
            have HS0 := Lib.hid hso0
            have HF0 := Lib.hid hfr0
            have HSET0 := Lib.hid hset0
            have hnew := cells_new W [.int .i64 x.id] 3 (0, 0)
            have HNEW := Lib.hid hnew
            clear hso0 hfr0 hset0 hnew HSET HFR HSO HMT
            go_wp2_with (at_builtin; go_loud (refine wpList_append_f rfl _ _ 31 rfl 3 i0 _ 1 8 Try.underlying31 hi0 hz0 hz1 hz2 rfl (by decide) _ (toldR (R.take i) n) rfl (HS0.out.alloc _) W.heap.size 1 x.id rfl HNEW.out rfl ?c1 ?c2 ?c3 ?_))
            case c1 => intro u hu; simp [int1] at hu; subst hu; rfl
            case c2 => unfold maxLen; omega
            case c3 => omega
            intro g7 o7 cap7 w6 hs6 hg6 hb6 hlt6
            have hf6 : Fr (fun b => u5.ownBlock = some b) W w6 := ((Fr.refl _ W).alloc _).trans ((Fr.refl _ _).grown hg6 fun k hk => .inl hk) fun _ _ h => h
            have hf06 : Fr G w w6 := HF0.out.trans hf6 fun b hb h => by have := HN.out b h; omega
            have hn6 : ∀ b, (Value.slice (some ⟨g7, o7, none⟩) ((toldR (R.take i) n).length + 1) cap7).ownBlock = some b → w.heap.size ≤ b := fun b hb => by
              obtain rfl : g7 = b := by simpa [Value.ownBlock] using hb
              rcases hb6 with h | h
              · exact HN.out _ h
              · have h' : g7 = W.heap.size + 1 := by simpa using h
                have := HF0.out.size
                omega
            have hq6 := HSET0.out.fr hf6 fun b hb h => by have := HN.out b h; have := HL.out b hb; omega
            have HS6 := Lib.hid (show SlF w6 3 1 int1 (.slice (some ⟨g7, o7, none⟩) ((toldR (R.take i) n).length + 1) cap7) (toldR (R.take (i + 1)) n) from by rw [HTD.out, if_pos ⟨hp, by omega⟩]; unfold SlF at hs6 ⊢; simpa using hs6)
            have HN6 := Lib.hid hn6
            have HF6 := Lib.hid hf06
            have HQ6 := Lib.hid hq6
            clear hf6 hf06 hn6 hs6 hg6 hb6 hq6
            go_wp2
            go_roundg g
            case rel => exact ⟨i + 1, _, by go_num, rfl, by omega, Lib.hid ⟨_, HQ6.out, HM0.out⟩, HS6, HN6, HF6⟩
            case measure => omega
          · go_wp2
            go_roundg g
            case rel => exact ⟨i + 1, u5, by go_num, rfl, by omega, Lib.hid ⟨_, hset0, HM0.out⟩, Lib.hid (by rw [HTD.out, if_neg (by omega), List.append_nil]; exact hso0), HN, Lib.hid hfr0⟩
            case measure => omega
end Go.Proofs.Ytlomeohcgjgpjaa
