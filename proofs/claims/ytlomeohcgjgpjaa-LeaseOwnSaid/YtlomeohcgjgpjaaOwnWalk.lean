/- The statement LeaseOwn's function returns true, whatever its arguments are. -/
import Derived.Test.YtlomeohcgjgpjaaDone
import Derived.Test.YtlomeohcgjgpjaaObs
namespace Go.Proofs.Ytlomeohcgjgpjaa
open Go Go.Proofs Go.RowKit
set_option maxRecDepth 100000

theorem stepR_err {R : List LV} {o : LOp} (h : (stepR R o).1.e ≠ 0) : (stepR R o).2 = R := by
  unfold stepR at h ⊢
  by_cases h0 : o.kind % 8 = 0
  · rw [if_pos h0] at h ⊢
    dsimp only at h ⊢
    rw [if_neg h]
  rw [if_neg h0] at h ⊢
  by_cases h1 : o.kind % 8 = 1
  · rw [if_pos h1] at h ⊢
    cases hg : getR R o.id with
    | none => rfl
    | some x => rw [hg] at h; exact absurd rfl h
  rw [if_neg h1] at h ⊢
  by_cases h2 : o.kind % 8 = 2
  · rw [if_pos h2] at h ⊢
    cases hg : getR R o.id with
    | none => rfl
    | some x => rw [hg] at h; exact absurd rfl h
  rw [if_neg h2] at h ⊢
  by_cases h3 : o.kind % 8 = 3 ∨ o.kind % 8 = 4
  · rw [if_pos h3] at h ⊢
    cases hg : getR R o.id with
    | none => rfl
    | some x => rw [hg] at h; exact absurd rfl h
  rw [if_neg h3] at h ⊢
  by_cases h5 : o.kind % 8 = 5
  · rw [if_pos h5] at h; exact absurd rfl h
  · rw [if_neg h5] at h; exact absurd rfl h
/-- A key of a list written over. -/
theorem Lst.spoil {B : Nat} {w : World} {v : Value} {P : List (LV × Value)} (h : Lst B w v P) (i : Nat) (x : LV) {g o c : Nat} (hx : P[i]? = some (x, .slice (some ⟨g, o, none⟩) x.keys.length c)) (j : Nat) (hj : j < x.keys.length) (s : ByteArray) :
    Lst B (w.setCell ⟨g, o + j, none⟩ (.string s)) v (P.set i (⟨x.id, x.ticks, x.left, x.keys.set j s⟩, .slice (some ⟨g, o, none⟩) x.keys.length c)) ∧ Fr (fun b => b = g) w (w.setCell ⟨g, o + j, none⟩ (.string s)) := by
  have hm := List.mem_of_getElem? hx
  have hi := (List.getElem?_eq_some_iff.1 hx).1
  obtain ⟨hk, hb⟩ := h.keys _ hm
  have hv : v.ownBlock ≠ some g := (hb g rfl).2
  have hfr : Fr (fun b => b = g) w (w.setCell ⟨g, o + j, none⟩ (.string s)) := (Fr.refl (fun b => b = g) w).setCell (p := ⟨g, o + j, none⟩) (.inl rfl) _
  have hap : ∀ (k : Nat) (y : LV × Value), P[k]? = some y → k ≠ i → y.2.ownBlock ≠ some g := by
    intro k y hy hki hyg
    have hk' := (List.getElem?_eq_some_iff.1 hy).1
    have hpw := List.pairwise_iff_getElem.1 h.apart
    have e1 : P[k] = y := (List.getElem?_eq_some_iff.1 hy).2
    have e2 : P[i] = _ := (List.getElem?_eq_some_iff.1 hx).2
    rcases Nat.lt_or_gt_of_ne hki with hlt | hgt
    · exact (hpw k i hk' hi hlt g (by rw [e1]; exact hyg)) (by rw [e2]; rfl)
    · exact (hpw i k hi hk' hgt g (by rw [e2]; rfl)) (by rw [e1]; exact hyg)
  have hset : ∀ p ∈ P.set i (⟨x.id, x.ticks, x.left, x.keys.set j s⟩, .slice (some ⟨g, o, none⟩) x.keys.length c), p = (⟨x.id, x.ticks, x.left, x.keys.set j s⟩, .slice (some ⟨g, o, none⟩) x.keys.length c) ∨ (p ∈ P ∧ p.2.ownBlock ≠ some g) := by
    intro p hp
    obtain ⟨k, hkl, hke⟩ := List.mem_iff_getElem.1 hp
    rw [List.getElem_set] at hke
    split at hke
    · exact .inl hke.symm
    · rename_i hne
      have hkl' : k < P.length := by simpa using hkl
      have hpk : P[k]? = some p := by rw [List.getElem?_eq_getElem hkl', hke]
      exact .inr ⟨List.mem_of_getElem? hpk, hap k p hpk (fun e => hne e.symm)⟩
  have hmap : (P.set i (⟨x.id, x.ticks, x.left, x.keys.set j s⟩, .slice (some ⟨g, o, none⟩) x.keys.length c)).map lvC = P.map lvC := by
    rw [List.map_set]
    refine List.ext_getElem? fun k => ?_
    rw [List.getElem?_set]
    split
    · rename_i e
      subst e
      rw [List.getElem?_map, hx]
      simp [hi, lvC]
    · rfl
  refine ⟨⟨?_, h.new, ?_, ?_⟩, hfr⟩
  · have h0 := h.sl.fr hfr fun k hk e => hv (by rw [hk, e])
    unfold SlF at h0 ⊢
    rw [List.length_set, List.flatMap_def, hmap, ← List.flatMap_def]
    exact h0
  · intro p hp
    rcases hset p hp with rfl | ⟨hpm, hpg⟩
    · refine ⟨?_, hb⟩
      have hjx : x.keys[j]? = some x.keys[j] := List.getElem?_eq_getElem hj
      have := hk.set strC_len j 0 (by omega) x.keys[j] s (.string s) hjx rfl
      simp only [Nat.mul_one, Nat.add_zero] at this
      dsimp only
      exact this
    · exact ⟨(h.keys p hpm).1.fr hfr fun k hk e => hpg (by rw [hk, e]), (h.keys p hpm).2⟩
  · rw [List.pairwise_iff_getElem]
    intro k1 k2 hk1 hk2 hlt b
    have hpw := List.pairwise_iff_getElem.1 h.apart
    have key : ∀ k (hk : k < (P.set i (⟨x.id, x.ticks, x.left, x.keys.set j s⟩, .slice (some ⟨g, o, none⟩) x.keys.length c)).length), ((P.set i (⟨x.id, x.ticks, x.left, x.keys.set j s⟩, .slice (some ⟨g, o, none⟩) x.keys.length c))[k]'hk).2 = (P[k]'(by simpa using hk)).2 := by
      intro k hk
      rw [List.getElem_set]
      split
      · rename_i e
        subst e
        rw [(List.getElem?_eq_some_iff.1 hx).2]
      · rfl
    rw [key k1 hk1, key k2 hk2]
    exact hpw k1 k2 (by simpa using hk1) (by simpa using hk2) hlt b
def Span (A B : Nat) (b : Nat) : Prop := A ≤ b ∧ b < B
/-- A list of the length n whose blocks lie in a span, amid writes into that span alone. -/
def Spoilt (A B : Nat) (w wr : World) (v : Value) (n : Nat) (P : List (LV × Value)) : Prop :=
  P.length = n ∧ Lst A wr v P ∧ (∀ p ∈ P, ∀ b, p.2.ownBlock = some b → b < B) ∧ Fr (Span A B) w wr
theorem Spoilt.drew {A B : Nat} {w wr : World} {v : Value} {n : Nat} {P : List (LV × Value)} (h : Spoilt A B w wr v n P) : Spoilt A B w wr.drew v n P :=
  ⟨h.1, h.2.1.fr0 (Fr.refl No wr).drew, h.2.2.1, h.2.2.2.drew⟩
theorem Spoilt.step {A B : Nat} {w wr : World} {v : Value} {n : Nat} {P : List (LV × Value)} (h : Spoilt A B w wr v n P) (i : Nat) (x : LV) {g o c : Nat} (hx : P[i]? = some (x, .slice (some ⟨g, o, none⟩) x.keys.length c)) (j : Nat) (hj : j < x.keys.length) (s : ByteArray) :
    Spoilt A B w (wr.setCell ⟨g, o + j, none⟩ (.string s)) v n (P.set i (⟨x.id, x.ticks, x.left, x.keys.set j s⟩, .slice (some ⟨g, o, none⟩) x.keys.length c)) := by
  obtain ⟨h1, h2, h3, h4⟩ := h
  have hm := List.mem_of_getElem? hx
  have hb := ((h2.keys _ hm).2 g rfl).1
  have hB := h3 _ hm g rfl
  obtain ⟨g1, g2⟩ := h2.spoil i x hx j hj s
  refine ⟨by rw [List.length_set, h1], g1, fun p hp b hb => ?_, h4.setCell (p := ⟨g, o + j, none⟩) (.inl ⟨hb, hB⟩) _⟩
  rcases List.mem_or_eq_of_mem_set hp with hp | rfl
  · exact h3 p hp b hb
  · have : b = g := by simpa [Value.ownBlock] using hb.symm
    rw [this]; exact hB
set_option maxHeartbeats 8000000 in
theorem leaseOwn_walk (w : World) (v : Value) (l : List LOp) (hv : SlR w 4 opC v l) (hok : OpsOk l) (o : LOp) (ho : OpW o) :
    Calls Try.prog 3 #[v, opV o] w fun e w' => e = .returned (.bool true) ∧ Fr No w w' := by
  obtain ⟨va, vc, rfl, _, _, _⟩ := hv.shape
  have hfb : Fr No w (w.alloc (.cells #[.int .i64 o.kind, .int .i64 o.id, .int .i64 o.n, .string o.key] 24)) := (Fr.refl No w).alloc _
  have hbb := alloc_at w (.cells #[.int .i64 o.kind, .int .i64 o.id, .int .i64 o.n, .string o.key] 24) w.heap.size rfl
  have hdn := done_calls (w.alloc (.cells #[.int .i64 o.kind, .int .i64 o.id, .int .i64 o.n, .string o.key] 24)) _ l (hv.fr0 hfb) hok
  have hs0 := hfb.size
  unfold opV
  clear hv
  go_enter Try.func3, Try.ntmps3
  go_upto_region 2 with (go_at_call 10; (with_reducible refine hdn.mono ?_); rintro e w2 ⟨t, F, rfl, hL2, hf2, hF2⟩)
  have hb2 := hf2.heap hbb fun h => h
  have hw2 := hfb.trans0 hf2
  have hFl := hL2.lt
  have hFw : ∀ b, F b → w.heap.size < b := fun b hb => by have := hF2 b hb; have h9 := heap_lt hbb; omega
  generalize doneR l = R at *
  generalize w.alloc (.cells #[.int .i64 o.kind, .int .i64 o.id, .int .i64 o.n, .string o.key] 24) = W1 at *
  clear hdn hfb hbb hf2 hF2 hs0
  have hli := list_at (by omega) hL2
  go_upto_region 3 with (go_at_call 11; (with_reducible refine hli.mono ?_); rintro e w3 ⟨a3, c3, rfl, H3⟩)
  obtain ⟨P3, hp3, hl3, hf3⟩ := H3.out
  have hb3 := hf3.heap hb2 fun h => h
  have hL3 := hL2.fr0 hf3
  have hw3 := hw2.trans0 hf3
  obtain ⟨x0, x1, x2, x3⟩ := cells4 hb3
  have lb3 := heap_lt hb3
  have hdo := do_at (by omega) hL3 o ho
  clear hli hL2 H3 hb2
  unfold opV at hdo
  go_upto_region 4 with (go_at_call 12; (with_reducible refine hdo.mono ?_); rintro e w4 ⟨a1, c1, a2, c2, rfl, HD⟩)
  obtain ⟨F4, hL4, hf4, hF4, _⟩ := HD.out.2
  have hl4 := hl3.fr hf4 (fun b hb h => by have := hl3.new b hb; have := hFl b h; omega) (fun p hp b hb h => by have := ((hl3.keys p hp).2 b hb).1; have := hFl b h; omega)
  have hw4 := frn hw3 hf4 fun b hb => Nat.le_of_lt (hFw b hb)
  have hsame : (stepR R o).1.e ≠ 0 → (stepR R o).2 = R := stepR_err
  have hFw4 : ∀ b, F4 b → w.heap.size ≤ b := fun b hb => (hF4 b hb).elim (fun h => Nat.le_of_lt (hFw b h)) fun h => by have := hw3.size; omega
  clear HD hdo hf4 hF4 x0 x1 x2 x3 hb3 lb3 hl3 hL3 hf3 hFl hFw hw3 hw2
  generalize (stepR R o).2 = R' at *
  generalize (stepR R o).1.e = er at *
  generalize (stepR R o).1.n = em at *
  generalize (stepR R o).1.keys.length = n1 at *
  generalize (stepR R o).1.told.length = n2 at *
  have HS4 := Lib.hid hsame
  have HL4 := Lib.hid hL4
  have HW4 := Lib.hid hw4
  have HK4 := Lib.hid hl4
  have HP3 := Lib.hid hp3
  have HF4 := Lib.hid hFw4
  clear hsame hL4 hw4 hl4 hp3 hFw4
  go_cut [35] (fun s35 wx => s35 = .bool false ∧ Hid (Fr No w4 wx))
  case first =>
    by_cases her : er = 0
    · go_wp2
      go_meet
      case rel => exact ⟨rfl, Lib.hid (Fr.refl No w4)⟩
    · have hli := list_at (by omega) HL4.out
      go_wp2_with (first
        | (go_at_call 11; (with_reducible refine hli.mono ?_); rintro e w5 ⟨a5, c5, rfl, H5⟩
           obtain ⟨P5, hp5, hl5, hf5⟩ := H5.out
           have HC := Lib.hid (same_at (HK4.out.fr0 hf5) hl5 HP3.out (by rw [hp5, HS4.out her])))
        | (go_at_call 13; (with_reducible refine HC.out.mono ?_); rintro e w6 ⟨rfl, hf6⟩))
      go_meet
      case rel => exact ⟨rfl, Lib.hid (hf5.trans0 hf6)⟩
  case rest =>
    obtain ⟨rfl, HX⟩ := hcut
    have hL := HL4.out.fr0 HX.out
    have hwx := HW4.out.trans0 HX.out
    clear hok ho HS4 HK4 HP3 HX
    have hli := list_at (by omega) hL
    go_upto_region 7 with (go_at_call 11; (with_reducible refine hli.mono ?_); rintro e w5 ⟨a5, c5, rfl, H5⟩)
    obtain ⟨P5, hp5, hl5, hf5⟩ := H5.out
    have hL5 := hL.fr0 hf5
    have hw5 := hwx.trans0 hf5
    have hFx := hL.lt
    have hsx := hwx.size
    clear hli H5 hL
    have hli := list_at (by omega) hL5
    go_upto_region 8 with (go_at_call 11; (with_reducible refine hli.mono ?_); rintro e w6 ⟨a6, c6, rfl, H6⟩)
    obtain ⟨P6, hp6, hl6, hf6⟩ := H6.out
    have hlt5 : ∀ b, (Value.slice a5 R'.length c5).ownBlock = some b → b < w5.heap.size := hl5.sl.lt
    have hks5 : ∀ p ∈ P5, ∀ b, p.2.ownBlock = some b → b < w5.heap.size := fun p hp b hb => (hl5.keys p hp).1.lt b hb
    have hl5 := hl5.fr0 hf6
    have hL6 := hL5.fr0 hf6
    have hw6 := hw5.trans0 hf6
    have hn5 : P5.length = R'.length := by rw [← hp5, List.length_map]
    have hsh := hl5.sl.shape
    obtain ⟨a5', c5', hve, hc5, hc5m, hp5a⟩ := hsh
    have e1 : a5 = a5' := by simp only [Value.slice.injEq] at hve; exact hve.1
    have e2 : c5 = c5' := by simp only [Value.slice.injEq] at hve; exact hve.2.2
    subst e1 e2
    rw [hn5] at hc5 hp5a
    unfold maxLen at hc5m
    have hsp : Spoilt wc.heap.size w5.heap.size w6 w6 (.slice a5 R'.length c5) R'.length P5 := ⟨hn5, hl5, hks5, Fr.refl _ _⟩
    have HSP := Lib.hid hsp
    have HL6 := Lib.hid hL6
    have HW6 := Lib.hid hw6
    have HL6b := Lib.hid hl6
    have HP6 := Lib.hid hp6
    have HFX := Lib.hid hFx
    have HPA := Lib.hid hp5a
    have hf5s := hf5.size
    clear hli H6 hL5 hf5 hw5 hf6 hp5 hl5 hks5 hlt5 hw6 hL6 hl6 hp6 hFx hsp hp5a hn5 hve hwx
    go_upto_region 9 with fail
    go_loopg [13] R'.length (fun g s13 wr => ∃ (i : Nat) (P : List (LV × Value)), s13 = .int .i64 i ∧ i + g = R'.length ∧ Hid (Spoilt wc.heap.size w5.heap.size w6 wr (.slice a5 R'.length c5) R'.length P))
    case atStart => exact ⟨0, P5, rfl, by omega, HSP⟩
    case round =>
      obtain ⟨i, P, rfl, hi, HS⟩ := hrel
      cases gk with
      | zero =>
        have hil : ¬ (i : Int) < (R'.length : Int) := by omega
        obtain ⟨_, _, _, hfS⟩ := HS.out
        have hLr := HL6.out.fr hfS fun b hb h => by have := HFX.out b hb; unfold Span at h; omega
        have hlr := HL6b.out.fr hfS (fun b hb h => by have := HL6b.out.new b hb; unfold Span at h; omega) fun p hp b hb h => by have := ((HL6b.out.keys p hp).2 b hb).1; unfold Span at h; omega
        have hwr : Fr No w wr := HW6.out.trans hfS fun b hb h => by unfold Span at h; omega
        have hli := list_at (by omega) hLr
        have hpp := HP6.out
        clear hLr hfS HS HL6 HL6b HW6 HFX HP6 HPA HSP
        go_wp2_with (first
          | (go_at_call 11; (with_reducible refine hli.mono ?_); rintro e w7 ⟨a7, c7, rfl, H7⟩
             obtain ⟨P7, hp7, hl7, hf7⟩ := H7.out
             have HC := Lib.hid (same_at (hlr.fr0 hf7) hl7 hpp hp7))
          | (go_at_call 13; (with_reducible refine HC.out.mono ?_); rintro e w8 ⟨rfl, hf8⟩)
          | (go_at_call 14; (with_reducible refine (awake_calls _).mono ?_); rintro e w9 ⟨rfl, hf9⟩))
        go_ret
        exact ⟨rfl, ((hwr.trans0 hf7).trans0 hf8).trans0 hf9⟩
      | succ g =>
        have hil : (i : Int) < (R'.length : Int) := by omega
        have hn := HS.out.1
        obtain ⟨x, hx⟩ : ∃ x, P[i]? = some x := ⟨_, List.getElem?_eq_getElem (by omega)⟩
        obtain ⟨ga, oa, rfl⟩ := HPA.out (by omega)
        obtain ⟨x, xv⟩ := x
        have hks := (HS.out.2.1.keys _ (List.mem_of_getElem? hx)).1
        dsimp only at hks
        obtain ⟨xa, xc, rfl, hxc, hxm, hxa⟩ := hks.shape
        obtain ⟨K, hK⟩ : ∃ K, x.keys.length = K := ⟨_, rfl⟩
        unfold maxLen at hxm
        rw [hK] at hx hxc hxa
        have HXA := Lib.hid hxa
        have HX0 : Hid (P[i]? = some (x, .slice xa K xc) ∧ x.keys.length = K) := Lib.hid ⟨hx, hK⟩
        clear hx hks hn hK hxa
        go_upto_region 12 with fail
        go_loopg [14] K (fun gg s14 wq => ∃ (j : Nat) (P' : List (LV × Value)) (x' : LV), s14 = .int .i64 j ∧ j + gg = K ∧ Hid (Spoilt wc.heap.size w5.heap.size w6 wq (.slice (some ⟨ga, oa, none⟩) R'.length c5) R'.length P') ∧ Hid (P'[i]? = some (x', .slice xa K xc) ∧ x'.keys.length = K))
        case atStart => exact ⟨0, P, x, rfl, by omega, HS, HX0⟩
        case round =>
          obtain ⟨j, P', x', rfl, hj, HS', HX'⟩ := hrel
          obtain ⟨hx', hk'⟩ := HX'.out
          have hlst := HS'.out.2.1
          have hsl := hlst.sl
          rw [← HS'.out.1] at hsl
          obtain ⟨f0, f1, f2, f3⟩ := hsl.cells4 lvC_length i hx' rfl
          have hks := (hlst.keys _ (List.mem_of_getElem? hx')).1
          dsimp only at hks f3
          cases gk with
          | zero =>
            have hjl : ¬ (j : Int) < (K : Int) := by omega
            clear hx' hk' hlst hsl hks
            go_wp2
            go_roundg g
            case rel => exact ⟨i + 1, P', by go_num, by omega, HS'⟩
            case measure => omega
          | succ g2 =>
            have hjl : (j : Int) < (K : Int) := by omega
            obtain ⟨gx, ox, rfl⟩ := HXA.out (by omega)
            obtain ⟨y, hy⟩ : ∃ y, x'.keys[j]? = some y := ⟨_, List.getElem?_eq_getElem (by omega)⟩
            rw [← hk'] at hks
            have q0 := hks.cell0 strC_len j hy rfl
            simp only [Nat.mul_one] at q0
            have hfz := hks.free (ox + j)
            have hst := HS'.out.step i x' (g := gx) (o := ox) (c := xc) (by rw [hk']; exact hx') j (by omega) ⟨#[115, 112, 111, 105, 108, 116]⟩
            have hst2 : (P'.set i (⟨x'.id, x'.ticks, x'.left, x'.keys.set j ⟨#[115, 112, 111, 105, 108, 116]⟩⟩, .slice (some ⟨gx, ox, none⟩) x'.keys.length xc))[i]? = some (⟨x'.id, x'.ticks, x'.left, x'.keys.set j ⟨#[115, 112, 111, 105, 108, 116]⟩⟩, .slice (some ⟨gx, ox, none⟩) K xc) := by
              rw [List.getElem?_set_self (List.getElem?_eq_some_iff.1 hx').1, hk']
            have HST := Lib.hid hst
            have HST2 := Lib.hid (And.intro hst2 (show (x'.keys.set j ⟨#[115, 112, 111, 105, 108, 116]⟩).length = K by rw [List.length_set, hk']))
            clear hx' hk' hlst hsl hks hy hst hst2
            go_wp2
            go_roundg g2
            case rel => exact ⟨j + 1, _, _, by go_num, by omega, HST, HST2⟩
            case measure => omega
end Go.Proofs.Ytlomeohcgjgpjaa
