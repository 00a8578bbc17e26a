/- The document's table in memory (chanceryref14): its at, Get, Of and Over answer as the document's table does. -/
import Derived.Test.YtlomeohcgjgpjaaRfL
namespace Go.Proofs.Ytlomeohcgjgpjaa
open Go Go.Proofs Go.RowKit
set_option maxRecDepth 100000

/-- The document's table in memory: the leases P, whose blocks are told by G. -/
structure Rf (w : World) (t : Nat) (v : Value) (P : List (LV × Value)) (G : Nat → Prop) : Prop where
  tab : w.heap[t]? = some (.cells #[v] 55 (0, 0))
  sl : SlF w 57 4 lvC v P
  own : G t ∧ v.ownBlock ≠ some t ∧ ∀ b, v.ownBlock = some b → G b
  keys : ∀ p ∈ P, SlF w 9 1 strC p.2 p.1.keys ∧ ∀ b, p.2.ownBlock = some b → G b ∧ b ≠ t ∧ v.ownBlock ≠ some b
  lt : ∀ b, G b → b < w.heap.size
theorem Rf.fr {w w' : World} {t : Nat} {v : Value} {P : List (LV × Value)} {G S : Nat → Prop} (h : Rf w t v P G) (hf : Fr S w w') (hS : ∀ b, G b → ¬ S b) : Rf w' t v P G :=
  ⟨hf.heap h.tab (hS t h.own.1), h.sl.fr hf fun b hb => hS b (h.own.2.2 b hb), h.own, fun p hp => ⟨(h.keys p hp).1.fr hf fun b hb => hS b ((h.keys p hp).2 b hb).1, (h.keys p hp).2⟩, fun b hb => Nat.lt_of_lt_of_le (h.lt b hb) hf.size⟩
theorem Rf.fr0 {w w' : World} {t : Nat} {v : Value} {P : List (LV × Value)} {G : Nat → Prop} (h : Rf w t v P G) (hf : Fr No w w') : Rf w' t v P G := h.fr hf fun _ _ h => h
theorem Rf.cell {w : World} {t : Nat} {v : Value} {P : List (LV × Value)} {G : Nat → Prop} (h : Rf w t v P G) : w.cell? ⟨t, 0, none⟩ = some v := cellAt h.tab 0 rfl
/-- A lease's place; -1 where there is none. -/
def idxR (R : List LV) (id : Int) : Int := match R.findIdx? fun x => x.id == id with
  | some i => i
  | none => -1
theorem idx_hit {R : List LV} {id : Int} {i : Nat} {x : LV} (hx : R[i]? = some x) (he : x.id = id) (hn : ∀ j, j < i → ∀ y, R[j]? = some y → y.id ≠ id) : R.findIdx? (fun x => x.id == id) = some i := by
  obtain ⟨hi, rfl⟩ := List.getElem?_eq_some_iff.1 hx
  rw [List.findIdx?_eq_some_iff_getElem]
  exact ⟨hi, by simpa using he, fun j hj => by simpa using hn j hj _ (List.getElem?_eq_getElem (by omega))⟩
theorem idx_miss {R : List LV} {id : Int} (hn : ∀ j, j < R.length → ∀ y, R[j]? = some y → y.id ≠ id) : R.findIdx? (fun x => x.id == id) = none := by
  rw [List.findIdx?_eq_none_iff]
  intro x hx
  obtain ⟨j, hj, rfl⟩ := List.getElem_of_mem hx
  simpa using hn j hj _ (List.getElem?_eq_getElem hj)
theorem idx_some {R : List LV} {id : Int} {i : Nat} (h : R.findIdx? (fun x => x.id == id) = some i) : ∃ x, R[i]? = some x ∧ x.id = id ∧ getR R id = some x := by
  have h0 := h
  rw [List.findIdx?_eq_some_iff_getElem] at h
  obtain ⟨hi, he, hn⟩ := h
  refine ⟨R[i], List.getElem?_eq_getElem hi, by simpa using he, ?_⟩
  unfold getR
  rw [List.find?_eq_some_iff_getElem]
  exact ⟨he, i, hi, rfl, fun j hj => by simpa using hn j hj⟩
theorem idx_none {R : List LV} {id : Int} (h : R.findIdx? (fun x => x.id == id) = none) : getR R id = none := by
  rw [List.findIdx?_eq_none_iff] at h
  unfold getR
  rw [List.find?_eq_none]
  intro x hx
  simpa using h x hx
theorem info57 : (Try.prog.info? 57).map (fun i => (i.zero, i.size, i.bytes)) = some (some (.agg #[.int .i64 0, .int .i64 0, .int .i64 0, .slice none 0 0]), 4, 48) := by kernel_rfl
set_option maxHeartbeats 1000000 in
theorem at_calls {w : World} {t : Nat} {v : Value} {P : List (LV × Value)} {G : Nat → Prop} (h : Rf w t v P G) (hlen : P.length ≤ 100000) (id : Int) :
    Calls Try.prog 45 #[.pointer (some ⟨t, 0, none⟩), .int .i64 id] w fun e w' => e = .returned (.int .i64 (idxR (P.map (·.1)) id)) ∧ w = w' := by
  obtain ⟨a, cap, rfl, h1, h2, h3⟩ := h.sl.shape
  have ht := h.cell
  have H := Lib.hid h
  have H3 := Lib.hid h3
  unfold maxLen at h2
  clear h h3
  go_enter Try.func45, Try.ntmps45
  go_upto_region 2 with fail
  go_loopg [5] P.length (fun g s5 wr => ∃ i : Nat, s5 = .int .i64 i ∧ i + g = P.length ∧ Hid (∀ j, j < i → ∀ y, (P.map (·.1))[j]? = some y → y.id ≠ id) ∧ Hid (w = wr))
  case atStart => exact ⟨0, rfl, by omega, Lib.hid (by omega), Lib.hid rfl⟩
  case round =>
    obtain ⟨i, rfl, hi, HN, HW⟩ := hrel
    obtain rfl := HW.out
    cases gk with
    | zero =>
      have hil : ¬ (i : Int) < (P.length : Int) := by omega
      go_wp2
      go_ret
      refine ⟨?_, rfl⟩
      have hm : (P.map (·.1)).findIdx? (fun x => x.id == id) = none := idx_miss fun j hj => HN.out j (by rw [List.length_map] at hj; omega)
      unfold idxR
      rw [hm]
      rfl
    | succ g =>
      have hil : (i : Int) < (P.length : Int) := by omega
      obtain ⟨x, hx⟩ : ∃ x, P[i]? = some x := ⟨_, List.getElem?_eq_getElem (by omega)⟩
      obtain ⟨ga, oa, rfl⟩ := H3.out (by omega)
      obtain ⟨f0, f1, f2, f3⟩ := H.out.sl.cells4 lvC_length i hx rfl
      have lf := World.block_lt_of_cell? _ _ f0
      have hxm : (P.map (·.1))[i]? = some x.1 := by rw [List.getElem?_map, hx]; rfl
      have HXM := Lib.hid hxm
      clear hx hxm f1 f2 f3
      by_cases he : x.1.id = id
      · go_wp2
        go_ret
        refine ⟨?_, rfl⟩
        have hm := idx_hit HXM.out he HN.out
        unfold idxR
        rw [hm]
        rfl
      · go_wp2
        go_roundg g
        case rel =>
          refine ⟨i + 1, by go_num, by omega, Lib.hid fun j hj y hy => ?_, Lib.hid rfl⟩
          by_cases e : j = i
          · subst e
            rw [HXM.out] at hy
            cases hy
            exact he
          · exact HN.out j (by omega) y hy
        case measure => omega
theorem lv57_stored {w X : World} {b : Nat} {a0 a1 a2 a3 : Value} (hk : X.heap[b]? = some (.cells #[a0, a1, a2, a3] 57 (0, 0))) (i t l : Int) (kv : Value) :
    ∃ Z, ((((X.setCell ⟨b, 0, none⟩ (.int .i64 i)).setCell ⟨b, 1, none⟩ (.int .i64 t)).setCell ⟨b, 2, none⟩ (.int .i64 l)).setCell ⟨b, 3, none⟩ kv) = Z ∧ Z.heap[b]? = some (.cells #[.int .i64 i, .int .i64 t, .int .i64 l, kv] 57 (0, 0)) ∧
      (Fr No w X → w.heap.size ≤ b → Fr No w Z) := by
  have z0 := heap_setCell_same hk 0 (.int .i64 i)
  have z1 := heap_setCell_same z0 1 (.int .i64 t)
  have z2 := heap_setCell_same z1 2 (.int .i64 l)
  have z3 := heap_setCell_same z2 3 kv
  exact ⟨_, rfl, by rw [z3]; simp, fun hf hb => (((hf.setCell (p := ⟨b, 0, none⟩) (.inr hb) _).setCell (p := ⟨b, 1, none⟩) (.inr hb) _).setCell (p := ⟨b, 2, none⟩) (.inr hb) _).setCell (p := ⟨b, 3, none⟩) (.inr hb) _⟩
/-- What the document's Get answers. -/
def rgetV (P : List (LV × Value)) (id : Int) (e : Ending) : Prop := match getR (P.map (·.1)) id with
  | some x => ∃ p ∈ P, p.1 = x ∧ e = .returned (.tuple #[lvV x p.2, .int .i64 0])
  | none => e = .returned (.tuple #[lvV ⟨0, 0, 0, []⟩ (.slice none 0 0), .int .i64 35])
set_option maxHeartbeats 2000000 in
theorem rget_calls {w : World} {t : Nat} {v : Value} {P : List (LV × Value)} {G : Nat → Prop} (h : Rf w t v P G) (hlen : P.length ≤ 100000) (id : Int) :
    Calls Try.prog 24 #[.pointer (some ⟨t, 0, none⟩), .int .i64 id] w fun e w' => rgetV P id e ∧ Fr No w w' := by
  have hfa : Fr No w (w.alloc (.cells #[.int .i64 0, .int .i64 0, .int .i64 0, .slice none 0 0] 57)) := (Fr.refl No w).alloc _
  have hra : (w.alloc (.cells #[.int .i64 0, .int .i64 0, .int .i64 0, .slice none 0 0] 57)).heap[w.heap.size]? = some (.cells #[.int .i64 0, .int .i64 0, .int .i64 0, .slice none 0 0] 57 (0, 0)) := alloc_at _ _ _ rfl
  have hat := at_calls (h.fr0 hfa) hlen id
  unfold idxR at hat
  unfold rgetV
  cases hm : (P.map (·.1)).findIdx? fun x => x.id == id with
  | none =>
    rw [hm] at hat
    rw [idx_none hm]
    have HAT := Lib.hid hat
    clear h hat hm
    dsimp only at HAT ⊢
    go_enter Try.func24, Try.ntmps24
    go_wp2_with (go_at_call 45; (with_reducible refine HAT.out.mono ?_); rintro e w' ⟨rfl, rfl⟩)
    obtain ⟨z0, z1, z2, z3⟩ := cells4 hra
    have lz := heap_lt hra
    clear hra HAT
    generalize w.alloc (.cells #[.int .i64 0, .int .i64 0, .int .i64 0, .slice none 0 0] 57) = Z at *
    exact bodyPost_ret (v := .tuple #[lvV ⟨0, 0, 0, []⟩ (.slice none 0 0), .int .i64 35]) (w := Z) (by rw [results_cell_tmp rfl]; go_simp; rfl) rfl ⟨rfl, hfa⟩
  | some i =>
    rw [hm] at hat
    obtain ⟨x, hx, he, hg⟩ := idx_some hm
    rw [hg]
    have hil : i < P.length := by have := (List.getElem?_eq_some_iff.1 hx).1; simpa using this
    obtain ⟨p, hp⟩ : ∃ p, P[i]? = some p := ⟨_, List.getElem?_eq_getElem hil⟩
    have hpx : p.1 = x := by rw [List.getElem?_map, hp] at hx; simpa using hx
    subst hpx
    have hpm := List.mem_of_getElem? hp
    obtain ⟨a, cap, rfl, h1, h2, h3⟩ := h.sl.shape
    obtain ⟨ga, oa, rfl⟩ := h3 (by omega)
    have hc := (h.fr0 hfa).cell
    obtain ⟨f0, f1, f2, f3⟩ := (h.sl.fr0 hfa).cells4 lvC_length i hp rfl
    have lf := World.block_lt_of_cell? _ _ f0
    obtain ⟨ka, kc, hkv, _, _, _⟩ := (h.keys _ hpm).1.shape
    have HAT := Lib.hid hat
    have HPM := Lib.hid hpm
    have hili : (i : Int) < (P.length : Int) := by omega
    have hw0 : 0 ≤ (i : Int) := by omega
    unfold maxLen at h2
    have hlt : t < (w.alloc (.cells #[.int .i64 0, .int .i64 0, .int .i64 0, .slice none 0 0] 57)).heap.size := World.block_lt_of_cell? _ _ hc
    have HH := Lib.hid h
    clear h hat hm hx hg hp hpm h3 he
    obtain ⟨⟨xi, xt, xl, xk⟩, xv⟩ := p
    dsimp only at *
    subst hkv
    generalize xk.length = xn at *
    have hs0 : w.heap.size = w.heap.size := rfl
    have HFA := Lib.hid hfa
    have HRA := Lib.hid hra
    have hll : w.heap.size < (w.alloc (.cells #[.int .i64 0, .int .i64 0, .int .i64 0, .slice none 0 0] 57)).heap.size := heap_lt hra
    clear hfa hra
    go_enter Try.func24, Try.ntmps24
    go_upto_region 1 with fail
    generalize w.alloc (.cells #[.int .i64 0, .int .i64 0, .int .i64 0, .slice none 0 0] 57) = W at *
    obtain ⟨z0, z1, z2, z3⟩ := cells4 HRA.out
    have zf : ∀ i, W.frozen? ⟨w.heap.size, i, none⟩ = false := fun i => by simp [World.frozen?, HRA.out]
    obtain ⟨Z, hZ, z4, hfz⟩ := lv57_stored (w := w) HRA.out xi xt xl (.slice ka xn kc)
    have hfin := hfz HFA.out (Nat.le_refl _)
    obtain ⟨y0, y1, y2, y3⟩ := cells4 z4
    have lZ := heap_lt z4
    have HFIN := Lib.hid hfin
    have HZ := Lib.hid hZ
    clear hfz hfin hZ z4
    go_wp2_with (go_at_call 45; (with_reducible refine HAT.out.mono ?_); rintro e w' ⟨rfl, rfl⟩)
    rw [HZ.out]
    exact bodyPost_ret (v := .tuple #[lvV ⟨xi, xt, xl, xk⟩ (.slice ka xn kc), .int .i64 0]) (w := Z) (by rw [results_cell_tmp rfl]; go_simp; rfl) rfl ⟨⟨_, HPM.out, rfl, rfl⟩, HFIN.out⟩
theorem find_hit {R : List LV} {p : LV → Bool} {i : Nat} {x : LV} (hx : R[i]? = some x) (he : p x = true) (hn : ∀ j, j < i → ∀ y, R[j]? = some y → p y = false) : R.find? p = some x := by
  obtain ⟨hi, rfl⟩ := List.getElem?_eq_some_iff.1 hx
  rw [List.find?_eq_some_iff_getElem]
  exact ⟨he, i, hi, rfl, fun j hj => by simpa using hn j hj _ (List.getElem?_eq_getElem (by omega))⟩
theorem find_miss {R : List LV} {p : LV → Bool} (hn : ∀ j, j < R.length → ∀ y, R[j]? = some y → p y = false) : R.find? p = none := by
  rw [List.find?_eq_none]
  intro x hx
  obtain ⟨j, hj, rfl⟩ := List.getElem_of_mem hx
  simpa using hn j hj _ (List.getElem?_eq_getElem hj)
theorem hasKey_of {x : LV} {key : ByteArray} {k : Nat} {y : ByteArray} (hy : x.keys[k]? = some y) (he : keq y key = true) : hasKey key x = true := by
  unfold hasKey
  rw [List.any_eq_true]
  exact ⟨y, List.mem_of_getElem? hy, he⟩
theorem hasKey_not {x : LV} {key : ByteArray} (hn : ∀ j, j < x.keys.length → ∀ y, x.keys[j]? = some y → keq y key = false) : hasKey key x = false := by
  unfold hasKey
  rw [List.any_eq_false]
  intro y hy
  obtain ⟨j, hj, rfl⟩ := List.getElem_of_mem hy
  simpa using hn j hj _ (List.getElem?_eq_getElem hj)
set_option maxHeartbeats 2000000 in
theorem rof_calls {w : World} {t : Nat} {v : Value} {P : List (LV × Value)} {G : Nat → Prop} (h : Rf w t v P G) (hlen : P.length ≤ 100000) (hkl : ∀ p ∈ P, p.1.keys.length ≤ 100000) (key : ByteArray) :
    Calls Try.prog 26 #[.pointer (some ⟨t, 0, none⟩), .string key] w fun e w' => e = .returned (.int .i64 (ofR (P.map (·.1)) key)) ∧ w = w' := by
  obtain ⟨a, cap, rfl, h1, h2, h3⟩ := h.sl.shape
  have ht := h.cell
  have H := Lib.hid h
  have H3 := Lib.hid h3
  have HKL := Lib.hid hkl
  unfold maxLen at h2
  clear h h3 hkl
  go_enter Try.func26, Try.ntmps26
  go_upto_region 2 with fail
  go_loopg [5] P.length (fun g s5 wr => ∃ i : Nat, s5 = .int .i64 i ∧ i + g = P.length ∧ Hid (∀ j, j < i → ∀ y, (P.map (·.1))[j]? = some y → hasKey key y = false) ∧ Hid (w = wr))
  case atStart => exact ⟨0, rfl, by omega, Lib.hid (by omega), Lib.hid rfl⟩
  case round =>
    obtain ⟨i, rfl, hi, HN, HW⟩ := hrel
    obtain rfl := HW.out
    cases gk with
    | zero =>
      have hil : ¬ (i : Int) < (P.length : Int) := by omega
      go_wp2
      go_ret
      refine ⟨?_, rfl⟩
      unfold ofR
      rw [find_miss fun j hj => HN.out j (by rw [List.length_map] at hj; omega)]
      rfl
    | succ g =>
      have hil : (i : Int) < (P.length : Int) := by omega
      obtain ⟨x, hx⟩ : ∃ x, P[i]? = some x := ⟨_, List.getElem?_eq_getElem (by omega)⟩
      obtain ⟨ga, oa, rfl⟩ := H3.out (by omega)
      obtain ⟨f0, f1, f2, f3⟩ := H.out.sl.cells4 lvC_length i hx rfl
      have lf := World.block_lt_of_cell? _ _ f0
      have hxm : (P.map (·.1))[i]? = some x.1 := by rw [List.getElem?_map, hx]; rfl
      have HXM := Lib.hid hxm
      have hks := (H.out.keys x (List.mem_of_getElem? hx)).1
      have hkn := HKL.out x (List.mem_of_getElem? hx)
      obtain ⟨ka, kc, hkv, k1, k2, k3⟩ := hks.shape
      rw [hkv] at f3 hks
      have HKS := Lib.hid hks
      have HK3 := Lib.hid k3
      unfold maxLen at k2
      have hwi : 0 ≤ (i : Int) := by omega
      clear hx f1 f2 hxm hks k3 hkv
      go_upto_region 5 with fail
      go_loopg [6] x.1.keys.length (fun g s6 wr => ∃ k : Nat, s6 = .int .i64 k ∧ k + g = x.1.keys.length ∧ Hid (∀ j, j < k → ∀ y, x.1.keys[j]? = some y → keq y key = false) ∧ Hid (w = wr))
      case atStart => exact ⟨0, rfl, by omega, Lib.hid (by omega), Lib.hid rfl⟩
      case round =>
        obtain ⟨k, rfl, hk, HM, HW⟩ := hrel
        obtain rfl := HW.out
        cases gk with
        | zero =>
          have hkl : ¬ (k : Int) < (x.1.keys.length : Int) := by omega
          go_wp2
          go_roundg g
          case rel =>
            refine ⟨i + 1, by go_num, by omega, Lib.hid fun j hj y hy => ?_, Lib.hid rfl⟩
            by_cases e : j = i
            · subst e
              rw [HXM.out] at hy
              cases hy
              exact hasKey_not fun j hj => HM.out j (by omega)
            · exact HN.out j (by omega) y hy
          case measure => omega
        | succ g2 =>
          have hkl : (k : Int) < (x.1.keys.length : Int) := by omega
          obtain ⟨y, hy⟩ : ∃ y, x.1.keys[k]? = some y := ⟨_, List.getElem?_eq_getElem (by omega)⟩
          obtain ⟨gb, ob, rfl⟩ := HK3.out (by omega)
          have q0 := HKS.out.cell1 strC_len k hy rfl
          have lq := World.block_lt_of_cell? _ _ q0
          have HY := Lib.hid hy
          clear hy
          cases he : keq y key with
          | true =>
            have he' : (y.toList == key.toList) = true := he
            have HE := Lib.hid he
            clear he
            go_wp2
            go_ret
            refine ⟨?_, rfl⟩
            unfold ofR
            rw [find_hit HXM.out (hasKey_of HY.out HE.out) HN.out]
            rfl
          | false =>
            have he' : (y.toList == key.toList) = false := he
            have HE := Lib.hid he
            clear he
            go_wp2
            go_roundg g2
            case rel =>
              refine ⟨k + 1, by go_num, by omega, Lib.hid fun j hj z hz => ?_, Lib.hid rfl⟩
              by_cases e : j = k
              · subst e
                rw [HY.out] at hz
                cases hz
                exact HE.out
              · exact HM.out j (by omega) z hz
            case measure => omega
set_option maxHeartbeats 4000000 in
theorem rover_calls {w : World} {t : Nat} {v : Value} {P : List (LV × Value)} {G : Nat → Prop} (h : Rf w t v P G) (hlen : P.length ≤ 100000) :
    Calls Try.prog 27 #[.pointer (some ⟨t, 0, none⟩)] w fun e w' => Nums w w' (overR (P.map (·.1))) e := by
  obtain ⟨a, cap, rfl, h1, h2, h3⟩ := h.sl.shape
  have H := Lib.hid h
  have H3 := Lib.hid h3
  unfold maxLen at h2
  clear h h3
  obtain ⟨i0, hi0, hz0, hz1, hz2⟩ := info_parts info3
  go_enter Try.func27, Try.ntmps27
  go_upto_region 3 with fail
  go_loopg [3, 4] P.length (fun g s3 s4 wr => ∃ (i : Nat) (v : Value), s4 = .int .i64 i ∧ s3 = v ∧ i + g = P.length ∧ Hid (SlF wr 3 1 int1 v (overR ((P.map (·.1)).take i))) ∧ Hid (∀ b, v.ownBlock = some b → w.heap.size ≤ b) ∧ Hid (Fr No w wr))
  case atStart => exact ⟨0, _, rfl, rfl, by simp, Lib.hid (SlF.nil _ _ _ _), Lib.hid (by simp [Value.ownBlock]), Lib.hid (Fr.refl _ _)⟩
  case round =>
    obtain ⟨i, v, rfl, rfl, hi, HS, HN, HF⟩ := hrel
    have ht := (H.out.fr0 HF.out).cell
    have lt := World.block_lt_of_cell? _ _ ht
    cases gk with
    | zero =>
      have hil : ¬ (i : Int) < (P.length : Int) := by omega
      go_wp2
      go_ret
      have hs := HS.out
      rw [List.take_of_length_le (by rw [List.length_map]; omega)] at hs
      exact ⟨_, rfl, hs, HN.out, HF.out⟩
    | succ g =>
      obtain ⟨gb, go, rfl⟩ := H3.out (by omega)
      obtain ⟨⟨x, kv⟩, hx⟩ : ∃ p, P[i]? = some p := ⟨_, List.getElem?_eq_getElem (by omega)⟩
      have hRx : (P.map (·.1))[i]? = some x := by rw [List.getElem?_map, hx]; rfl
      have hstep := over_step hRx
      have hsl := H.out.sl.fr0 HF.out
      obtain ⟨c0, c1, c2, c3⟩ := hsl.cells4 lvC_length i hx rfl
      have lgb := hsl.lt gb rfl
      have hil : (i : Int) < (P.length : Int) := by omega
      have hol : (overR ((P.map (·.1)).take i)).length ≤ 100000 := by
        unfold overR
        rw [List.length_map]
        have := List.length_filter_le (fun x : LV => x.left == 0) ((P.map (·.1)).take i)
        rw [List.length_take] at this
        omega
      have HST := Lib.hid hstep
      have hwi : 0 ≤ (i : Int) := by omega
      dsimp only at c0 c2
      clear hx hRx hstep hsl c1 c3
      by_cases h0 : x.left = 0
      · have hb0 : (x.left == 0) = true := by simpa using h0
        have HSW := Lib.hid HS.out
        have hnew := cells_new wr [.int .i64 x.id] 3 (0, 0)
        go_wp2_with (at_builtin; go_loud (refine wpList_append_f rfl _ _ 31 rfl 3 i0 _ 1 8 Try.underlying31 hi0 hz0 hz1 hz2 rfl (by decide) _ (overR ((P.map (·.1)).take i)) rfl (HSW.out.alloc _) wr.heap.size 1 x.id rfl hnew rfl ?c1 ?c2 ?c3 ?_))
        case c1 => intro u hu; simp [int1] at hu; subst hu; rfl
        case c2 => unfold maxLen; omega
        case c3 => omega
        intro g7 o7 cap7 w6 hs6 hg6 hb6 hlt6
        have hf6 : Fr (fun b => u3.ownBlock = some b) wr w6 := ((Fr.refl _ wr).alloc _).trans ((Fr.refl _ _).grown hg6 fun k hk => .inl hk) fun _ _ h => h
        have hf06 : Fr No w w6 := HF.out.trans hf6 fun b hb h => by have := HN.out b h; omega
        have hn6 : ∀ b, (Value.slice (some ⟨g7, o7, none⟩) ((overR ((P.map (·.1)).take i)).length + 1) cap7).ownBlock = some b → w.heap.size ≤ b := fun b hb => by
          obtain rfl : g7 = b := by simpa [Value.ownBlock] using hb
          rcases hb6 with h | h
          · exact HN.out _ h
          · have h' : g7 = wr.heap.size + 1 := by simpa using h
            have := HF.out.size
            omega
        have HS6 := Lib.hid (show SlF w6 3 1 int1 (.slice (some ⟨g7, o7, none⟩) ((overR ((P.map (·.1)).take i)).length + 1) cap7) (overR ((P.map (·.1)).take (i + 1))) from by rw [HST.out, if_pos h0]; unfold SlF at hs6 ⊢; simpa using hs6)
        have HN6 := Lib.hid hn6
        have HF6 := Lib.hid hf06
        clear hf6 hf06 hn6 hs6 hg6 hb6 hnew c0 c2
        go_wp2
        go_roundg g
        case rel => exact ⟨i + 1, _, by go_num, rfl, by omega, HS6, HN6, HF6⟩
        case measure => omega
      · have hb0 : (x.left == 0) = false := by simpa using h0
        go_wp2
        go_roundg g
        case rel => exact ⟨i + 1, _, by go_num, rfl, by omega, Lib.hid (by rw [HST.out, if_neg h0, List.append_nil]; exact HS.out), HN, HF⟩
        case measure => omega
end Go.Proofs.Ytlomeohcgjgpjaa
