/- slices.BinarySearch and slices.Insert over rising keys, as the table's Attach uses them: the key lies where it belongs. The condition: lists are not too long. -/
import Derived.Test.YtlomeohcgjgpjaaStrs
import Derived.Test.YtlomeohcgjgpjaaLays
import Derived.Test.YtlomeohcgjgpjaaLeaA
namespace Go.Proofs.Ytlomeohcgjgpjaa
open Go Go.Proofs Go.RowKit
set_option maxRecDepth 100000

def spotK (key : ByteArray) (L : List ByteArray) : Nat := L.findIdx fun y => !klt y key
theorem spotK_le (key : ByteArray) (L : List ByteArray) : spotK key L ≤ L.length := List.findIdx_le_length
theorem insK_eq {key : ByteArray} {L : List ByteArray} (hn : key ∉ L) : insK key L = L.take (spotK key L) ++ key :: L.drop (spotK key L) := by
  induction L with
  | nil => rfl
  | cons z L ih =>
    have ih := ih fun h => hn (List.mem_cons_of_mem _ h)
    have hz : z ≠ key := fun e => hn (by rw [e]; exact List.mem_cons_self ..)
    unfold insK spotK
    rw [List.findIdx_cons]
    by_cases h : klt key z = true
    · have h2 := klt_asymm h
      simp [h, h2]
    · have h2 : klt z key = true := by
        rcases klt_tri z key with h3 | h3 | h3
        · exact h3
        · exact absurd h3 hz
        · exact absurd h3 h
      simp only [h, h2, Bool.not_true, cond_false, Bool.false_eq_true, if_false]
      rw [ih]
      simp [spotK]
theorem ins_get {L : List ByteArray} {key : ByteArray} {k : Nat} (hk : k ≤ L.length) (j : Nat) : (L.take k ++ key :: L.drop k)[j]? = if j < k then L[j]? else if j = k then some key else L[j - 1]? := by
  by_cases h1 : j < k
  · rw [if_pos h1, List.getElem?_append_left (by rw [List.length_take]; omega), List.getElem?_take, if_pos h1]
  · rw [if_neg h1, List.getElem?_append_right (by rw [List.length_take]; omega), List.length_take, Nat.min_eq_left hk]
    by_cases h2 : j = k
    · rw [if_pos h2, h2, Nat.sub_self]; rfl
    · rw [if_neg h2, show j - k = (j - k - 1) + 1 from by omega, List.getElem?_cons_succ, List.getElem?_drop, show k + (j - k - 1) = j - 1 from by omega]
theorem ins_length {L : List ByteArray} {key : ByteArray} {k : Nat} (hk : k ≤ L.length) : (L.take k ++ key :: L.drop k).length = L.length + 1 := by
  simp; omega
theorem sl_of_cells {w : World} {g o n cap : Nat} {cur : Array Value} (hg : w.heap[g]? = some (.cells cur 9 (0, 0))) (hn : n ≤ cap) (hc : cap ≤ maxLen) (hs : o + cap ≤ cur.size) {L : List ByteArray} (hL : L.length = n)
    (h : ∀ (j : Nat) (x : ByteArray), L[j]? = some x → cur[o + j]? = some (.string x)) : SlF w 9 1 strC (.slice (some ⟨g, o, none⟩) n cap) L := by
  subst hL
  refine ⟨by rw [flat_length strC_length], .inr ⟨g, o, cap, cur, rfl, hg, hn, hc, by omega, ?_⟩⟩
  apply List.ext_getElem?
  intro j
  by_cases hj : j < L.length
  · rw [List.getElem?_take, if_pos (by omega), List.getElem?_drop, Array.getElem?_toList, h j L[j] (List.getElem?_eq_getElem hj)]
    have := flat_get strC_length L j 0 (by omega)
    rw [Nat.mul_one, Nat.add_zero] at this
    rw [this, List.getElem?_eq_getElem hj]; rfl
  · rw [List.getElem?_eq_none (by rw [List.length_take]; omega), List.getElem?_eq_none (by rw [flat_length strC_length]; omega)]
theorem sl_cells {w : World} {g o n cap : Nat} {L : List ByteArray} (h : SlF w 9 1 strC (.slice (some ⟨g, o, none⟩) n cap) L) : ∃ cur, w.heap[g]? = some (.cells cur 9 (0, 0)) ∧ n = L.length ∧ o + cap ≤ cur.size ∧ ∀ (j : Nat) (x : ByteArray), L[j]? = some x → cur[o + j]? = some (.string x) := by
  have hc := fun n' (hn : n' = L.length) (h : SlF w 9 1 strC (.slice (some ⟨g, o, none⟩) L.length cap) L) (j : Nat) (x : ByteArray) (hx : L[j]? = some x) => h.cell1 strC_length j hx rfl
  rcases h.2 with ⟨h0, _⟩ | ⟨g', o', cap', cur, hv, hg, h2, h3, h4, h5⟩
  · cases h0
  · simp only [Value.slice.injEq, Option.some.injEq, Addr.mk.injEq, and_true] at hv
    obtain ⟨⟨rfl, rfl⟩, rfl, rfl⟩ := hv
    refine ⟨cur, hg, rfl, by omega, fun j x hx => ?_⟩
    have := hc _ rfl h j x hx
    simpa [World.cell?, hg] using this
theorem heap_setCells_same {b : Nat} {e : TypeId} {fr : Nat × Nat} (vs : List Value) : ∀ {w : World} {cur : Array Value} (o : Nat), w.heap[b]? = some (.cells cur e fr) → o + vs.length ≤ cur.size →
    ∃ cur', (w.setCells b o vs).heap[b]? = some (.cells cur' e fr) ∧ cur'.size = cur.size ∧ ∀ j, cur'[j]? = if o ≤ j ∧ j < o + vs.length then vs[j - o]? else cur[j]? := by
  induction vs with
  | nil => intro w cur o h _; exact ⟨cur, h, rfl, fun j => by rw [if_neg (by rw [List.length_nil]; omega)]⟩
  | cons v vs ih =>
    intro w cur o h hs
    rw [List.length_cons] at hs
    obtain ⟨cur', h1, h2, h3⟩ := ih (w := w.setCell ⟨b, o, none⟩ v) (cur := cur.setIfInBounds o v) (o + 1) (heap_setCell_same h o v) (by simp; omega)
    refine ⟨cur', h1, by rw [h2]; simp, fun j => ?_⟩
    rw [h3, List.length_cons]
    by_cases e : j = o
    · subst e
      rw [if_neg (by omega), if_pos (by omega), Nat.sub_self, Array.getElem?_setIfInBounds_self_of_lt (by omega)]; rfl
    · rw [Array.getElem?_setIfInBounds_ne (fun h => e h.symm)]
      by_cases h4 : o + 1 ≤ j ∧ j < o + 1 + vs.length
      · rw [if_pos h4, if_pos (by omega), show j - o = (j - (o + 1)) + 1 from by omega, List.getElem?_cons_succ]
      · rw [if_neg h4, if_neg (by omega)]
theorem Fr.setCells {S : Nat → Prop} {a : World} {b : Nat} (hb : S b ∨ a.heap.size ≤ b) (vs : List Value) : ∀ {w : World} (o : Nat), Fr S a w → Fr S a (w.setCells b o vs) := by
  induction vs with
  | nil => exact fun _ h => h
  | cons v vs ih => exact fun o h => ih (o + 1) (h.setCell (p := ⟨b, o, none⟩) hb v)
set_option maxHeartbeats 1000000 in
theorem search_calls (w : World) (v : Value) (L : List ByteArray) (key : ByteArray) (hv : SlF w 9 1 strC v L) (hl : L.length ≤ 1099511627) (hr : KRise L) (hn : key ∉ L) :
    Calls Try.prog 50 #[v, .string key] w fun e w' => e = .returned (.tuple #[.int .i64 (spotK key L), .bool false]) ∧ ∃ q, w' = w.drewN q := by
  obtain ⟨a, cap, rfl, h1, h2, h3⟩ := hv.shape
  by_cases h0 : L.length = 0
  · have hc := Any2.slices_BinarySearch_string_empty laySearch a cap key w
    have hL : L = [] := List.eq_nil_of_length_eq_zero h0
    subst hL
    exact hc.mono fun _ _ ⟨e1, e2⟩ => ⟨e1, 0, e2⟩
  · obtain ⟨g, o, rfl⟩ := h3 (by omega)
    have hlt : ∀ t, t < spotK key L → klt (L.getD t key) key = true := fun t ht => by
      have := List.not_of_lt_findIdx ht
      have hl2 := spotK_le key L
      rw [List.getD_eq_getElem?_getD, List.getElem?_eq_getElem (by omega)]
      simpa using this
    have hge : ∀ t, spotK key L ≤ t → klt (L.getD t key) key = false := fun t ht => by
      by_cases htl : t < L.length
      · have hk : spotK key L < L.length := by omega
        have h5 : (!klt L[spotK key L] key) = true := List.findIdx_getElem (p := fun y => !klt y key) (xs := L) (w := hk)
        rw [List.getD_eq_getElem?_getD, List.getElem?_eq_getElem htl, Option.getD_some]
        by_cases e : t = spotK key L
        · subst e; simpa using h5
        · have h6 := List.pairwise_iff_getElem.1 hr (spotK key L) t hk htl (by omega)
          rw [Bool.eq_false_iff]
          intro h7
          have := klt_trans h6 h7
          have h8 : klt L[spotK key L] key = false := by simpa using h5
          rw [h8] at this; cases this
      · rw [List.getD_eq_getElem?_getD, List.getElem?_eq_none (by omega)]
        exact klt_irrefl key
    have hbs : Lib.bsGo (fun t => Op.bytesLess (L.getD t key).toList key.toList) L.length 0 L.length = spotK key L := Lib.bsGo_spec _ (spotK key L) hlt hge L.length 0 L.length (by omega) (by omega) (spotK_le key L)
    have hc := Any2.slices_BinarySearch_string laySearch g o L.length cap (fun t => L.getD t key) key w (by omega) (fun j hj => by
      have := hv.cell1 strC_length j (List.getElem?_eq_getElem hj) rfl
      rw [List.getD_eq_getElem?_getD, List.getElem?_eq_getElem hj]
      exact this)
    rw [hbs] at hc
    have hd : decide (spotK key L < L.length ∧ L.getD (spotK key L) key = key) = false := by
      rw [decide_eq_false_iff_not]
      rintro ⟨h5, h6⟩
      rw [List.getD_eq_getElem?_getD, List.getElem?_eq_getElem h5] at h6
      exact hn (by rw [← h6]; exact List.getElem_mem h5)
    rw [hd] at hc
    exact hc
/-- Behind an insertion. -/
def InsTo (w w' : World) (v : Value) (L : List ByteArray) (key : ByteArray) (k : Nat) (e : Ending) : Prop :=
  ∃ v', e = .returned v' ∧ SlF w' 9 1 strC v' (L.take k ++ key :: L.drop k) ∧ Fr (fun b => v.ownBlock = some b) w w' ∧ ∀ b, v'.ownBlock = some b → v.ownBlock = some b ∨ w.heap.size ≤ b
theorem strs_get (L : List ByteArray) (j : Nat) : (L.map Value.string)[j]? = (L[j]?).map Value.string := List.getElem?_map ..
set_option maxHeartbeats 1000000 in
theorem insert_calls (w : World) (v : Value) (L : List ByteArray) (key : ByteArray) (hv : SlF w 9 1 strC v L) (hl : L.length < 1099511627) (k : Nat) (hk : k ≤ L.length) (kb : Nat) (hkb : w.heap[kb]? = some (.cells #[.string key] 9 (0, 0))) (hne : v.ownBlock ≠ some kb) :
    Calls Try.prog 51 #[v, .int .i64 k, .slice (some ⟨kb, 0, none⟩) 1 1] w fun e w' => InsTo w w' v L key k e := by
  obtain ⟨a, cap, rfl, h1, h2, h3⟩ := hv.shape
  have hvs : ∀ (j : Nat) (u : Value), [Value.string key][j]? = some u → w.cell? ⟨kb, 0 + j, none⟩ = some u := fun j u hu => by
    cases j with
    | zero => cases hu; exact cellAt hkb 0 rfl
    | succ j => simp at hu
  have h1v : ∀ u ∈ [Value.string key], u.oneCell' = true := fun u hu => by rw [List.mem_singleton] at hu; subst hu; rfl
  have h1c : ∀ u ∈ L.map Value.string, u.oneCell' = true := fun u hu => by obtain ⟨x, _, rfl⟩ := List.mem_map.1 hu; rfl
  have hm : maxLen = 9223372036854775807 := rfl
  have hig := fun j => ins_get (key := key) hk j
  have hil := ins_length (key := key) hk
  by_cases hke : k = L.length
  · have hil : (L.take L.length ++ key :: L.drop L.length).length = L.length + 1 := by rw [hke] at hil; exact hil
    have hig : ∀ j, (L.take L.length ++ key :: L.drop L.length)[j]? = if j < L.length then L[j]? else if j = L.length then some key else L[j - 1]? := fun j => by have := hig j; rw [hke] at this; exact this
    by_cases hroom : L.length + 1 ≤ cap
    · -- at the end, room
      cases a with
      | none =>
        rcases hv.2 with ⟨h4, _⟩ | ⟨g', o', cap', cur, h4, _⟩
        · simp only [Value.slice.injEq] at h4; omega
        · simp at h4
      | some ad =>
        obtain ⟨g, o, sp⟩ := ad
        have hsp : sp = none := by
          rcases hv.2 with ⟨h4, _⟩ | ⟨g', o', cap', cur, h4, _⟩
          · simp at h4
          · simp only [Value.slice.injEq, Option.some.injEq, Addr.mk.injEq] at h4; exact h4.1.2.2
        subst hsp
        obtain ⟨cur, hg, _, hcs, hcc⟩ := sl_cells hv
        have hc := Any2.slices_Insert_string_end_room layInsert g o L.length cap kb 0 1 1 [.string key] w (by omega) hroom (by omega) rfl
          (fun j hj => by simp [World.cell?, hg]; omega) (fun j hj => by simp [World.frozen?, hg]) hvs h1v
        rw [hke]
        refine hc.mono ?_
        rintro e w' ⟨rfl, rfl⟩
        obtain ⟨cur', c1, c2, c3⟩ := heap_setCells_same [.string key] (o + L.length) hg (by rw [List.length_singleton]; omega)
        refine ⟨_, rfl, sl_of_cells c1 hroom h2 (by omega) hil fun j x hx => ?_, Fr.setCells (S := fun b => (Value.slice (some ⟨g, o, none⟩) L.length cap).ownBlock = some b) (.inl rfl) _ _ (Fr.refl _ w), fun b hb => .inl hb⟩
        rw [hig] at hx
        rw [c3, List.length_singleton]
        by_cases hj : j < L.length
        · rw [if_pos hj] at hx
          rw [if_neg (by omega)]; exact hcc j x hx
        · rw [if_neg hj] at hx
          by_cases hj2 : j = L.length
          · rw [if_pos hj2] at hx; cases hx
            rw [if_pos (by omega), show o + j - (o + L.length) = 0 from by omega]; rfl
          · rw [if_neg hj2] at hx
            have := (List.getElem?_eq_some_iff.1 hx).1
            omega
    · -- at the end, no room
      have hc := Any2.slices_Insert_string_end_grow layInsert a L.length cap kb 0 1 1 (L.map Value.string) [.string key] w (by omega) h1 (by omega) (by omega) (List.length_map ..) rfl
        (fun e => by
          subst e
          by_cases h0 : 0 < L.length
          · obtain ⟨g, o, h4⟩ := h3 h0; cases h4
          · omega)
        (fun ad e j u hu => by
          subst e
          have hj := (List.getElem?_eq_some_iff.1 hu).1
          rw [List.length_map] at hj
          obtain ⟨g, o, h4⟩ := h3 (by omega)
          cases h4
          rw [strs_get, List.getElem?_eq_getElem hj] at hu
          cases hu
          have := hv.cell1 strC_length j (List.getElem?_eq_getElem hj) rfl
          rw [Addr.add_lit]
          exact this) hvs h1v
      rw [hke]
      refine hc.mono ?_
      rintro e w' ⟨rfl, rfl⟩
      have hcl := grownCap_le_maxLen w (L.length + 1) cap 9 (by rw [hm]; omega)
      have hcg := grownCap_ge w (L.length + 1) cap 9
      have ht : layInsert_ren.t 9 = 9 := rfl
      rw [ht]
      have hnew := alloc_at w.drew (.cells ((L.map Value.string ++ [Value.string key]).toArray ++ Builtin.zeroCells (Value.string ⟨#[]⟩).cells (grownCap w (L.length + 1) cap 9 - (L.length + 1))) 9) w.heap.size rfl
      refine ⟨_, rfl, sl_of_cells hnew hcg hcl ?_ hil fun j x hx => ?_, ((Fr.refl _ w).drew).alloc _, fun b hb => by
        right
        simp [Value.ownBlock] at hb; omega⟩
      · have := zeroCells_length (Value.string ⟨#[]⟩).cells (grownCap w (L.length + 1) cap 9 - (L.length + 1))
        simp only [Array.size_append, List.size_toArray, List.length_append, List.length_map, List.length_singleton]
        rw [← Array.length_toList, this, show (Value.string ⟨#[]⟩).cells.size = 1 from rfl]
        omega
      · rw [Nat.zero_add]
        have hjl := (List.getElem?_eq_some_iff.1 hx).1
        rw [hil] at hjl
        rw [Array.getElem?_append_left (by simp; omega)]
        rw [hig] at hx
        simp only [List.getElem?_toArray]
        by_cases hj : j < L.length
        · rw [if_pos hj] at hx
          rw [List.getElem?_append_left (by rw [List.length_map]; omega), strs_get, hx]; rfl
        · rw [if_neg hj, if_pos (by omega)] at hx
          cases hx
          rw [List.getElem?_append_right (by rw [List.length_map]; omega), List.length_map, show j - L.length = 0 from by omega]; rfl
  · have hkl : k < L.length := by omega
    obtain ⟨g, o, rfl⟩ := h3 (by omega)
    obtain ⟨cur, hg, _, hcs, hcc⟩ := sl_cells hv
    have hgk : kb ≠ g := fun e => hne (by rw [e]; rfl)
    have hcells : ∀ (j : Nat) (u : Value), (L.map Value.string)[j]? = some u → w.cell? ⟨g, o + j, none⟩ = some u := fun j u hu => by
      have hj := (List.getElem?_eq_some_iff.1 hu).1
      rw [List.length_map] at hj
      rw [strs_get, List.getElem?_eq_getElem hj] at hu
      cases hu
      exact hv.cell1 strC_length j (List.getElem?_eq_getElem hj) rfl
    have hdl : ((L.map Value.string).drop k).length = L.length - k := by simp
    by_cases hroom : L.length + 1 ≤ cap
    · -- amid, room
      have hc := Any2.slices_Insert_string_shift layInsert g o L.length cap k kb 0 1 1 (L.map Value.string) [.string key] w hkl (by omega) hroom (by omega) hgk (List.length_map ..) rfl hcells
        (fun j hj => by simp [World.cell?, hg]; omega) (fun j hj => by simp [World.frozen?, hg]) hvs h1c h1v 9 9 1 cur.size (by simp [World.shape?, hkb]) (by simp [World.shape?, hg]) (by omega) (by simp [World.frozen?, hkb]) (by simp [World.frozen?, hkb])
      refine hc.mono ?_
      rintro e w' ⟨rfl, rfl⟩
      obtain ⟨cur', c1, c2, c3⟩ := heap_setCells_same (w := w.drew) ((L.map Value.string).drop k) (o + (k + 1)) hg (by omega)
      obtain ⟨cur2, d1, d2, d3⟩ := heap_setCells_same [.string key] (o + k) c1 (by rw [List.length_singleton]; omega)
      refine ⟨_, rfl, sl_of_cells d1 hroom h2 (by omega) hil fun j x hx => ?_, Fr.setCells (S := fun b => (Value.slice (some ⟨g, o, none⟩) L.length cap).ownBlock = some b) (.inl rfl) _ _ (Fr.setCells (S := fun b => (Value.slice (some ⟨g, o, none⟩) L.length cap).ownBlock = some b) (.inl rfl) _ _ (Fr.refl _ w).drew), fun b hb => .inl hb⟩
      have hjl := (List.getElem?_eq_some_iff.1 hx).1
      rw [hil] at hjl
      rw [hig] at hx
      rw [d3, List.length_singleton]
      by_cases hj : j < k
      · rw [if_pos hj] at hx
        rw [if_neg (by omega), c3, if_neg (by omega)]; exact hcc j x hx
      · rw [if_neg hj] at hx
        by_cases hj2 : j = k
        · rw [if_pos hj2] at hx; cases hx
          rw [if_pos (by omega), show o + j - (o + k) = 0 from by omega]; rfl
        · rw [if_neg hj2] at hx
          rw [if_neg (by omega), c3, if_pos (by omega), List.getElem?_drop, strs_get, show k + (o + j - (o + (k + 1))) = j - 1 from by omega, hx]; rfl
    · -- amid, no room
      have hc := Any2.slices_Insert_string_grow layInsert g o L.length cap k kb 0 1 1 (L.map Value.string) [.string key] w hkl (by omega) h1 (by omega) (by omega) (List.length_map ..) rfl hcells hvs h1c h1v
      refine hc.mono ?_
      rintro e w' ⟨rfl, rfl⟩
      have hcl := grownCap_le_maxLen w (L.length + 1) cap 9 (by rw [hm]; omega)
      have hcg := grownCap_ge w (L.length + 1) cap 9
      have ht : layInsert_ren.t 9 = 9 := rfl
      rw [ht]
      generalize hX : (((L.map Value.string).take k).toArray ++ Builtin.zeroCells (Value.string ⟨#[]⟩).cells (L.length + 1 - k) ++ Builtin.zeroCells (Value.string ⟨#[]⟩).cells (grownCap w (L.length + 1) cap 9 - (L.length + 1))) = X
      have hXs : X.size = grownCap w (L.length + 1) cap 9 := by
        have z1 := zeroCells_length (Value.string ⟨#[]⟩).cells (grownCap w (L.length + 1) cap 9 - (L.length + 1))
        have z2 := zeroCells_length (Value.string ⟨#[]⟩).cells (L.length + 1 - k)
        rw [Array.length_toList, show (Value.string ⟨#[]⟩).cells.size = 1 from rfl] at z1 z2
        rw [← hX]
        simp only [Array.size_append, List.size_toArray, List.length_take, List.length_map, z1, z2]
        omega
      have hXg : ∀ j, j < k → X[j]? = (L[j]?).map Value.string := fun j hj => by
        rw [← hX, Array.getElem?_append_left (by simp; omega), Array.getElem?_append_left (by simp; omega)]
        simp only [List.getElem?_toArray]
        rw [List.getElem?_take, if_pos hj, strs_get]
      have hnew := alloc_at w (.cells X 9) w.heap.size rfl
      obtain ⟨cur', c1, c2, c3⟩ := heap_setCells_same (w := (w.alloc (.cells X 9)).drew) [.string key] k hnew (by rw [List.length_singleton]; omega)
      obtain ⟨cur2, d1, d2, d3⟩ := heap_setCells_same (w := ((w.alloc (.cells X 9)).drew.setCells w.heap.size k [.string key]).drew) ((L.map Value.string).drop k) (k + 1) c1 (by omega)
      refine ⟨_, rfl, sl_of_cells d1 hcg hcl (by omega) hil fun j x hx => ?_, Fr.setCells (.inr (Nat.le_refl _)) _ _ (Fr.setCells (.inr (Nat.le_refl _)) _ _ ((Fr.refl _ w).alloc _).drew).drew, fun b hb => by
        right
        simp [Value.ownBlock] at hb; omega⟩
      have hjl := (List.getElem?_eq_some_iff.1 hx).1
      rw [hil] at hjl
      rw [hig] at hx
      rw [Nat.zero_add, d3]
      by_cases hj : j < k
      · rw [if_pos hj] at hx
        rw [if_neg (by omega), c3, if_neg (by omega), hXg j hj, hx]; rfl
      · rw [if_neg hj] at hx
        by_cases hj2 : j = k
        · rw [if_pos hj2] at hx; cases hx
          rw [if_neg (by omega), c3, List.length_singleton, if_pos (by omega), show j - k = 0 from by omega]; rfl
        · rw [if_neg hj2] at hx
          rw [if_pos (by omega), List.getElem?_drop, strs_get, show k + (j - (k + 1)) = j - 1 from by omega, hx]; rfl
end Go.Proofs.Ytlomeohcgjgpjaa
