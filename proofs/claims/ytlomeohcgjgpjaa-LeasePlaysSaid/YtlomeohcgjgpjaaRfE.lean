/- The document's table in memory (chanceryref14): its Grant and Revoke do what the document's table does. -/
import Derived.Test.YtlomeohcgjgpjaaRfC
namespace Go.Proofs.Ytlomeohcgjgpjaa
open Go Go.Proofs Go.RowKit
set_option maxRecDepth 100000

/-- One laid ahead of the first that p tells. -/
def insP {α : Type} (p : α → Bool) (x : α) : List α → List α
  | [] => [x]
  | y :: l => if p y then x :: y :: l else y :: insP p x l
theorem insBy_P {α : Type} (f : α → Int) (x : α) (l : List α) : insBy f x l = insP (fun z => decide (f x < f z)) x l := by
  induction l with
  | nil => rfl
  | cons y l ih =>
    rw [insBy, insP, ih]
    by_cases h : f x < f y <;> simp [h]
theorem insK_P (key : ByteArray) (l : List ByteArray) : insK key l = insP (klt key) key l := by
  induction l with
  | nil => rfl
  | cons y l ih => rw [insK, insP, ih]
/-- What stands behind the first i: with the new one, if one that p tells was met. -/
def insTo {α : Type} (p : α → Bool) (x : α) (l : List α) (i : Nat) (d : Bool) : List α := if d then insP p x (l.take i) else l.take i
def insMet {α : Type} (p : α → Bool) (l : List α) (i : Nat) (d : Bool) : Prop := d = true ↔ ∃ z ∈ l.take i, p z = true
section
variable {α : Type} {p : α → Bool} {x y : α} {l : List α} {i : Nat} {d : Bool}
theorem insP_end (h : ∀ z ∈ l, p z = false) : insP p x l = l ++ [x] := by
  induction l with
  | nil => rfl
  | cons z l ih => rw [insP, h z (List.mem_cons_self ..), if_neg (by decide), ih fun y hy => h y (List.mem_cons_of_mem _ hy)]; rfl
theorem insP_more (h : ∃ z ∈ l, p z = true) : insP p x (l ++ [y]) = insP p x l ++ [y] := by
  induction l with
  | nil => simp at h
  | cons z l ih =>
    rw [List.cons_append, insP, insP]
    cases hz : p z with
    | true => rfl
    | false =>
      rw [if_neg (by decide), if_neg (by decide), ih]
      · rfl
      · obtain ⟨u, hu, h2⟩ := h
        rcases List.mem_cons.1 hu with rfl | hu
        · rw [hz] at h2; cases h2
        · exact ⟨u, hu, h2⟩
theorem insP_at (h : ∀ z ∈ l, p z = false) (hy : p y = true) : insP p x (l ++ [y]) = l ++ [x] ++ [y] := by
  induction l with
  | nil => rw [List.nil_append, insP, if_pos hy]; rfl
  | cons z l ih => rw [List.cons_append, insP, h z (List.mem_cons_self ..), if_neg (by decide), ih fun u hu => h u (List.mem_cons_of_mem _ hu)]; rfl
theorem not_met (h : insMet p l i false) : ∀ z ∈ l.take i, p z = false := fun z hz => by
  cases hp : p z with
  | false => rfl
  | true => have := h.2 ⟨z, hz, hp⟩; cases this
theorem met_zero : insMet p l 0 false := by simp [insMet]
theorem met_step (h : insMet p l i d) (hy : l[i]? = some y) : insMet p l (i + 1) (d || p y) := by
  unfold insMet at *
  rw [List.take_add_one, hy]
  simp only [Option.toList_some, List.mem_append, List.mem_singleton, Bool.or_eq_true, h]
  constructor
  · rintro (⟨z, hz, hl⟩ | hl)
    · exact ⟨z, .inl hz, hl⟩
    · exact ⟨y, .inr rfl, hl⟩
  · rintro ⟨z, hz | rfl, hl⟩
    · exact .inl ⟨z, hz, hl⟩
    · exact .inr hl
theorem insTo_zero : insTo p x l 0 false = [] := by simp [insTo]
theorem insTo_old (h : insMet p l i true) (hy : l[i]? = some y) : insTo p x l (i + 1) true = insTo p x l i true ++ [y] := by
  unfold insTo
  rw [List.take_add_one, hy]
  simp only [Option.toList_some, if_true]
  exact insP_more (h.1 rfl)
theorem insTo_not (hy : l[i]? = some y) : insTo p x l (i + 1) false = insTo p x l i false ++ [y] := by
  unfold insTo
  rw [List.take_add_one, hy]
  rfl
theorem insTo_new (h : insMet p l i false) (hy : l[i]? = some y) (hc : p y = true) : insTo p x l (i + 1) true = insTo p x l i false ++ [x] ++ [y] := by
  unfold insTo
  rw [List.take_add_one, hy]
  simp only [Option.toList_some, if_true, Bool.false_eq_true, if_false]
  exact insP_at (not_met h) hc
theorem insTo_len (hi : i ≤ l.length) : (insTo p x l i d).length ≤ i + 1 := by
  have hp : ∀ l : List α, (insP p x l).length = l.length + 1 := fun l => by
    induction l with
    | nil => rfl
    | cons z l ih => unfold insP; split <;> simp [ih]
  unfold insTo
  split
  · rw [hp, List.length_take]; omega
  · rw [List.length_take]; omega
theorem insTo_true (h : i = l.length) : insTo p x l i true = insP p x l := by
  subst h
  unfold insTo
  rw [List.take_length]; rfl
theorem insTo_false (h : i = l.length) (hm : insMet p l i false) : insTo p x l i false ++ [x] = insP p x l := by
  subst h
  have := not_met hm
  unfold insTo
  rw [List.take_length] at *
  exact (insP_end this).symm
end
/-- A new list laid into the document's table. -/
theorem Rf.put {w w1 : World} {t : Nat} {v : Value} {P : List (LV × Value)} {G : Nat → Prop} (h : Rf w t v P G) (hf : Fr No w w1) {u : Value} {Q : List (LV × Value)} (hu : SlF w1 57 4 lvC u Q) (hn : ∀ b, u.ownBlock = some b → w.heap.size ≤ b)
    (hQ : ∀ q ∈ Q, q ∈ P ∨ (q.2 = .slice none 0 0 ∧ q.1.keys = [])) : RfTo w (w1.setCell ⟨t, 0, none⟩ u) t (Q.map (·.1)) G := by
  have hlt := h.lt t h.own.1
  have hs := heap_setCell_same (hf.heap h.tab fun h => h) 0 u
  have hft : Fr (fun b => b = t) w1 (w1.setCell ⟨t, 0, none⟩ u) := Fr.setCell (p := ⟨t, 0, none⟩) (Fr.refl (fun b => b = t) w1) (.inl rfl) u
  have hsz : (w1.setCell ⟨t, 0, none⟩ u).heap.size = w1.heap.size := by simp [World.setCell]
  have hun : u.ownBlock ≠ some t := fun e => by have := hn t e; omega
  have hfs := hf.size
  refine ⟨u, Q, ⟨by rw [hs]; simp, hu.other _ u hun, ⟨.inl h.own.1, hun, fun b hb => .inr ⟨hn b hb, by have := hu.lt b hb; omega⟩⟩, fun q hq => ?_, fun b hb => hb.elim (fun hb => by have := h.lt b hb; omega) fun hb => by omega⟩, rfl, (hf.mono fun _ _ s => s.elim).setCell (.inl h.own.1) u⟩
  rcases hQ q hq with hq | ⟨hq, hk⟩
  · have h2 := h.keys q hq
    refine ⟨((h2.1.fr0 hf).fr hft fun b hb e => (h2.2 b hb).2.1 e), fun b hb => ⟨.inl (h2.2 b hb).1, (h2.2 b hb).2.1, fun e => ?_⟩⟩
    have := hn b e
    have := h.lt b (h2.2 b hb).1
    omega
  · rw [hq, hk]
    exact ⟨SlF.nil _ _ _ _, by simp [Value.ownBlock]⟩
def gtId (id : Int) (p : LV × Value) : Bool := decide (id < p.1.id)
def newL (id n : Int) : LV × Value := (⟨id, n, n, []⟩, .slice none 0 0)
theorem gtId_map (P : List (LV × Value)) (id n : Int) : (insP (gtId id) (newL id n) P).map (·.1) = grantR (P.map (·.1)) id n := by
  have h := insBy_P (fun p : LV × Value => p.1.id) (newL id n) P
  unfold grantR
  rw [show insP (gtId id) (newL id n) P = insBy (fun p : LV × Value => p.1.id) (newL id n) P from h.symm, insBy_map (k := LV.id) (fun _ => rfl)]
  rfl
theorem gtId_mem {P : List (LV × Value)} {id n : Int} : ∀ q ∈ insP (gtId id) (newL id n) P, q ∈ P ∨ (q.2 = .slice none 0 0 ∧ q.1.keys = []) := by
  intro q hq
  have h := insBy_P (fun p : LV × Value => p.1.id) (newL id n) P
  rw [show insP (gtId id) (newL id n) P = insBy (fun p : LV × Value => p.1.id) (newL id n) P from h.symm, insBy_mem] at hq
  rcases hq with rfl | hq
  · exact .inr ⟨rfl, rfl⟩
  · exact .inl hq
theorem one_lvC (p : LV × Value) {a : Option Addr} {k c : Nat} (h : p.2 = .slice a k c) : ∀ u ∈ lvC p, u.oneCell' = true := by
  intro u hu
  unfold lvC at hu
  rw [h] at hu
  simp only [List.mem_cons, List.not_mem_nil, or_false] at hu
  rcases hu with h | h | h | h <;> (rw [h]; rfl)
/-- Behind the document's Grant. -/
def rgrantTo (w w' : World) (t : Nat) (R : List LV) (G : Nat → Prop) (id n : Int) (e : Ending) : Prop := e = .returned (.int .i64 (grantE R id n)) ∧ RfTo w w' t (if grantE R id n = 0 then grantR R id n else R) G
set_option maxHeartbeats 4000000 in
theorem rgrant_calls {w : World} {t : Nat} {v : Value} {P : List (LV × Value)} {G : Nat → Prop} (h : Rf w t v P G) (hlen : P.length ≤ 100000) (id n : Int) :
    Calls Try.prog 39 #[.pointer (some ⟨t, 0, none⟩), .int .i64 id, .int .i64 n] w fun e w' => rgrantTo w w' t (P.map (·.1)) G id n e := by
  have hsame := h.to_same (Fr.refl No w)
  by_cases hbad : id < 1 ∨ n < 1 ∨ maxT < n
  · have hto : rgrantTo w w t (P.map (·.1)) G id n (.returned (.int .i64 1)) := by
      have e1 : grantE (P.map (·.1)) id n = 1 := if_pos hbad
      unfold rgrantTo
      rw [e1, if_neg (by decide)]
      exact ⟨rfl, hsame⟩
    have HTO := Lib.hid hto
    unfold maxT at hbad
    clear h hsame hto
    by_cases b1 : id < 1
    · go_enter Try.func39, Try.ntmps39
      go_wp2
      go_ret
      exact HTO.out
    · by_cases b2 : n < 1
      · go_enter Try.func39, Try.ntmps39
        go_wp2
        go_ret
        exact HTO.out
      · have b3 : 1073741824 < n := by omega
        go_enter Try.func39, Try.ntmps39
        go_wp2
        go_ret
        exact HTO.out
  have b1 : ¬ id < 1 := by omega
  have b2 : ¬ n < 1 := by omega
  have b3 : ¬ 1073741824 < n := by unfold maxT at hbad; omega
  have hat := at_calls h hlen id
  unfold idxR at hat
  cases hm : (P.map (·.1)).findIdx? fun x => x.id == id with
  | some i =>
    rw [hm] at hat
    obtain ⟨x, hx, he, hg⟩ := idx_some hm
    have hto : rgrantTo w w t (P.map (·.1)) G id n (.returned (.int .i64 34)) := by
      have e1 : grantE (P.map (·.1)) id n = 34 := by unfold grantE; rw [if_neg hbad, hg]; rfl
      unfold rgrantTo
      rw [e1, if_neg (by decide)]
      exact ⟨rfl, hsame⟩
    have HTO := Lib.hid hto
    have HAT := Lib.hid hat
    have hi0 : 0 ≤ (i : Int) := by omega
    clear h hsame hto hat hm hx he hg hbad
    dsimp only at HAT
    go_enter Try.func39, Try.ntmps39
    go_wp2_with (go_at_call 45; (with_reducible refine HAT.out.mono ?_); rintro e w' ⟨rfl, rfl⟩)
    go_ret
    exact HTO.out
  | none =>
    rw [hm] at hat
    have hg := idx_none hm
    have e1 : grantE (P.map (·.1)) id n = 0 := by unfold grantE; rw [if_neg hbad, hg]; rfl
    have HAT := Lib.hid hat
    have E1 := Lib.hid e1
    obtain ⟨a, cap, rfl, h1, h2, h3⟩ := h.sl.shape
    have hfa : Fr No w (w.alloc (.cells #[.int .i64 id, .int .i64 n, .int .i64 n, .slice none 0 0] 57)) := (Fr.refl No w).alloc _
    have hra : (w.alloc (.cells #[.int .i64 id, .int .i64 n, .int .i64 n, .slice none 0 0] 57)).heap[w.heap.size]? = some (.cells #[.int .i64 id, .int .i64 n, .int .i64 n, .slice none 0 0] 57 (0, 0)) := alloc_at _ _ _ rfl
    have H := Lib.hid h
    have H3 := Lib.hid h3
    have HZ4 := Lib.hid hra
    have HFZ := Lib.hid hfa
    have hlt : t < w.heap.size := World.block_lt_of_cell? _ _ h.cell
    unfold maxLen at h2
    clear h hsame hat hm hg hbad e1 h3 hra hfa
    obtain ⟨i0, hi0, hz0, hz1, hz2⟩ := info_parts info57
    dsimp only at HAT
    generalize hm : P.length = m at *
    go_enter Try.func39, Try.ntmps39
    go_upto_region 9 with (go_at_call 45; (with_reducible refine HAT.out.mono ?_); rintro e w' ⟨rfl, rfl⟩)
    clear HAT
    generalize w.alloc (.cells #[.int .i64 id, .int .i64 n, .int .i64 n, .slice none 0 0] 57) = Z at *
    have hsw := HFZ.out.size
    go_loopg [8, 9, 10] m (fun g s8 s9 s10 wr => ∃ (i : Nat) (d : Bool) (u : Value), s10 = .int .i64 i ∧ s9 = .bool d ∧ s8 = u ∧ i + g = m ∧ Hid (insMet (gtId id) P i d) ∧ Hid (SlF wr 57 4 lvC u (insTo (gtId id) (newL id n) P i d)) ∧ Hid (∀ b, u.ownBlock = some b → Z.heap.size ≤ b) ∧ Hid (Fr No Z wr))
    case atStart => exact ⟨0, false, _, rfl, rfl, rfl, by omega, Lib.hid met_zero, Lib.hid (by rw [insTo_zero]; exact SlF.nil _ _ _ _), Lib.hid (by simp [Value.ownBlock]), Lib.hid (Fr.refl No Z)⟩
    case round =>
      obtain ⟨i, d, u, rfl, rfl, rfl, hi, HM, HS, HN, HF⟩ := hrel
      have hTw := H.out.fr0 (HFZ.out.trans0 HF.out)
      have ht := hTw.cell
      have hft := hTw.tfree 0
      have lt := World.block_lt_of_cell? _ _ ht
      have hx4 := HF.out.heap HZ4.out fun h => h
      obtain ⟨x0, x1, x2, x3⟩ := cells4 hx4
      have lx := heap_lt hx4
      have HX4 := Lib.hid hx4
      clear hx4
      cases gk with
      | succ g =>
        have hil : (i : Int) < (m : Int) := by omega
        obtain ⟨ga, oa, rfl⟩ := H3.out (by omega)
        obtain ⟨⟨⟨yi, yt, yl, yk⟩, yv⟩, hy⟩ : ∃ p, P[i]? = some p := ⟨_, List.getElem?_eq_getElem (by omega)⟩
        obtain ⟨f0, f1, f2, f3⟩ := hTw.cells hy
        have lf := World.block_lt_of_cell? _ _ f0
        obtain ⟨ya, yc, hyv, _, _, _⟩ := (H.out.keys _ (List.mem_of_getElem? hy)).1.shape
        dsimp only at hyv f0 f1 f2 f3
        subst hyv
        generalize yk.length = yn at *
        have hnl := fun d => insTo_len (p := gtId id) (x := newL id n) (d := d) (show i ≤ P.length by omega)
        have hl1 := hnl true
        have hl2 := hnl false
        have HY := Lib.hid hy
        have HTW := Lib.hid hTw
        have hwi : 0 ≤ (i : Int) := by omega
        clear hy hnl hTw
        cases d with
        | true =>
          have HSTEP := Lib.hid (insTo_old (x := newL id n) HM.out HY.out)
          have HM2 := Lib.hid (met_step HM.out HY.out)
          have hnew := cells_new wr [.int .i64 yi, .int .i64 yt, .int .i64 yl, .slice ya yn yc] 57 (0, 0)
          have HNEW := Lib.hid hnew
          clear hnew
          go_wp2_with (at_builtin; refine wpList_app rfl _ _ 53 rfl 57 i0 _ 4 48 Try.underlying53 hi0 hz0 hz1 hz2 rfl (by decide) _ (insTo (gtId id) (newL id n) P i true) rfl (HS.out.alloc _) Z HN.out (HF.out.alloc _) wr.heap.size 1 (⟨yi, yt, yl, yk⟩, .slice ya yn yc) rfl HNEW.out rfl (one_lvC _ rfl) (by unfold maxLen; omega) (by omega) ?_)
          intro g1 o1 cap1 w5 hs5 hg5 hf5 hlt5
          have HS5 := Lib.hid hs5
          have HF5 := Lib.hid hf5
          clear hs5 hf5
          go_wp2
          go_roundg g
          case rel => exact ⟨i + 1, true, _, by go_num, rfl, rfl, by omega, Lib.hid (by have := HM2.out; simpa using this), Lib.hid (by rw [HSTEP.out]; exact HS5.out), Lib.hid (own_slice hg5), HF5⟩
          case measure => omega
        | false =>
          by_cases hc : id < yi
          · have hgt : gtId id (⟨yi, yt, yl, yk⟩, .slice ya yn yc) = true := by unfold gtId; simpa using hc
            have HSTEP := Lib.hid (insTo_new (x := newL id n) HM.out HY.out hgt)
            have HM2 := Lib.hid (met_step HM.out HY.out)
            rw [hgt] at HM2
            have hnew := cells_new wr [.int .i64 id, .int .i64 n, .int .i64 n, .slice none 0 0] 57 (0, 0)
            have HNEW := Lib.hid hnew
            clear hnew hgt
            go_upto_region 13 with (at_builtin; refine wpList_app rfl _ _ 53 rfl 57 i0 _ 4 48 Try.underlying53 hi0 hz0 hz1 hz2 rfl (by decide) _ (insTo (gtId id) (newL id n) P i false) rfl (HS.out.alloc _) Z HN.out (HF.out.alloc _) wr.heap.size 1 (newL id n) rfl HNEW.out rfl (one_lvC _ rfl) (by unfold maxLen; omega) (by omega) ?_)
            intro g4 o4 cap4 w4 hs4 hg4 hf4 hlt4
            have hTw4 := H.out.fr0 (HFZ.out.trans0 hf4)
            have ht4 := hTw4.cell
            have lt4 := World.block_lt_of_cell? _ _ ht4
            obtain ⟨q0, q1, q2, q3⟩ := hTw4.cells HY.out
            have lq := World.block_lt_of_cell? _ _ q0
            dsimp only at q0 q1 q2 q3
            have HS4 := Lib.hid hs4
            have HF4 := Lib.hid hf4
            have hnew := cells_new w4 [.int .i64 yi, .int .i64 yt, .int .i64 yl, .slice ya yn yc] 57 (0, 0)
            have HNEW4 := Lib.hid hnew
            have hl4 : (insTo (gtId id) (newL id n) P i false ++ [newL id n]).length ≤ i + 2 := by rw [List.length_append, List.length_singleton]; omega
            clear hs4 hf4 hTw4 hnew x0 x1 x2 x3 lx f0 f1 f2 f3 lf ht lt
            go_wp2_with (at_builtin; refine wpList_app rfl _ _ 53 rfl 57 i0 _ 4 48 Try.underlying53 hi0 hz0 hz1 hz2 rfl (by decide) _ (insTo (gtId id) (newL id n) P i false ++ [newL id n]) rfl (HS4.out.alloc _) Z (own_slice hg4) (HF4.out.alloc _) w4.heap.size 1 (⟨yi, yt, yl, yk⟩, .slice ya yn yc) rfl HNEW4.out rfl (one_lvC _ rfl) (by unfold maxLen; omega) (by omega) ?_)
            intro g1 o1 cap1 w5 hs5 hg5 hf5 hlt5
            have HS5 := Lib.hid hs5
            have HF5 := Lib.hid hf5
            clear hs5 hf5
            go_wp2
            go_roundg g
            case rel => exact ⟨i + 1, true, _, by go_num, rfl, rfl, by omega, Lib.hid (by have := HM2.out; simpa using this), Lib.hid (by rw [HSTEP.out, List.append_assoc]; exact HS5.out), Lib.hid (own_slice hg5), HF5⟩
            case measure => omega
          · have hgt : gtId id (⟨yi, yt, yl, yk⟩, .slice ya yn yc) = false := by unfold gtId; simpa using hc
            have HSTEP := Lib.hid (insTo_not (p := gtId id) (x := newL id n) HY.out)
            have HM2 := Lib.hid (met_step HM.out HY.out)
            rw [hgt] at HM2
            have hnew := cells_new wr [.int .i64 yi, .int .i64 yt, .int .i64 yl, .slice ya yn yc] 57 (0, 0)
            have HNEW := Lib.hid hnew
            clear hnew hgt
            go_wp2_with (at_builtin; refine wpList_app rfl _ _ 53 rfl 57 i0 _ 4 48 Try.underlying53 hi0 hz0 hz1 hz2 rfl (by decide) _ (insTo (gtId id) (newL id n) P i false) rfl (HS.out.alloc _) Z HN.out (HF.out.alloc _) wr.heap.size 1 (⟨yi, yt, yl, yk⟩, .slice ya yn yc) rfl HNEW.out rfl (one_lvC _ rfl) (by unfold maxLen; omega) (by omega) ?_)
            intro g1 o1 cap1 w5 hs5 hg5 hf5 hlt5
            have HS5 := Lib.hid hs5
            have HF5 := Lib.hid hf5
            clear hs5 hf5
            go_wp2
            go_roundg g
            case rel => exact ⟨i + 1, false, _, by go_num, rfl, rfl, by omega, HM2, Lib.hid (by rw [HSTEP.out]; exact HS5.out), Lib.hid (own_slice hg5), HF5⟩
            case measure => omega
      | zero =>
        have hil : ¬ (i : Int) < (m : Int) := by omega
        obtain rfl : i = m := by omega
        have HIM : Hid (i = P.length) := Lib.hid hm.symm
        have hil : ¬ (i : Int) < (i : Int) := by omega
        cases d with
        | true =>
          have hs := HS.out
          rw [insTo_true HIM.out] at hs
          obtain ⟨ua, uc, rfl, _, _, _⟩ := hs.shape
          have HPUT := Lib.hid (H.out.put (HFZ.out.trans0 HF.out) hs (fun b hb => by have := HN.out b hb; omega) gtId_mem)
          rw [gtId_map] at HPUT
          clear hs hTw
          go_wp2
          go_ret
          exact ⟨by rw [E1.out]; rfl, by rw [E1.out, if_pos rfl]; exact HPUT.out⟩
        | false =>
          have hl2 := insTo_len (p := gtId id) (x := newL id n) (d := false) (show i ≤ P.length by omega)
          have hnew := cells_new wr [.int .i64 id, .int .i64 n, .int .i64 n, .slice none 0 0] 57 (0, 0)
          have HNEW := Lib.hid hnew
          clear hnew hTw
          go_wp2_with (at_builtin; refine wpList_app rfl _ _ 53 rfl 57 i0 _ 4 48 Try.underlying53 hi0 hz0 hz1 hz2 rfl (by decide) _ (insTo (gtId id) (newL id n) P i false) rfl (HS.out.alloc _) Z HN.out (HF.out.alloc _) wr.heap.size 1 (newL id n) rfl HNEW.out rfl (one_lvC _ rfl) (by unfold maxLen; omega) (by omega) ?_)
          intro g5 o5 cap5 w5 hs5 hg5 hf5 hlt5
          have HF5 := HFZ.out.trans0 hf5
          have ht5 := (H.out.fr0 HF5).cell
          have lt5 := World.block_lt_of_cell? _ _ ht5
          have hft5 := (H.out.fr0 HF5).tfree 0
          have hs6 : SlF w5 57 4 lvC (.slice (some ⟨g5, o5, none⟩) ((insTo (gtId id) (newL id n) P i false).length + 1) cap5) (insP (gtId id) (newL id n) P) := by rw [← insTo_false HIM.out HM.out]; exact hs5
          have HPUT := Lib.hid (H.out.put HF5 hs6 (fun b hb => by have := own_slice hg5 b hb; omega) gtId_mem)
          rw [gtId_map] at HPUT
          clear HF5 hs5 hs6 hf5
          go_wp2
          go_ret
          exact ⟨by rw [E1.out]; rfl, by rw [E1.out, if_pos rfl]; exact HPUT.out⟩
theorem filter_cut {R : List LV} {i : Nat} {x : LV} (hr : R.Pairwise fun a b => a.id < b.id) (hx : R[i]? = some x) : revokeR R x.id = R.take i ++ R.drop (i + 1) := by
  unfold revokeR
  induction R generalizing i with
  | nil => simp at hx
  | cons z R ih =>
    obtain ⟨h1, h2⟩ := List.pairwise_cons.1 hr
    cases i with
    | zero =>
      simp only [List.getElem?_cons_zero, Option.some.injEq] at hx
      subst hx
      rw [List.filter_cons_of_neg (by simp), List.filter_eq_self.2]
      · simp
      · intro y hy
        have := h1 y hy
        simp only [Bool.not_eq_true', beq_eq_false_iff_ne, ne_eq]
        omega
    | succ i =>
      simp only [List.getElem?_cons_succ] at hx
      have := h1 x (List.mem_of_getElem? hx)
      rw [List.filter_cons_of_pos (by simp only [Bool.not_eq_true', beq_eq_false_iff_ne, ne_eq]; omega), ih h2 hx]
      rfl
/-- An empty slice of a list's block. -/
theorem SlF.empty0 {α : Type} {f : α → List Value} {w : World} {e sz g o cap : Nat} {L : List α} (h : SlF w e sz f (.slice (some ⟨g, o, none⟩) L.length cap) L) : SlF w e sz f (.slice (some ⟨g, o, none⟩) 0 0) ([] : List α) := by
  obtain ⟨cur, hc, h1, h2, h3, h4⟩ := h.inner
  refine ⟨by simp, .inr ⟨g, o, 0, cur, rfl, hc, by simp, by simp, ?_, by simp⟩⟩
  have := Nat.zero_le (cap * sz)
  omega
/-- What the document's Revoke answers. -/
def rrevTo (w w' : World) (t : Nat) (R : List LV) (G : Nat → Prop) (id : Int) (e : Ending) : Prop := match getR R id with
  | some x => ∃ (a : Option Addr) (c : Nat), e = .returned (.tuple #[.slice a x.keys.length c, .int .i64 0]) ∧ SlF w' 9 1 strC (.slice a x.keys.length c) x.keys ∧ RfTo w w' t (revokeR R id) G
  | none => e = .returned (.tuple #[.slice none 0 0, .int .i64 35]) ∧ RfTo w w' t R G
theorem one_lvCs {w : World} {t : Nat} {v : Value} {P : List (LV × Value)} {G : Nat → Prop} (h : Rf w t v P G) : ∀ p ∈ P, ∀ u ∈ lvC p, u.oneCell' = true := fun p hp => by
  obtain ⟨a, c, hv, _⟩ := (h.keys p hp).1.shape
  exact one_lvC p hv
set_option maxHeartbeats 4000000 in
theorem rrevoke_calls {w : World} {t : Nat} {v : Value} {P : List (LV × Value)} {G : Nat → Prop} (h : Rf w t v P G) (hlen : P.length ≤ 100000) (hr : (P.map (·.1)).Pairwise fun a b => a.id < b.id) (id : Int) :
    Calls Try.prog 40 #[.pointer (some ⟨t, 0, none⟩), .int .i64 id] w fun e w' => rrevTo w w' t (P.map (·.1)) G id e := by
  have hat := at_calls h hlen id
  unfold idxR at hat
  unfold rrevTo
  cases hm : (P.map (·.1)).findIdx? fun x => x.id == id with
  | none =>
    rw [hm] at hat
    rw [idx_none hm]
    have HAT := Lib.hid hat
    have HS := Lib.hid (h.to_same (Fr.refl No w))
    clear h hat hm
    dsimp only at HAT ⊢
    go_enter Try.func40, Try.ntmps40
    go_wp2_with (go_at_call 45; (with_reducible refine HAT.out.mono ?_); rintro e w' ⟨rfl, rfl⟩)
    go_ret2
    exact ⟨rfl, HS.out⟩
  | some i =>
    rw [hm] at hat
    obtain ⟨x, hx, he, hg⟩ := idx_some hm
    rw [hg]
    have hil : i < P.length := by have := (List.getElem?_eq_some_iff.1 hx).1; simpa using this
    obtain ⟨p, hp⟩ : ∃ p, P[i]? = some p := ⟨_, List.getElem?_eq_getElem hil⟩
    have hpx : p.1 = x := by rw [List.getElem?_map, hp] at hx; simpa using hx
    have hcut := filter_cut hr hx
    rw [he] at hcut
    subst hpx
    have hpm := List.mem_of_getElem? hp
    have hone := one_lvCs h
    obtain ⟨a, cap, rfl, h1, h2, h3⟩ := h.sl.shape
    obtain ⟨ga, oa, rfl⟩ := h3 (by omega)
    have hc := h.cell
    obtain ⟨⟨xi, xt, xl, xk⟩, xv⟩ := p
    obtain ⟨f0, f1, f2, f3⟩ := h.cells hp
    have lf := World.block_lt_of_cell? _ _ f0
    have hks := (h.keys _ hpm).1
    obtain ⟨ka, kc, hkv, _, _, _⟩ := hks.shape
    dsimp only at hkv f0 f1 f2 f3 hks
    subst hkv
    have hta := h.sl.take lvC_length i (by omega)
    have hdr := h.sl.drop lvC_length (i + 1) (by omega)
    have hcut2 : revokeR (P.map (·.1)) id = (P.take i ++ P.drop (i + 1)).map (·.1) := by rw [hcut, List.map_append, List.map_take, List.map_drop]
    have HCUT := Lib.hid hcut2
    have HTA := Lib.hid hta
    have HDR := Lib.hid hdr
    have HKS := Lib.hid hks
    have HKT := Lib.hid (fun e => ((h.keys _ hpm).2 t e).2.1 rfl)
    have HAT := Lib.hid hat
    have HH := Lib.hid h
    have HONE := Lib.hid hone
    have hili : (i : Int) < (P.length : Int) := by omega
    have hcap : (P.length : Int) ≤ (cap : Int) := by omega
    have hw0 : 0 ≤ (i : Int) := by omega
    have hlt : t < w.heap.size := World.block_lt_of_cell? _ _ hc
    have hw1 : IntKind.i64.wrap ((i : Int) + 1) = (i : Int) + 1 := by rw [IntKind.wrap_i64]; omega
    unfold maxLen at h2
    obtain ⟨i0, hi0, hz0, hz1, hz2⟩ := info_parts info57
    generalize hkn : xk.length = xn at *
    have HKN := Lib.hid hkn
    clear h hat hm hx hg hp hpm h3 he hcut hcut2 hta hdr hks hone f0 f1 f2 hkn
    dsimp only at HAT ⊢
    go_enter Try.func40, Try.ntmps40
    go_upto_region 7 with (first
      | (go_at_call 45; (with_reducible refine HAT.out.mono ?_); rintro e w' ⟨rfl, rfl⟩)
      | (at_builtin; refine wpList_all rfl _ _ 53 rfl 57 i0 _ 4 48 Try.underlying53 hi0 hz0 hz1 hz2 rfl (by decide) lvC_length (.slice none 0 0) _ [] (P.take i) (fun p hp => HONE.out p (List.mem_of_mem_take hp)) rfl rfl (SlF.nil _ _ _ _) HTA.out w (by simp [Value.ownBlock]) (Fr.refl No w) (by rw [List.length_take]; unfold maxLen; simp only [List.length_nil]; omega) (by rw [List.length_take]; simp only [List.length_nil]; omega) ?_))
    intro b5 k5 cap5 w5 hs5 hn5 hf5
    have hH5 := HH.out.fr0 hf5
    have ht5 := hH5.cell
    have lt5 := World.block_lt_of_cell? _ _ ht5
    have HS5 := Lib.hid hs5
    have HN5 := Lib.hid hn5
    have HF5 := Lib.hid hf5
    by_cases hce : cap = i + 1
    · have hem := HH.out.sl.empty0
      have hd0 : P.length - (i + 1) = 0 := by omega
      have hdn : P.drop (i + 1) = [] := List.drop_of_length_le (by omega)
      have HDR5 : Hid (SlF w5 57 4 lvC (.slice (some ⟨ga, oa, none⟩) 0 0) (P.drop (i + 1))) := Lib.hid (by rw [hdn]; exact hem.fr0 hf5)
      clear hem hd0 hdn
      subst hce
      clear hs5 hn5 hf5 hH5
      go_wp2_with (at_builtin; (refine wpList_all rfl _ _ 53 rfl 57 i0 _ 4 48 Try.underlying53 hi0 hz0 hz1 hz2 rfl (by decide) lvC_length _ _ (P.take i) (P.drop (i + 1)) (fun p hp => HONE.out p (List.mem_of_mem_drop hp)) rfl rfl HS5.out HDR5.out w HN5.out HF5.out (by rw [List.length_take, List.length_drop]; unfold maxLen; omega) (by rw [List.length_take, List.length_drop]; omega) ?_))
      intro b6 k6 cap6 w6 hs6 hn6 hf6
      have hH6 := HH.out.fr0 hf6
      have ht6 := hH6.cell
      have lt6 := World.block_lt_of_cell? _ _ ht6
      have hft6 := hH6.tfree 0
      have hput := HH.out.put hf6 hs6 hn6 (fun q hq => by
        rcases List.mem_append.1 hq with h | h
        · exact .inl (List.mem_of_mem_take h)
        · exact .inl (List.mem_of_mem_drop h))
      rw [← HCUT.out] at hput
      have hks6 := (HKS.out.fr0 hf6).other ⟨t, 0, none⟩ (.slice b6 k6 cap6) HKT.out
      have HPUT := Lib.hid hput
      have HKS6 := Lib.hid hks6
      clear hH6 hput hks6 hs6 hn6 hf6
      go_wp2
      go_ret2
      exact ⟨ka, kc, by rw [HKN.out]; rfl, by rw [HKN.out]; exact HKS6.out, HPUT.out⟩
    · have HDR5 := Lib.hid (HDR.out.fr0 hf5)
      have hce2 : i + 1 < cap := by omega
      have hce3 : ¬ cap - (i + 1) = 0 := by omega
      clear hs5 hn5 hf5 hH5
      go_wp2_with (at_builtin; refine wpList_all rfl _ _ 53 rfl 57 i0 _ 4 48 Try.underlying53 hi0 hz0 hz1 hz2 rfl (by decide) lvC_length _ _ (P.take i) (P.drop (i + 1)) (fun p hp => HONE.out p (List.mem_of_mem_drop hp)) rfl rfl HS5.out HDR5.out w HN5.out HF5.out (by rw [List.length_take, List.length_drop]; unfold maxLen; omega) (by rw [List.length_take, List.length_drop]; omega) ?_)
      intro b6 k6 cap6 w6 hs6 hn6 hf6
      have hH6 := HH.out.fr0 hf6
      have ht6 := hH6.cell
      have lt6 := World.block_lt_of_cell? _ _ ht6
      have hft6 := hH6.tfree 0
      have hput := HH.out.put hf6 hs6 hn6 (fun q hq => by
        rcases List.mem_append.1 hq with h | h
        · exact .inl (List.mem_of_mem_take h)
        · exact .inl (List.mem_of_mem_drop h))
      rw [← HCUT.out] at hput
      have hks6 := (HKS.out.fr0 hf6).other ⟨t, 0, none⟩ (.slice b6 k6 cap6) HKT.out
      have HPUT := Lib.hid hput
      have HKS6 := Lib.hid hks6
      clear hH6 hput hks6 hs6 hn6 hf6
      go_wp2
      go_ret2
      exact ⟨ka, kc, by rw [HKN.out]; rfl, by rw [HKN.out]; exact HKS6.out, HPUT.out⟩
end Go.Proofs.Ytlomeohcgjgpjaa
