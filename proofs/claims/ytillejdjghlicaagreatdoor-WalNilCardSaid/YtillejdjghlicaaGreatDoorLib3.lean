/- Own lemmas on maps keyed by ints (MapAt): look up, store, delete, make. No condition but that keys are of int's range. -/
import Derived.Test.YtillejdjghlicaaGreatDoorLib
import Derived.Maps.OwnOps
import Derived.Maps.OwnSet
namespace Go.Proofs.YtillejdjghlicaaGreatDoor
open Go Go.RowKit Go.WideElems Go.ChangeMaps

/-- The block b is a map from ints that has f. -/
def MapAt (w : World) (b : Nat) (f : Int → Option Value) : Prop :=
  ∃ es clock, w.heap[b]? = some (.map es clock) ∧ MapKept.Stamped es clock ∧ (∀ e ∈ es.toList, ∃ n, e.key = .int .i64 n ∧ (Lit.int .i64 n).wf = true ∧ f n = some e.val) ∧
    ∀ n v, f n = some v → ∃ e ∈ es.toList, e.key = .int .i64 n ∧ e.val = v

theorem Fr.setAt {b : Nat} {a w : World} (h : Fr (fun x => x = b) a w) (i : Nat) (u : Value) : Fr (fun x => x = b) a (w.setCell ⟨b, i, none⟩ u) := h.setCell (p := ⟨b, i, none⟩) (.inl rfl) u
theorem MapAt.lt {w : World} {b : Nat} {f : Int → Option Value} (h : MapAt w b f) : b < w.heap.size := by
  obtain ⟨es, clock, hb, _⟩ := h
  exact heap_lt hb
theorem MapAt.keep {w w' : World} {b : Nat} {f : Int → Option Value} (h : MapAt w b f) (hk : w'.heap[b]? = w.heap[b]?) : MapAt w' b f := by
  obtain ⟨es, clock, hb, h⟩ := h
  exact ⟨es, clock, hk.trans hb, h⟩
theorem MapAt.fr {w w' : World} {b : Nat} {f : Int → Option Value} {S : Nat → Prop} (h : MapAt w b f) (hf : Fr S w w') (hn : ¬ S b) : MapAt w' b f := h.keep (hf.block b h.lt hn)
theorem MapAt.alloc {w : World} {b : Nat} {f : Int → Option Value} (h : MapAt w b f) (o : Obj) : MapAt (w.alloc o) b f := h.keep (Below.heap_alloc w o b h.lt)
theorem MapAt.made (w : World) : MapAt (w.alloc (.map #[] 0)) w.heap.size fun _ => none :=
  ⟨#[], 0, heap_alloc_new w _, MapKept.stamped_empty 0, by simp, by simp⟩
theorem MapAt.apart {w : World} {b : Nat} {f : Int → Option Value} (h : MapAt w b f) {cs : List Value} {c : Nat} (hc : Has w c cs) : b ≠ c := by
  rintro rfl
  obtain ⟨es, clock, hb, _⟩ := h
  obtain ⟨e, hc⟩ := hc
  rw [hb] at hc; cases hc

section
variable {P : Program} {w : World} {b : Nat} {f : Int → Option Value} {t k e : TypeId}

theorem keys_of (hk : P.underlying k = some (.int .i64)) {es : List MapEntry} (h : ∀ e ∈ es, ∃ n, e.key = .int .i64 n ∧ (Lit.int .i64 n).wf = true ∧ f n = some e.val) : ∀ e ∈ es, ∃ l, keyOf P k e.key = some l := by
  intro e he
  obtain ⟨n, h1, h2, _⟩ := h e he
  exact ⟨_, by rw [h1]; exact Maps.keyOf_int_mk hk h2⟩

theorem MapAt.look (h : MapAt w b f) (ht : P.underlying t = some (.map k e)) (hk : P.underlying k = some (.int .i64)) {n : Int} (hn : (Lit.int .i64 n).wf = true) {z : Value} (hz : (zeroValue e).run P w = .ok z w) :
    (Instr.lookup t (.map (some b)) (.int .i64 n) false).run P w = .ok ((f n).getD z) w := by
  obtain ⟨es, clock, hb, hst, h1, h2⟩ := h
  have K := Maps.int_keyed hk
  have hkey := Maps.keyOf_int_mk hk hn
  rcases K.find w hkey es.toList (keys_of hk h1) with ⟨g1, g2⟩ | ⟨j, e0, g1, g2, g3⟩
  · have : f n = none := by
      cases hf : f n with
      | none => rfl
      | some v =>
        obtain ⟨e1, he1, hek, _⟩ := h2 n v hf
        exact absurd hek (g2 e1 he1)
    simp [Instr.lookup, run_underlying ht, MapKept.run_getObj_map hb, K.check w _ hkey, g1, hz, Result.andThen, this]
  · obtain ⟨m, hm, _, hfm⟩ := h1 e0 (List.mem_of_getElem? g2)
    rw [g3] at hm; cases hm
    simp [Instr.lookup, run_underlying ht, MapKept.run_getObj_map hb, K.check w _ hkey, g1, Result.andThen, hfm]

theorem MapAt.store (h : MapAt w b f) (ht : P.underlying t = some (.map k e)) (hk : P.underlying k = some (.int .i64)) {n : Int} (hn : (Lit.int .i64 n).wf = true) (v : Value) :
    ∃ w', (Instr.mapUpdate t (.map (some b)) (.int .i64 n) v).run P w = .ok () w' ∧ MapAt w' b (fun m => if m = n then some v else f m) ∧ Fr (fun x => x = b) w w' ∧ w'.heap.size = w.heap.size := by
  obtain ⟨es, clock, hb, hst, h1, h2⟩ := h
  have K := Maps.int_keyed hk
  have hkey := Maps.keyOf_int_mk hk hn
  have hfr : ∀ o, Fr (fun x => x = b) w (setBlock w b o) := fun o => ⟨rfl, rfl, rfl, by simp [setBlock], fun i _ hi => heap_setBlock_other hb _ hi⟩
  rcases K.find w hkey es.toList (keys_of hk h1) with ⟨g1, g2⟩ | ⟨j, e0, g1, g2, g3⟩
  · refine ⟨setBlock w b (.map (es.push ⟨.int .i64 n, v, clock⟩) (clock + 1)), ?_, ⟨_, _, heap_setBlock_same hb _, MapKept.stamped_push hst g2, ?_, ?_⟩, hfr _, by simp [setBlock]⟩
    · simp [Instr.mapUpdate, run_underlying ht, MapKept.run_getObj_map hb, K.check w false hkey, g1, MapKept.run_setObj_map _ hb, Result.andThen, setBlock]
    · intro x hx
      simp only [Array.toList_push, List.mem_append, List.mem_singleton] at hx
      rcases hx with hx | rfl
      · obtain ⟨m, e1, e2, e3⟩ := h1 x hx
        refine ⟨m, e1, e2, ?_⟩
        dsimp only
        rw [if_neg (fun e => g2 x hx (by rw [e1, e]))]; exact e3
      · exact ⟨n, rfl, hn, by simp⟩
    · intro m u hu
      simp only [Array.toList_push, List.mem_append, List.mem_singleton]
      by_cases hmn : m = n
      · subst hmn
        simp at hu; subst hu
        exact ⟨_, .inr rfl, rfl, rfl⟩
      · dsimp only at hu
        rw [if_neg hmn] at hu
        obtain ⟨x, hx, hx'⟩ := h2 m u hu
        exact ⟨x, .inl hx, hx'⟩
  · have hj : es[j]? = some e0 := by simpa using g2
    have hjl : j < es.size := (Array.getElem?_eq_some_iff.1 hj).1
    have hkeyf : ∀ e', es[j]? = some e' → ({ e' with key := .int .i64 n, val := v } : MapEntry).key = e'.key := fun e' he' => by rw [hj] at he'; cases he'; exact g3.symm
    have hnd : es.toList.Pairwise (fun x y => x.key ≠ y.key) := ((MapKept.stamped_iff _ _).1 hst).2.2
    have hother : ∀ i x, es[i]? = some x → i ≠ j → x.key ≠ .int .i64 n := by
      intro i x hx hij e1
      have hil := (Array.getElem?_eq_some_iff.1 hx).1
      rw [List.pairwise_iff_getElem] at hnd
      have ex : es[i] = x := (Array.getElem?_eq_some_iff.1 hx).2
      have e0' : es[j] = e0 := (Array.getElem?_eq_some_iff.1 hj).2
      rcases Nat.lt_or_gt_of_ne hij with h | h
      · exact hnd i j (by simpa using hil) (by simpa using hjl) h (by simp [ex, e0', e1, g3])
      · exact hnd j i (by simpa using hjl) (by simpa using hil) h (by simp [ex, e0', e1, g3])
    refine ⟨setBlock w b (.map (es.modify j (fun e' => { e' with key := .int .i64 n, val := v })) clock), ?_,
      ⟨_, _, heap_setBlock_same hb _, MapKept.stamped_modify hst _ _ (fun _ _ => rfl) (fun e' _ he' => hkeyf e' he'), ?_, ?_⟩, hfr _, by simp [setBlock]⟩
    · simp [Instr.mapUpdate, run_underlying ht, MapKept.run_getObj_map hb, K.check w false hkey, g1, hj, g3, K.stays w hkey, MapKept.run_setObj_map _ hb, Result.andThen, setBlock]
    · intro x hx
      obtain ⟨i, hi⟩ := List.getElem?_of_mem hx
      have hi' : (es.modify j (fun e' => { e' with key := .int .i64 n, val := v }))[i]? = some x := by rw [Array.getElem?_toList] at hi; exact hi
      rw [Array.getElem?_modify] at hi'
      by_cases hji : j = i
      · rw [if_pos hji] at hi'
        obtain ⟨y, hy, rfl⟩ := Option.map_eq_some_iff.1 hi'
        exact ⟨n, rfl, hn, by simp⟩
      · rw [if_neg hji] at hi'
        obtain ⟨m, e1, e2, e3⟩ := h1 x (List.mem_of_getElem? (by simpa using hi'))
        refine ⟨m, e1, e2, ?_⟩
        dsimp only
        rw [if_neg (fun e => hother i x hi' (fun e' => hji e'.symm) (by rw [e1, e]))]; exact e3
    · intro m u hu
      by_cases hmn : m = n
      · subst hmn
        simp at hu; subst hu
        refine ⟨{ e0 with key := .int .i64 m, val := v }, ?_, rfl, rfl⟩
        refine List.mem_of_getElem? (i := j) ?_
        have : (es.modify j (fun e' => { e' with key := .int .i64 m, val := v }))[j]? = some { e0 with key := .int .i64 m, val := v } := by rw [Array.getElem?_modify, if_pos rfl, hj]; rfl
        rw [Array.getElem?_toList]; exact this
      · dsimp only at hu
        rw [if_neg hmn] at hu
        obtain ⟨x, hx, hx1, hx2⟩ := h2 m u hu
        obtain ⟨i, hi⟩ := List.getElem?_of_mem hx
        have hi' : es[i]? = some x := by simpa using hi
        have hij : j ≠ i := by
          rintro rfl
          rw [hj] at hi'; cases hi'
          rw [g3] at hx1; cases hx1; exact hmn rfl
        refine ⟨x, List.mem_of_getElem? (i := i) ?_, hx1, hx2⟩
        have : (es.modify j (fun e' => { e' with key := .int .i64 n, val := v }))[i]? = some x := by rw [Array.getElem?_modify, if_neg hij]; exact hi'
        rw [Array.getElem?_toList]; exact this

theorem MapAt.drop (h : MapAt w b f) (ht : P.underlying t = some (.map k e)) (hk : P.underlying k = some (.int .i64)) {n : Int} (hn : (Lit.int .i64 n).wf = true) (ty : TypeId) :
    ∃ w', (Builtin.delete_ #[t, k] ty #[.map (some b), .int .i64 n]).run P w = .ok (.tuple #[]) w' ∧ MapAt w' b (fun m => if m = n then none else f m) ∧ Fr (fun x => x = b) w w' ∧ w'.heap.size = w.heap.size := by
  obtain ⟨es, clock, hb, hst, h1, h2⟩ := h
  have K := Maps.int_keyed hk
  have hkey := Maps.keyOf_int_mk hk hn
  have hfr : ∀ o, Fr (fun x => x = b) w (setBlock w b o) := fun o => ⟨rfl, rfl, rfl, by simp [setBlock], fun i _ hi => heap_setBlock_other hb _ hi⟩
  rcases K.find w hkey es.toList (keys_of hk h1) with ⟨g1, g2⟩ | ⟨j, e0, g1, g2, g3⟩
  · refine ⟨setBlock w b (.map es clock), ?_, ⟨_, _, heap_setBlock_same hb _, hst, ?_, ?_⟩, hfr _, by simp [setBlock]⟩
    · simp [Builtin.delete_, run_underlying ht, MapKept.run_getObj_map hb, K.check w _ hkey, g1, MapKept.run_setObj_map _ hb, Result.andThen, setBlock]
    · intro x hx
      obtain ⟨m, e1, e2, e3⟩ := h1 x hx
      refine ⟨m, e1, e2, ?_⟩
      dsimp only
      rw [if_neg (fun e => g2 x hx (by rw [e1, e]))]; exact e3
    · intro m u hu
      dsimp only at hu
      split at hu
      · cases hu
      · exact h2 m u hu
  · have hj : es[j]? = some e0 := by simpa using g2
    have hjl : j < es.size := (Array.getElem?_eq_some_iff.1 hj).1
    have hsub : (es.eraseIdxIfInBounds j).toList = es.toList.eraseIdx j := by
      unfold Array.eraseIdxIfInBounds
      rw [dif_pos hjl]
      simp
    have hnd : es.toList.Pairwise (fun x y => x.key ≠ y.key) := ((MapKept.stamped_iff _ _).1 hst).2.2
    refine ⟨setBlock w b (.map (es.eraseIdxIfInBounds j) clock), ?_, ⟨_, _, heap_setBlock_same hb _, MapKept.stamped_erase hst j, ?_, ?_⟩, hfr _, by simp [setBlock]⟩
    · simp [Builtin.delete_, run_underlying ht, MapKept.run_getObj_map hb, K.check w _ hkey, g1, MapKept.run_setObj_map _ hb, Result.andThen, setBlock]
    · intro x hx
      rw [hsub] at hx
      obtain ⟨m, e1, e2, e3⟩ := h1 x ((List.eraseIdx_sublist _ _).subset hx)
      refine ⟨m, e1, e2, ?_⟩
      dsimp only
      rw [if_neg ?_]; exact e3
      rintro rfl
      obtain ⟨i, hi⟩ := List.mem_iff_getElem?.1 hx
      rw [List.pairwise_iff_getElem] at hnd
      rw [List.getElem?_eraseIdx] at hi
      have e0' : es[j] = e0 := (Array.getElem?_eq_some_iff.1 hj).2
      split at hi
      · rename_i hlt
        obtain ⟨hil, hx'⟩ := List.getElem?_eq_some_iff.1 hi
        exact hnd i j hil (by simpa using hjl) hlt (by rw [hx', e1]; simp [e0', g3])
      · rename_i hge
        obtain ⟨hil, hx'⟩ := List.getElem?_eq_some_iff.1 hi
        exact hnd j (i + 1) (by simpa using hjl) hil (by omega) (by rw [hx', e1]; simp [e0', g3])
    · intro m u hu
      dsimp only at hu
      split at hu
      · cases hu
      · rename_i hmn
        obtain ⟨x, hx, hx1, hx2⟩ := h2 m u hu
        refine ⟨x, ?_, hx1, hx2⟩
        rw [hsub]
        obtain ⟨i, hi⟩ := List.mem_iff_getElem?.1 hx
        refine List.mem_iff_getElem?.2 ?_
        have hij : i ≠ j := by
          rintro rfl
          have : es.toList[i]? = some e0 := g2
          rw [hi] at this; cases this
          rw [g3] at hx1; cases hx1; exact hmn rfl
        by_cases hlt : i < j
        · exact ⟨i, by rw [List.getElem?_eraseIdx, if_pos hlt]; exact hi⟩
        · exact ⟨i - 1, by rw [List.getElem?_eraseIdx, if_neg (by omega), show i - 1 + 1 = i from by omega]; exact hi⟩
/-- The world behind a store into a map. -/
def mapUpW (P : Program) (t : TypeId) (b : Nat) (n : Int) (v : Value) (w : World) : World := match (Instr.mapUpdate t (.map (some b)) (.int .i64 n) v).run P w with
  | .ok _ w' => w'
  | .halt _ w' => w'
theorem MapAt.up (h : MapAt w b f) (ht : P.underlying t = some (.map k e)) (hk : P.underlying k = some (.int .i64)) {n : Int} (hn : (Lit.int .i64 n).wf = true) (v : Value) :
    (Instr.mapUpdate t (.map (some b)) (.int .i64 n) v).run P w = .ok () (mapUpW P t b n v w) ∧ MapAt (mapUpW P t b n v w) b (fun m => if m = n then some v else f m) ∧ Fr (fun x => x = b) w (mapUpW P t b n v w) ∧ (mapUpW P t b n v w).heap.size = w.heap.size := by
  obtain ⟨w', hrun, h1, h2, h3⟩ := h.store ht hk hn v
  have e1 : mapUpW P t b n v w = w' := by unfold mapUpW; rw [hrun]
  rw [e1]
  exact ⟨hrun, h1, h2, h3⟩
end

/-- A look-up in the walk. -/
theorem wpList_look {P : Program} {w : World} {ops : Array Oper} {rest : List Oper} {o : Oper} {a : Act} {Q : Exit → Act → World → Prop} (hg : o.guard = none) (m x : Operand) (t : TypeId) (hop : o.op = Op.lookup t m x false)
    (k e : TypeId) (ht : P.underlying t = some (.map k e)) (hk : P.underlying k = some (.int .i64)) (b : Nat) (f : Int → Option Value) (hm : a.eval m = .map (some b)) (h : MapAt w b f) (n : Int) (hx : a.eval x = .int .i64 n)
    (hn : (Lit.int .i64 n).wf = true) (z : Value) (hz : (zeroValue e).run P w = .ok z w) (v : Value) (hv : (f n).getD z = v) (hK : wpList P ops Q rest (a.put o.dst v) w) : wpList P ops Q (o :: rest) a w := by
  refine wpList_plain hg fun K' hK' => ?_
  have hrun := h.look ht hk hn hz
  rw [hv] at hrun
  unfold Oper.wp
  simp [execOp, hop, hm, hx, hrun, Result.andThen]
  exact hK' _ _ hK
/-- A store into a map in the walk. -/
theorem wpList_store {P : Program} {w : World} {ops : Array Oper} {rest : List Oper} {o : Oper} {a : Act} {Q : Exit → Act → World → Prop} (hg : o.guard = none) (m x v : Operand) (t : TypeId) (hop : o.op = Op.mapUpdate t m x v)
    (k e : TypeId) (ht : P.underlying t = some (.map k e)) (hk : P.underlying k = some (.int .i64)) (b : Nat) (f : Int → Option Value) (hm : a.eval m = .map (some b)) (h : MapAt w b f) (n : Int) (hx : a.eval x = .int .i64 n)
    (hn : (Lit.int .i64 n).wf = true) (u : Value) (hv : a.eval v = u)
    (hK : ∀ w', MapAt w' b (fun m => if m = n then some u else f m) → Fr (fun x => x = b) w w' → w'.heap.size = w.heap.size → wpList P ops Q rest (a.put o.dst undef) w') : wpList P ops Q (o :: rest) a w := by
  refine wpList_plain hg fun K' hK' => ?_
  obtain ⟨w', hrun, r1, r2, r3⟩ := h.store ht hk hn u
  unfold Oper.wp
  simp [execOp, hop, hm, hx, hv, hrun, Result.andThen]
  exact hK' _ _ (hK w' r1 r2 r3)
/-- A delete in the walk. -/
theorem wpList_drop {P : Program} {w : World} {ops : Array Oper} {rest : List Oper} {o : Oper} {a : Act} {Q : Exit → Act → World → Prop} (hg : o.guard = none) (m x : Operand) (t k : TypeId) (hop : o.op = Op.call { callee := Callee.builtin Builtin.delete, args := #[m, x], argTypes := #[t, k] })
    (e : TypeId) (ht : P.underlying t = some (.map k e)) (hk : P.underlying k = some (.int .i64)) (b : Nat) (f : Int → Option Value) (hm : a.eval m = .map (some b)) (h : MapAt w b f) (n : Int) (hx : a.eval x = .int .i64 n)
    (hn : (Lit.int .i64 n).wf = true)
    (hK : ∀ w', MapAt w' b (fun m => if m = n then none else f m) → Fr (fun x => x = b) w w' → w'.heap.size = w.heap.size → wpList P ops Q rest (a.put o.dst (.tuple #[])) w') : wpList P ops Q (o :: rest) a w := by
  refine wpList_plain hg fun K' hK' => ?_
  obtain ⟨w', hrun, r1, r2, r3⟩ := h.drop ht hk hn o.type
  unfold Oper.wp
  simp [execOp, hop, resolve, invoke, builtin, hm, hx, hrun, Result.andThen]
  exact hK' _ _ (hK w' r1 r2 r3)
end Go.Proofs.YtillejdjghlicaaGreatDoor
