/- Own laws of lists in memory: a tail of a list, an append of one record and of a whole list (it may be empty) to a list of the call's own. No condition but room. -/
import Derived.Test.YtlomeohcgjgpjaaObs
namespace Go.Proofs.Ytlomeohcgjgpjaa
open Go Go.Proofs Go.RowKit
set_option maxRecDepth 100000

theorem Sl.inner {w : World} {e : TypeId} {sz : Nat} {g o n cap : Nat} {xs : List Value} (h : Sl w e sz (.slice (some ⟨g, o, none⟩) n cap) n xs) : ∃ cur, w.heap[g]? = some (.cells cur e (0, 0)) ∧ n ≤ cap ∧ cap ≤ maxLen ∧ o + cap * sz ≤ cur.size ∧ (cur.toList.drop o).take (n * sz) = xs := by
  rcases h.2 with ⟨h0, _⟩ | ⟨g', o', cap', cur, hv, hg, h1, h2, h3, h4⟩
  · cases h0
  · cases hv
    exact ⟨cur, hg, h1, h2, h3, h4⟩
theorem SlF.inner {α : Type} {f : α → List Value} {w : World} {e sz g o cap : Nat} {L : List α} (h : SlF w e sz f (.slice (some ⟨g, o, none⟩) L.length cap) L) : ∃ cur, w.heap[g]? = some (.cells cur e (0, 0)) ∧ L.length ≤ cap ∧ cap ≤ maxLen ∧ o + cap * sz ≤ cur.size ∧ (cur.toList.drop o).take (L.length * sz) = L.flatMap f := Sl.inner h
theorem SlF.cells {α : Type} {f : α → List Value} {w : World} {e sz g o cap : Nat} {L : List α} (_hf : ∀ x, (f x).length = sz) (h : SlF w e sz f (.slice (some ⟨g, o, none⟩) L.length cap) L) (j : Nat) (u : Value) (hu : (L.flatMap f)[j]? = some u) : w.cell? ((⟨g, o, none⟩ : Addr).add j) = some u := by
  have hadd : (⟨g, o, none⟩ : Addr).add j = ⟨g, o + j, none⟩ := by unfold Addr.add; split <;> simp_all
  rw [hadd]
  exact Sl.cell h j hu
/-- The tail of a slice. -/
theorem SlF.drop {α : Type} {f : α → List Value} {w : World} {e sz g o cap : Nat} {L : List α} (hf : ∀ x, (f x).length = sz) (h : SlF w e sz f (.slice (some ⟨g, o, none⟩) L.length cap) L) (k : Nat) (hk : k ≤ L.length) :
    SlF w e sz f (.slice (some ⟨g, o + k * sz, none⟩) (L.length - k) (cap - k)) (L.drop k) := by
  obtain ⟨cur, hc, h1, h2, h3, h4⟩ := h.inner
  have hm : k * sz + (cap - k) * sz = cap * sz := by rw [← Nat.add_mul]; congr 1; omega
  refine ⟨flat_length hf _, .inr ⟨g, o + k * sz, cap - k, cur, by rw [List.length_drop], hc, by rw [List.length_drop]; omega, by omega, by omega, ?_⟩⟩
  have h5 : (L.drop k).flatMap f = (L.flatMap f).drop (k * sz) := by
    have h6 := congrArg (fun l => List.flatMap f l) (List.take_append_drop k L)
    simp only [List.flatMap_append] at h6
    have h7 : ((L.take k).flatMap f).length = k * sz := by rw [flat_length hf]; congr 1; simp; omega
    conv => rhs; rw [← h6]
    rw [← h7, List.drop_left]
  rw [h5, ← h4, List.drop_take, List.drop_drop, List.length_drop, Nat.sub_mul]
theorem run_append_zero {P : Program} (w : World) (t ty e : TypeId) (i : TypeInfo) (ht : P.underlying t = some (.slice e)) (hi : P.info? e = some i) (a sp : Option Addr) (n cap c : Nat) (hn : n ≤ cap) :
    (Builtin.append_ #[t, t] ty #[.slice a n cap, .slice sp 0 c]).run P w = .ok (.slice a n cap) w := by
  cases a <;> cases sp <;> simp [Builtin.append_, run_underlying ht, sizeOf, typeInfo, hi, Builtin.lenOf, hn, Builtin.firstCells, loadCells, loadCellsFrom, storeCells]

theorem run_append_all {α : Type} {f : α → List Value} {P : Program} (w : World) (t ty e : TypeId) (i : TypeInfo) (z : Value) (ht : P.underlying t = some (.slice e)) (hi : P.info? e = some i) (hz : i.zero = some z) (hzs : z.cells.size = i.size) (hsz : 0 < i.size)
    (hf : ∀ x, (f x).length = i.size) (v x : Value) (L M : List α) (h1 : ∀ x ∈ M, ∀ u ∈ f x, u.oneCell' = true) (hv : SlF w e i.size f v L) (hx : SlF w e i.size f x M) (h63 : L.length + M.length ≤ maxLen) (hbytes : (L.length + M.length) * i.bytes ≤ 140737488355328) :
    ∃ v' w', (Builtin.append_ #[t, t] ty #[v, x]).run P w = .ok v' w' ∧ SlF w' e i.size f v' (L ++ M) ∧ Fr (fun b => v.ownBlock = some b) w w' ∧ (∀ b, v'.ownBlock = some b → v.ownBlock = some b ∨ w.heap.size ≤ b) := by
  rcases Nat.eq_zero_or_pos M.length with h0 | hp
  · obtain rfl := List.eq_nil_of_length_eq_zero h0
    obtain ⟨a, cap, rfl, hc, _⟩ := hv.shape
    obtain ⟨sp, c, rfl, _⟩ := hx.shape
    exact ⟨_, w, run_append_zero w t ty e i ht hi a sp _ cap c hc, by rw [List.append_nil]; exact hv, Fr.refl _ w, fun b hb => .inl hb⟩
  · obtain ⟨sp, c, rfl, hc1, hc2, hsp⟩ := hx.shape
    obtain ⟨g0, o0, rfl⟩ := hsp hp
    obtain ⟨g, o, cap, w', hr, h2, h3, h4, h5⟩ := run_append_sl (P := P) w t ty e i z ht hi hz hzs hsz v L.length (L.flatMap f) hv ⟨g0, o0, none⟩ M.length c (M.flatMap f) (flat_length hf M) hp
      (fun j u hu => SlF.cells hf hx j u hu) (fun u hu => by obtain ⟨y, hym, hy⟩ := List.mem_flatMap.1 hu; exact h1 y hym u hy) h63 hbytes
    refine ⟨_, w', hr, ?_, (Fr.refl _ w).grown h3 fun k hk => .inl hk, fun b hb => ?_⟩
    · unfold SlF
      rw [List.length_append, List.flatMap_append]
      exact h2
    · obtain rfl : g = b := by simpa [Value.ownBlock] using hb
      rcases h4 with e | e
      · exact .inl e
      · right; omega

/-- One append to a list of the call's own. -/
theorem wpList_app {α : Type} {f : α → List Value} {P : Program} {w : World} {ops : Array Oper} {rest : List Oper} {o : Oper} {a : Act} {Q : Exit → Act → World → Prop} (hgd : o.guard = none) (s x : Operand) (t : TypeId)
    (ho : o.op = .call { callee := .builtin .append, args := #[s, x], argTypes := #[t, t] })
    (e : TypeId) (i : TypeInfo) (z : Value) (sz bytes : Nat) (ht : P.underlying t = some (.slice e)) (hi : P.info? e = some i) (hz : i.zero = some z) (hsize : i.size = sz) (hby : i.bytes = bytes) (hzs : z.cells.size = sz) (hsz : 0 < sz)
    (v : Value) (L : List α) (hs : a.eval s = v) (hown : SlF w e sz f v L) (w0 : World) (hnb : ∀ k, v.ownBlock = some k → w0.heap.size ≤ k) (hfr : Fr No w0 w)
    (b c : Nat) (y : α) (hx : a.eval x = .slice (some ⟨b, 0, none⟩) 1 c) (hnews : ∀ j u, (f y)[j]? = some u → w.cell? ((⟨b, 0, none⟩ : Addr).add j) = some u) (hl : (f y).length = sz) (h1 : ∀ u ∈ f y, u.oneCell' = true)
    (h63 : L.length + 1 ≤ maxLen) (hbytes : (L.length + 1) * bytes ≤ 140737488355328)
    (h : ∀ g o' cap w', SlF w' e sz f (.slice (some ⟨g, o', none⟩) (L.length + 1) cap) (L ++ [y]) → w0.heap.size ≤ g → Fr No w0 w' → g < w'.heap.size →
      wpList P ops Q rest (a.put o.dst (.slice (some ⟨g, o', none⟩) (L.length + 1) cap)) w') : wpList P ops Q (o :: rest) a w := by
  refine wpList_append_f hgd s x t ho e i z sz bytes ht hi hz hsize hby hzs hsz v L hs hown b c y hx hnews hl h1 h63 hbytes ?_
  intro g o' cap w' h2 h3 h4 h5
  refine h g o' cap w' h2 ?_ (hfr.grown h3 fun k hk => .inr (hnb k hk)) h5
  rcases h4 with e | e
  · exact hnb _ e
  · rw [e]; exact hfr.size
theorem own_slice {g o n c : Nat} {B : Nat} (h : B ≤ g) : ∀ k, (Value.slice (some ⟨g, o, none⟩) n c).ownBlock = some k → B ≤ k := fun k hk => by simp [Value.ownBlock] at hk; omega

/-- An append of a whole list to a list of the call's own. -/
theorem wpList_all {α : Type} {f : α → List Value} {P : Program} {w : World} {ops : Array Oper} {rest : List Oper} {o : Oper} {a : Act} {Q : Exit → Act → World → Prop} (hgd : o.guard = none) (s x : Operand) (t : TypeId)
    (ho : o.op = .call { callee := .builtin .append, args := #[s, x], argTypes := #[t, t] })
    (e : TypeId) (i : TypeInfo) (z : Value) (sz bytes : Nat) (ht : P.underlying t = some (.slice e)) (hi : P.info? e = some i) (hz : i.zero = some z) (hsize : i.size = sz) (hby : i.bytes = bytes) (hzs : z.cells.size = sz) (hsz : 0 < sz)
    (hf : ∀ x, (f x).length = sz) (v xv : Value) (L M : List α) (h1 : ∀ x ∈ M, ∀ u ∈ f x, u.oneCell' = true) (hs : a.eval s = v) (hx : a.eval x = xv) (hv : SlF w e sz f v L) (hxv : SlF w e sz f xv M)
    (w0 : World) (hnb : ∀ k, v.ownBlock = some k → w0.heap.size ≤ k) (hfr : Fr No w0 w)
    (h63 : L.length + M.length ≤ maxLen) (hbytes : (L.length + M.length) * bytes ≤ 140737488355328)
    (h : ∀ (b : Option Addr) (k cap : Nat) (w' : World), SlF w' e sz f (.slice b k cap) (L ++ M) → (∀ j, (Value.slice b k cap).ownBlock = some j → w0.heap.size ≤ j) → Fr No w0 w' → wpList P ops Q rest (a.put o.dst (.slice b k cap)) w') : wpList P ops Q (o :: rest) a w := by
  subst hsize
  subst hby
  refine wpList_plain hgd fun _ hK => ?_
  obtain ⟨v', w', hr, h2, h3, h4⟩ := run_append_all (P := P) (f := f) w t o.type e i z ht hi hz hzs hsz hf v xv L M h1 hv hxv h63 hbytes
  have hfs := hfr.size
  have hf9 : Fr No w0 w' := hfr.trans h3 fun b hb h => absurd (hnb b h) (by omega)
  have hn9 : ∀ j, v'.ownBlock = some j → w0.heap.size ≤ j := fun j hj => (h4 j hj).elim (hnb j) fun h => by omega
  obtain ⟨b, cap, rfl, _⟩ := h2.shape
  unfold Oper.wp execOp
  simp only [ho, resolve, invoke, builtin, Sem.run_bind, Sem.run_pure, Result.andThen_ok, List.map_toArray, List.map_cons, List.map_nil, hs, hx, hr]
  exact hK _ _ (h b _ cap w' h2 hn9 hf9)
end Go.Proofs.Ytlomeohcgjgpjaa
