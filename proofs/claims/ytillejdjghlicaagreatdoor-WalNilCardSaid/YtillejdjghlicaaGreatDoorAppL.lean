/- An append of a whole list to a list. No condition but room. -/
import Derived.Test.YtillejdjghlicaaGreatDoorAppK
namespace Go.Proofs.YtillejdjghlicaaGreatDoor
open Go Go.Proofs Go.RowKit
set_option maxRecDepth 100000

theorem SlF.cells {α : Type} {f : α → List Value} {w : World} {e sz g o cap : Nat} {L : List α} (_hf : ∀ x, (f x).length = sz) (h : SlF w e sz f (.slice (some ⟨g, o, none⟩) L.length cap) L) (j : Nat) (u : Value) (hu : (L.flatMap f)[j]? = some u) : w.cell? ((⟨g, o, none⟩ : Addr).add j) = some u := by
  have hadd : (⟨g, o, none⟩ : Addr).add j = ⟨g, o + j, none⟩ := by unfold Addr.add; split <;> simp_all
  rw [hadd]
  exact Sl.cell h j hu
theorem run_append_zero {P : Program} (w : World) (t ty e : TypeId) (i : TypeInfo) (ht : P.underlying t = some (.slice e)) (hi : P.info? e = some i) (a sp : Option Addr) (n cap c : Nat) (hn : n ≤ cap) :
    (Builtin.append_ #[t, t] ty #[.slice a n cap, .slice sp 0 c]).run P w = .ok (.slice a n cap) w := by
  cases a <;> cases sp <;> simp [Builtin.append_, run_underlying ht, sizeOf, typeInfo, hi, Builtin.lenOf, hn, Builtin.firstCells, loadCells, loadCellsFrom, storeCells]

theorem run_append_allG {α : Type} {f : α → List Value} {P : Program} (w : World) (t ty e : TypeId) (i : TypeInfo) (z : Value) (ht : P.underlying t = some (.slice e)) (hi : P.info? e = some i) (hz : i.zero = some z) (hzs : z.cells.size = i.size) (hsz : 0 < i.size)
    (hf : ∀ x, (f x).length = i.size) (v x : Value) (L M : List α) (h1 : ∀ x ∈ M, ∀ u ∈ f x, u.oneCell' = true) (hv : SlF w e i.size f v L) (hx : SlF w e i.size f x M) (h63 : L.length + M.length ≤ maxLen) (hbytes : (L.length + M.length) * i.bytes ≤ 140737488355328) :
    ∃ v' w', (Builtin.append_ #[t, t] ty #[v, x]).run P w = .ok v' w' ∧ SlF w' e i.size f v' (L ++ M) ∧ Fr (fun b => v.ownBlock = some b) w w' ∧ (∀ b, v'.ownBlock = some b → v.ownBlock = some b ∨ w.heap.size ≤ b) := by
  rcases Nat.eq_zero_or_pos M.length with h0 | hp
  · obtain rfl := List.eq_nil_of_length_eq_zero h0
    obtain ⟨a, cap, rfl, hc, _⟩ := hv.shape
    obtain ⟨sp, c, rfl, _⟩ := hx.shape
    exact ⟨_, w, run_append_zero w t ty e i ht hi a sp _ cap c hc, by rw [List.append_nil]; exact hv, Fr.refl _ w, fun b hb => .inl hb⟩
  · obtain ⟨sp, c, rfl, hc1, hc2, hsp⟩ := hx.shape
    obtain ⟨g0, o0, rfl⟩ := hsp hp
    obtain ⟨g, o, cap, w', hr, h2, h3, h4, h5⟩ := run_append_sl (P := P) w t ty e i z ht hi hz hzs hsz v L.length (L.flatMap f) hv ⟨g0, o0, none⟩ M.length c (M.flatMap f) (flat_length hf M) hp
      (fun j u hu => SlF.cells hf hx j u hu) (fun u hu => by obtain ⟨y, hym, hy⟩ := List.mem_flatMap.1 hu; exact h1 y hym u hy) h63 hbytes
    refine ⟨_, w', hr, ?_, (Fr.refl _ w).grown h3 fun k hk => .inl hk, fun b hb => ?_⟩
    · unfold SlF
      rw [List.length_append, List.flatMap_append]
      exact h2
    · obtain rfl : g = b := by simpa [Value.ownBlock] using hb
      rcases h4 with e | e
      · exact .inl e
      · right; omega

/-- An append of a whole list to a list. -/
theorem wpList_allG {α : Type} {f : α → List Value} {P : Program} {w : World} {ops : Array Oper} {rest : List Oper} {o : Oper} {a : Act} {Q : Exit → Act → World → Prop} (hgd : o.guard = none) (s x : Operand) (t : TypeId)
    (ho : o.op = .call { callee := .builtin .append, args := #[s, x], argTypes := #[t, t] })
    (e : TypeId) (i : TypeInfo) (z : Value) (sz bytes : Nat) (ht : P.underlying t = some (.slice e)) (hi : P.info? e = some i) (hz : i.zero = some z) (hsize : i.size = sz) (hby : i.bytes = bytes) (hzs : z.cells.size = sz) (hsz : 0 < sz)
    (hf : ∀ x, (f x).length = sz) (v xv : Value) (L M : List α) (h1 : ∀ x ∈ M, ∀ u ∈ f x, u.oneCell' = true) (hs : a.eval s = v) (hx : a.eval x = xv) (hv : SlF w e sz f v L) (hxv : SlF w e sz f xv M)
    (h63 : L.length + M.length ≤ maxLen) (hbytes : (L.length + M.length) * bytes ≤ 140737488355328)
    (h : ∀ (b : Option Addr) (k cap : Nat) (w' : World), SlF w' e sz f (.slice b k cap) (L ++ M) → (∀ j, (Value.slice b k cap).ownBlock = some j → v.ownBlock = some j ∨ w.heap.size ≤ j) → Fr (fun b => v.ownBlock = some b) w w' → wpList P ops Q rest (a.put o.dst (.slice b k cap)) w') : wpList P ops Q (o :: rest) a w := by
  subst hsize
  subst hby
  refine wpList_plain hgd fun _ hK => ?_
  obtain ⟨v', w', hr, h2, h3, h4⟩ := run_append_allG (P := P) (f := f) w t o.type e i z ht hi hz hzs hsz hf v xv L M h1 hv hxv h63 hbytes
  obtain ⟨b, cap, rfl, _⟩ := h2.shape
  unfold Oper.wp execOp
  simp only [ho, resolve, invoke, builtin, Sem.run_bind, Sem.run_pure, Result.andThen_ok, List.map_toArray, List.map_cons, List.map_nil, hs, hx, hr]
  exact hK _ _ (h b _ cap w' h2 h4 h3)
end Go.Proofs.YtillejdjghlicaaGreatDoor
