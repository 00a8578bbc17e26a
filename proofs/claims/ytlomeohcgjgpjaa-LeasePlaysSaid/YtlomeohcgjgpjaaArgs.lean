/- The arguments of the statements opened: a slice of calls, a call, a number. Plain facts; no program is run. -/
import Derived.Test.YtlomeohcgjgpjaaDo
import Derived.Test.YtlomeohcgjgpjaaRead
import Derived.ProofKit
import Derived.Deep.Slices
import Derived.Deep.Fields
import Derived.ChangeSame
namespace Go.Proofs.Ytlomeohcgjgpjaa
open Go Go.Proofs Go.ChangeShapes Go.WideShapes Go.ChangeAt Go.RowKit Go.Deep
set_option maxRecDepth 100000

theorem Try.own : ownKnob Try.prog.godebug = none := by kernel_rfl
theorem Try.laidOut : laidOutB Try.prog = true := by kernel_rfl
def OpsOk (l : List LOp) : Prop := ∀ o ∈ l, OpW o
theorem list_of {α : Type} (P : Nat → α → Prop) : ∀ n : Nat, (∀ i, i < n → ∃ x, P i x) → ∃ L : List α, L.length = n ∧ ∀ (i : Nat) (x : α), L[i]? = some x → P i x
  | 0, _ => ⟨[], rfl, fun i x h => by simp at h⟩
  | n + 1, h => by
    obtain ⟨L, h1, h2⟩ := list_of P n fun i hi => h i (by omega)
    obtain ⟨x, hx⟩ := h n (by omega)
    refine ⟨L ++ [x], by simp [h1], fun i y hy => ?_⟩
    by_cases hi : i < L.length
    · rw [List.getElem?_append_left hi] at hy
      exact h2 i y hy
    · rw [List.getElem?_append_right (by omega)] at hy
      have h0 : i - L.length = 0 := by
        have := (List.getElem?_eq_some_iff.1 hy).1
        simp at this; omega
      rw [h0] at hy
      simp at hy
      subst hy
      rw [show i = n by omega]
      exact hx

section
variable {H : Type} {enc : TypeId × Value → H} {w : World} {base : Nat} {spare : Nat → Bool} {held : Bool}
theorem open_list {α : Type} {Q : α → Prop} {t e : TypeId} {sz : Nat} (f : α → List Value) (hu : Try.prog.underlying t = some (.slice e)) (hC : Try.prog.cellsOf e = sz) (hsz : 0 < sz) (hf : ∀ x, (f x).length = sz)
    (hel : ∀ n cs x, DataW.trod enc Try.prog w base spare held n e cs = some x → cs.length = sz → ∃ y, cs = f y ∧ Q y) {fuel : Nat} {cs : List Value} {x : DataW H × List MemPlace}
    (h : DataW.trod enc Try.prog w base spare held fuel t cs = some x) : ∃ v L, cs = [v] ∧ SlR w sz f v L ∧ ∀ y ∈ L, Q y := by
  rcases open_slice hu h with ⟨rfl, _⟩ | ⟨a, len, cap, m, n, D, Pl, rfl, hb, hl, hm, hmm, hx, hi⟩
  · exact ⟨_, [], rfl, SlR.nil _ _ _, by simp⟩
  · have hlm : len ≤ m := by rw [hmm]; split <;> omega
    obtain ⟨L, hL1, hL3⟩ := list_of (fun i y => (∀ j, j < sz → w.cell? ((a.add (i * sz)).add j) = (f y)[j]?) ∧ Q y) len fun i him => by
      obtain ⟨cs', hc, ht⟩ := hi i (by omega)
      rw [hC] at hc
      obtain ⟨_, hcl, hat⟩ := World.cells?_some hc
      obtain ⟨y, rfl, hq⟩ := hel _ _ _ ht hcl
      exact ⟨y, hat, hq⟩
    have hL2 := fun i x h => (hL3 i x h).1
    refine ⟨_, L, rfl, ⟨some a, cap, by rw [hL1], by omega, hm, fun hp => ?_⟩, fun y hy => ?_⟩
    · obtain ⟨g, o, sp⟩ := a
      have h0 : sp = none := by
        have hx0 : ∃ x0, L[0]? = some x0 := ⟨_, List.getElem?_eq_getElem hp⟩
        obtain ⟨x0, hx0⟩ := hx0
        have := hL2 0 x0 hx0 0 hsz
        have hlt : 0 < (f x0).length := by rw [hf]; exact hsz
        rw [Nat.zero_mul] at this
        simp only [Addr.add, if_true] at this
        rw [List.getElem?_eq_getElem hlt] at this
        unfold World.cell? at this
        cases sp with
        | none => rfl
        | some q =>
          simp only [Option.isSome_some, if_true] at this
          split at this <;> simp at this
      subst h0
      refine ⟨g, o, rfl, fun i y hy j u hu' => ?_⟩
      have hj : j < sz := by
        have := (List.getElem?_eq_some_iff.1 hu').1
        rwa [hf] at this
      have := hL2 i y hy j hj
      rw [hu'] at this
      rw [← this]
      congr 1
      unfold Addr.add
      by_cases h1 : i * sz = 0
      · by_cases h2 : j = 0
        · simp [h1, h2]
        · simp [h1, h2]
      · by_cases h2 : j = 0
        · simp [h1, h2]
        · simp [h1, h2]
    · obtain ⟨i, hi', rfl⟩ := List.mem_iff_getElem.1 hy
      exact (hL3 i _ (List.getElem?_eq_getElem hi')).2

theorem Try.cells9 : Try.prog.cellsOf 9 = 1 := by kernel_rfl
theorem Try.cells3 : Try.prog.cellsOf 3 = 1 := by kernel_rfl
theorem Try.cells24 : Try.prog.cellsOf 24 = 4 := by kernel_rfl

theorem open_opc (n : Nat) (cs : List Value) (x : DataW H × List MemPlace) (h : DataW.trod enc Try.prog w base spare held n 24 cs = some x) (hl : cs.length = 4) : ∃ y, cs = opC y ∧ OpW y := by
  obtain ⟨ys, n', _, _, _, hyl, hf⟩ := DataW.trod_struct Try.underlying24 h
  match cs, hl with
  | [c0, c1, c2, c3], _ =>
    match ys, hyl with
    | [y0, y1, y2, y3], _ =>
      have g0 : DataW.trod enc Try.prog w base spare held n' 3 [c0] = some y0 := by have := hf 0 _ rfl; simpa [Try.cells3] using this
      have g1 : DataW.trod enc Try.prog w base spare held n' 3 [c1] = some y1 := by have := hf 1 _ rfl; simpa [Try.cells3] using this
      have g2 : DataW.trod enc Try.prog w base spare held n' 3 [c2] = some y2 := by have := hf 2 _ rfl; simpa [Try.cells3] using this
      have g3 : DataW.trod enc Try.prog w base spare held n' 9 [c3] = some y3 := by have := hf 3 _ rfl; simpa [Try.cells9] using this
      obtain ⟨s0, e0, _, b0⟩ := DataW.trod_int Try.underlying3 g0
      obtain ⟨s1, e1, _, b1⟩ := DataW.trod_int Try.underlying3 g1
      obtain ⟨s2, e2, _, b2⟩ := DataW.trod_int Try.underlying3 g2
      obtain ⟨s3, e3, _, b3⟩ := DataW.trod_string Try.underlying9 g3
      simp only [List.cons.injEq, and_true] at e0 e1 e2 e3
      subst e0 e1 e2 e3
      exact ⟨⟨s0, s1, s2, s3⟩, rfl, b0, b1, b2, b3⟩

/-- A slice of calls. -/
theorem open_ops {b0 : Nat} {v : Value} {d : DataW H} {p : List MemPlace} (hv : Value.okWide Try.prog w .any b0 22 v) (h : DataW.Trod enc Try.prog w base spare held 22 v d p) : ∃ l, SlR w 4 opC v l ∧ OpsOk l := by
  obtain ⟨a, len, cap, rfl⟩ := okWide_slice Try.underlying22 hv
  obtain ⟨fuel, hf⟩ := h
  obtain ⟨u, L, e, h1, h2⟩ := open_list opC Try.underlying22 Try.cells24 (by omega) opC_length (fun n cs x => open_opc n cs x) hf
  simp only [Value.cells, List.cons.injEq, and_true] at e
  subst e
  exact ⟨L, h1, h2⟩
/-- A call. -/
theorem open_op {b0 : Nat} {v : Value} {d : DataW H} {p : List MemPlace} (hv : Value.okWide Try.prog w .any b0 24 v) (h : DataW.Trod enc Try.prog w base spare held 24 v d p) : ∃ o, v = opV o ∧ OpW o := by
  obtain ⟨cs, rfl, hsz⟩ := okWide_struct Try.underlying24 hv
  obtain ⟨l⟩ := cs
  obtain ⟨fuel, hf⟩ := h
  obtain ⟨r, hr, ho⟩ := open_opc _ _ _ hf (by have := hsz.trans Try.cells24; simpa [Value.cells] using this)
  refine ⟨r, ?_, ho⟩
  have : l = opC r := by simpa [Value.cells] using hr
  rw [this]
  rfl
/-- A number. -/
theorem open_num {v : Value} {d : DataW H} {p : List MemPlace} {b0 : Nat} (hv : Value.okWide Try.prog w .any b0 3 v) (h : DataW.Trod enc Try.prog w base spare held 3 v d p) : ∃ n : Int, v = .int .i64 n ∧ (Lit.int .i64 n).wf = true := by
  obtain ⟨k, rfl⟩ := okWide_int Try.underlying3 hv
  obtain ⟨fuel, hf⟩ := h
  obtain ⟨n, e, _, hb⟩ := DataW.trod_int Try.underlying3 hf
  simp only [Value.cells, List.cons.injEq, Value.int.injEq, and_true] at e
  exact ⟨k, rfl, by rw [e.2]; exact hb⟩
end
end Go.Proofs.Ytlomeohcgjgpjaa
