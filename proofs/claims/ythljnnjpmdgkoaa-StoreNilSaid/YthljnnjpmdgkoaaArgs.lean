/- The arguments of the statements opened: slices of compares and of ops as lists (SlR). Plain facts; no program is run. -/
import Derived.Test.YthljnnjpmdgkoaaTxn
import Derived.ProofKit
import Derived.Deep.Slices
import Derived.Deep.Fields
import Derived.ChangeSame
namespace Go.Proofs.Ythljnnjpmdgkoaa
open Go Go.Proofs Go.ChangeShapes Go.WideShapes Go.ChangeAt Go.RowKit Go.Deep
set_option maxRecDepth 100000

theorem list_of {α : Type} (P : Nat → α → Prop) : ∀ n : Nat, (∀ i, i < n → ∃ x, P i x) → ∃ L : List α, L.length = n ∧ ∀ (i : Nat) (x : α), L[i]? = some x → P i x
  | 0, _ => ⟨[], rfl, fun i x h => by simp at h⟩
  | n + 1, h => by
    obtain ⟨L, h1, h2⟩ := list_of P n fun i hi => h i (by omega)
    obtain ⟨x, hx⟩ := h n (by omega)
    refine ⟨L ++ [x], by simp [h1], fun i y hy => ?_⟩
    by_cases hi : i < L.length
    · rw [List.getElem?_append_left hi] at hy
      exact h2 i y hy
    · rw [List.getElem?_append_right (by omega)] at hy
      have h0 : i - L.length = 0 := by
        have := (List.getElem?_eq_some_iff.1 hy).1
        simp at this; omega
      rw [h0] at hy
      simp at hy
      subst hy
      rw [show i = n by omega]
      exact hx

section
variable {H : Type} {enc : TypeId × Value → H} {w : World} {base : Nat} {spare : Nat → Bool} {held : Bool}

theorem open_list {α : Type} {t e : TypeId} {sz : Nat} (f : α → List Value) (hu : Try.prog.underlying t = some (.slice e)) (hC : Try.prog.cellsOf e = sz) (hsz : 0 < sz) (hf : ∀ x, (f x).length = sz)
    (hel : ∀ n cs x, DataW.trod enc Try.prog w base spare held n e cs = some x → cs.length = sz → ∃ y, cs = f y) {fuel : Nat} {cs : List Value} {x : DataW H × List MemPlace}
    (h : DataW.trod enc Try.prog w base spare held fuel t cs = some x) : ∃ v L, cs = [v] ∧ SlR w sz f v L ∧ ∀ b, v.ownBlock = some b → base ≤ b := by
  rcases open_slice hu h with ⟨rfl, _⟩ | ⟨a, len, cap, m, n, D, Pl, rfl, hb, hl, hm, hmm, hx, hi⟩
  · exact ⟨_, [], rfl, SlR.nil _ _ _, by simp [Value.ownBlock]⟩
  · have hlm : len ≤ m := by rw [hmm]; split <;> omega
    obtain ⟨L, hL1, hL2⟩ := list_of (fun i y => ∀ j, j < sz → w.cell? ((a.add (i * sz)).add j) = (f y)[j]?) len fun i him => by
      obtain ⟨cs', hc, ht⟩ := hi i (by omega)
      rw [hC] at hc
      obtain ⟨_, hcl, hat⟩ := World.cells?_some hc
      obtain ⟨y, rfl⟩ := hel _ _ _ ht hcl
      exact ⟨y, hat⟩
    refine ⟨_, L, rfl, ⟨some a, cap, by rw [hL1], by omega, hm, fun hp => ?_⟩, fun b hb' => ?_⟩
    · obtain ⟨g, o, sp⟩ := a
      have h0 : sp = none := by
        have hx0 : ∃ x0, L[0]? = some x0 := ⟨_, List.getElem?_eq_getElem hp⟩
        obtain ⟨x0, hx0⟩ := hx0
        have := hL2 0 x0 hx0 0 hsz
        have hlt : 0 < (f x0).length := by rw [hf]; exact hsz
        rw [Nat.zero_mul] at this
        simp only [Addr.add, if_true] at this
        rw [List.getElem?_eq_getElem hlt] at this
        unfold World.cell? at this
        cases sp with
        | none => rfl
        | some q =>
          simp only [Option.isSome_some, if_true] at this
          split at this <;> simp at this
      subst h0
      refine ⟨g, o, rfl, fun i y hy j u hu' => ?_⟩
      have hj : j < sz := by
        have := (List.getElem?_eq_some_iff.1 hu').1
        rwa [hf] at this
      have := hL2 i y hy j hj
      rw [hu'] at this
      rw [← this]
      congr 1
      unfold Addr.add
      by_cases h1 : i * sz = 0
      · by_cases h2 : j = 0
        · simp [h1, h2]
        · simp [h1, h2]
      · by_cases h2 : j = 0
        · simp [h1, h2]
        · simp [h1, h2]
    · simp [Value.ownBlock] at hb'
      omega

theorem Try.cells9 : Try.prog.cellsOf 9 = 1 := by kernel_rfl
theorem Try.cells3 : Try.prog.cellsOf 3 = 1 := by kernel_rfl
theorem Try.cells4 : Try.prog.cellsOf 4 = 1 := by kernel_rfl
theorem Try.cells38 : Try.prog.cellsOf 38 = 7 := by kernel_rfl
theorem Try.cells32 : Try.prog.cellsOf 32 = 5 := by kernel_rfl
theorem Try.cells87 : Try.prog.cellsOf 87 = 10 := by kernel_rfl
theorem Try.cells22 : Try.prog.cellsOf 22 = 1 := by kernel_rfl
theorem Try.cells23 : Try.prog.cellsOf 23 = 1 := by kernel_rfl

theorem open_cmp (n : Nat) (cs : List Value) (x : DataW H × List MemPlace) (h : DataW.trod enc Try.prog w base spare held n 32 cs = some x) (hl : cs.length = 5) : ∃ y, cs = cmpC y := by
  obtain ⟨ys, n', _, _, _, hyl, hf⟩ := DataW.trod_struct Try.underlying32 h
  match cs, hl with
  | [c0, c1, c2, c3, c4], _ =>
    match ys, hyl with
    | [y0, y1, y2, y3, y4], _ =>
      have g0 : DataW.trod enc Try.prog w base spare held n' 9 [c0] = some y0 := by have := hf 0 _ rfl; simpa [Try.cells9] using this
      have g1 : DataW.trod enc Try.prog w base spare held n' 3 [c1] = some y1 := by have := hf 1 _ rfl; simpa [Try.cells3] using this
      have g2 : DataW.trod enc Try.prog w base spare held n' 3 [c2] = some y2 := by have := hf 2 _ rfl; simpa [Try.cells3] using this
      have g3 : DataW.trod enc Try.prog w base spare held n' 3 [c3] = some y3 := by have := hf 3 _ rfl; simpa [Try.cells3] using this
      have g4 : DataW.trod enc Try.prog w base spare held n' 9 [c4] = some y4 := by have := hf 4 _ rfl; simpa [Try.cells9] using this
      obtain ⟨s0, e0, _⟩ := DataW.trod_string Try.underlying9 g0
      obtain ⟨s1, e1, _⟩ := DataW.trod_int Try.underlying3 g1
      obtain ⟨s2, e2, _⟩ := DataW.trod_int Try.underlying3 g2
      obtain ⟨s3, e3, _⟩ := DataW.trod_int Try.underlying3 g3
      obtain ⟨s4, e4, _⟩ := DataW.trod_string Try.underlying9 g4
      simp only [List.cons.injEq, and_true] at e0 e1 e2 e3 e4
      subst e0 e1 e2 e3 e4
      exact ⟨⟨s0, s1, s2, s3, s4⟩, rfl⟩

theorem open_rg (n : Nat) (cs : List Value) (x : DataW H × List MemPlace) (h : DataW.trod enc Try.prog w base spare held n 38 cs = some x) (hl : cs.length = 7) : ∃ y, cs = rgC y := by
  obtain ⟨ys, n', _, _, _, hyl, hf⟩ := DataW.trod_struct Try.underlying38 h
  match cs, hl with
  | [c0, c1, c2, c3, c4, c5, c6], _ =>
    match ys, hyl with
    | [y0, y1, y2, y3, y4, y5, y6], _ =>
      have g0 : DataW.trod enc Try.prog w base spare held n' 9 [c0] = some y0 := by have := hf 0 _ rfl; simpa [Try.cells9] using this
      have g1 : DataW.trod enc Try.prog w base spare held n' 9 [c1] = some y1 := by have := hf 1 _ rfl; simpa [Try.cells9] using this
      have g2 : DataW.trod enc Try.prog w base spare held n' 3 [c2] = some y2 := by have := hf 2 _ rfl; simpa [Try.cells3] using this
      have g3 : DataW.trod enc Try.prog w base spare held n' 3 [c3] = some y3 := by have := hf 3 _ rfl; simpa [Try.cells3] using this
      have g4 : DataW.trod enc Try.prog w base spare held n' 4 [c4] = some y4 := by have := hf 4 _ rfl; simpa [Try.cells4] using this
      have g5 : DataW.trod enc Try.prog w base spare held n' 4 [c5] = some y5 := by have := hf 5 _ rfl; simpa [Try.cells4] using this
      have g6 : DataW.trod enc Try.prog w base spare held n' 4 [c6] = some y6 := by have := hf 6 _ rfl; simpa [Try.cells4] using this
      obtain ⟨s0, e0, _⟩ := DataW.trod_string Try.underlying9 g0
      obtain ⟨s1, e1, _⟩ := DataW.trod_string Try.underlying9 g1
      obtain ⟨s2, e2, _⟩ := DataW.trod_int Try.underlying3 g2
      obtain ⟨s3, e3, _⟩ := DataW.trod_int Try.underlying3 g3
      obtain ⟨s4, e4, _⟩ := DataW.trod_bool Try.underlying4 g4
      obtain ⟨s5, e5, _⟩ := DataW.trod_bool Try.underlying4 g5
      obtain ⟨s6, e6, _⟩ := DataW.trod_bool Try.underlying4 g6
      simp only [List.cons.injEq, and_true] at e0 e1 e2 e3 e4 e5 e6
      subst e0 e1 e2 e3 e4 e5 e6
      exact ⟨⟨s0, s1, s2, s3, s4, s5, s6⟩, rfl⟩

theorem open_op (n : Nat) (cs : List Value) (x : DataW H × List MemPlace) (h : DataW.trod enc Try.prog w base spare held n 87 cs = some x) (hl : cs.length = 10) : ∃ y, cs = opC y := by
  obtain ⟨ys, n', _, _, _, hyl, hf⟩ := DataW.trod_struct Try.underlying87 h
  match cs, hl with
  | [c0, c1, c2, c3, c4, c5, c6, c7, c8, c9], _ =>
    match ys, hyl with
    | [y0, y1, y2, y3], _ =>
      have g0 : DataW.trod enc Try.prog w base spare held n' 3 [c0] = some y0 := by have := hf 0 _ rfl; simpa [Try.cells3] using this
      have g1 : DataW.trod enc Try.prog w base spare held n' 38 [c1, c2, c3, c4, c5, c6, c7] = some y1 := by have := hf 1 _ rfl; simpa [Try.cells38] using this
      have g2 : DataW.trod enc Try.prog w base spare held n' 9 [c8] = some y2 := by have := hf 2 _ rfl; simpa [Try.cells9] using this
      have g3 : DataW.trod enc Try.prog w base spare held n' 3 [c9] = some y3 := by have := hf 3 _ rfl; simpa [Try.cells3] using this
      obtain ⟨s0, e0, _⟩ := DataW.trod_int Try.underlying3 g0
      obtain ⟨r, e1⟩ := open_rg _ _ _ g1 rfl
      obtain ⟨s2, e2, _⟩ := DataW.trod_string Try.underlying9 g2
      obtain ⟨s3, e3, _⟩ := DataW.trod_int Try.underlying3 g3
      unfold rgC at e1
      simp only [List.cons.injEq, and_true] at e0 e1 e2 e3
      obtain ⟨rfl, rfl, rfl, rfl, rfl, rfl, rfl⟩ := e1
      subst e0 e2 e3
      exact ⟨⟨s0, r, s2, s3⟩, rfl⟩

/-- A slice of ops. -/
theorem open_ops {b0 : Nat} {v : Value} {d : DataW H} {p : List MemPlace} (hv : Value.okWide Try.prog w .any b0 23 v) (h : DataW.Trod enc Try.prog w base spare held 23 v d p) : ∃ l, SlR w 10 opC v l := by
  obtain ⟨a, len, cap, rfl⟩ := okWide_slice Try.underlying23 hv
  obtain ⟨fuel, hf⟩ := h
  obtain ⟨u, L, e, h1, _⟩ := open_list opC Try.underlying23 Try.cells87 (by omega) opC_length (fun n cs x => open_op n cs x) hf
  simp only [Value.cells, List.cons.injEq, and_true] at e
  subst e
  exact ⟨L, h1⟩
/-- A range. -/
theorem open_range {b0 : Nat} {v : Value} {d : DataW H} {p : List MemPlace} (hv : Value.okWide Try.prog w .any b0 38 v) (h : DataW.Trod enc Try.prog w base spare held 38 v d p) : ∃ r, v = rgV r := by
  obtain ⟨cs, rfl, hsz⟩ := okWide_struct Try.underlying38 hv
  obtain ⟨l⟩ := cs
  obtain ⟨fuel, hf⟩ := h
  obtain ⟨r, hr⟩ := open_rg _ _ _ hf (by have := hsz.trans Try.cells38; simpa [Value.cells] using this)
  refine ⟨r, ?_⟩
  have : l = rgC r := by simpa [Value.cells] using hr
  rw [this]
  rfl
/-- A transaction's three slices. -/
theorem open_txn {b0 : Nat} {v : Value} {d : DataW H} {p : List MemPlace} (hv : Value.okWide Try.prog w .any b0 25 v) (h : DataW.Trod enc Try.prog w base spare held 25 v d p) :
    ∃ v0 v1 v2 cs la lb, v = .agg #[v0, v1, v2] ∧ SlR w 5 cmpC v0 cs ∧ SlR w 10 opC v1 la ∧ SlR w 10 opC v2 lb := by
  obtain ⟨cs, rfl, hsz⟩ := okWide_struct Try.underlying25 hv
  obtain ⟨l⟩ := cs
  have h25 : Try.prog.cellsOf 25 = 3 := by kernel_rfl
  match l, hsz.trans h25 with
  | [c0, c1, c2], _ =>
    obtain ⟨fuel, hf⟩ := h
    obtain ⟨ys, n', _, _, _, hyl, hg⟩ := DataW.trod_struct Try.underlying25 hf
    match ys, hyl with
    | [y0, y1, y2], _ =>
      have g0 : DataW.trod enc Try.prog w base spare held n' 22 [c0] = some y0 := by have := hg 0 _ rfl; simpa [Try.cells22, Value.cells] using this
      have g1 : DataW.trod enc Try.prog w base spare held n' 23 [c1] = some y1 := by have := hg 1 _ rfl; simpa [Try.cells23, Value.cells] using this
      have g2 : DataW.trod enc Try.prog w base spare held n' 23 [c2] = some y2 := by have := hg 2 _ rfl; simpa [Try.cells23, Value.cells] using this
      obtain ⟨u0, L0, e0, h0, _⟩ := open_list cmpC Try.underlying22 Try.cells32 (by omega) cmpC_length (fun n cs x => open_cmp n cs x) g0
      obtain ⟨u1, L1, e1, h1, _⟩ := open_list opC Try.underlying23 Try.cells87 (by omega) opC_length (fun n cs x => open_op n cs x) g1
      obtain ⟨u2, L2, e2, h2, _⟩ := open_list opC Try.underlying23 Try.cells87 (by omega) opC_length (fun n cs x => open_op n cs x) g2
      simp only [List.cons.injEq, and_true] at e0 e1 e2
      subst e0 e1 e2
      exact ⟨_, _, _, L0, L1, L2, rfl, h0, h1, h2⟩
end
end Go.Proofs.Ythljnnjpmdgkoaa
