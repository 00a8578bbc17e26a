/- Lemmas for the claim. Conditions stand in each. -/
import Derived.Test.YthljnnjpmdgkoaaGreatG15
import Derived.Test.YthljnnjpmdgkoaaGreatG40
namespace Go.Proofs.YthljnnjpmdgkoaaGreat
open Go Go.Proofs Go.ChangeShapes Go.WideShapes Go.ChangeAt Go.RowKit Go.Deep
set_option maxRecDepth 100000
section
variable {H : Type} {enc : TypeId × Value → H} {w : World} {base : Nat} {spare : Nat → Bool} {held : Bool}
theorem Tryz.cells36 : Tryz.prog.cellsOf 36 = 1 := by kernel_rfl
theorem Tryz.cells38 : Tryz.prog.cellsOf 38 = 12 := by kernel_rfl
theorem zvb (n : Nat) (cs : List Value) (x : DataW H × List MemPlace) (h : DataW.trod enc Tryz.prog w base spare held n 9 cs = some x) (_ : cs.length = 1) : ∃ y, cs = strC y := by
 obtain ⟨s, e, _⟩ := DataW.trod_string Tryz.underlying9 h; exact ⟨s, e⟩
theorem zvd (n : Nat) (cs : List Value) (x : DataW H × List MemPlace) (h : DataW.trod enc Tryz.prog w base spare held n 38 cs = some x) (hl : cs.length = 12) :
 ∃ q : Cal × List Opr × List ByteArray, cs = calC q ∧ SlR w 10 opC q.1.ops q.2.1 ∧ SlR w 1 strC q.1.keys q.2.2 := by
 obtain ⟨ys, n', _, _, _, hyl, hg⟩ := DataW.trod_struct Tryz.underlying38 h
 match cs, hl with
 | [c0, c1, c2, c3, c4, c5, c6, c7, c8, c9, c10, c11], _ =>
   match ys, hyl with
   | [y0, y1, y2, y3, y4, y5], _ =>
     have g0 : DataW.trod enc Tryz.prog w base spare held n' 3 [c0] = some y0 := (by have := hg 0 _ rfl; simpa [Tryz.cells3, Value.cells] using this); have g1 : DataW.trod enc Tryz.prog w base spare held n' 33 [c1] = some y1 := (by have := hg 1 _ rfl; simpa [Tryz.cells33, Value.cells] using this); have g2 : DataW.trod enc Tryz.prog w base spare held n' 35 [c2, c3, c4, c5, c6, c7, c8] = some y2 := (by have := hg 2 _ rfl; simpa [Tryz.cells35, Value.cells] using this); have g3 : DataW.trod enc Tryz.prog w base spare held n' 3 [c9] = some y3 := (by have := hg 3 _ rfl; simpa [Tryz.cells3, Value.cells] using this); have g4 : DataW.trod enc Tryz.prog w base spare held n' 3 [c10] = some y4 := (by have := hg 4 _ rfl; simpa [Tryz.cells3, Value.cells] using this)
     have g5 : DataW.trod enc Tryz.prog w base spare held n' 36 [c11] = some y5 := (by have := hg 5 _ rfl; simpa [Tryz.cells36, Value.cells] using this); obtain ⟨s0, e0, _⟩ := DataW.trod_int Tryz.underlying3 g0; obtain ⟨u1, L1, e1, h1, _⟩ := zlq opC Tryz.underlying33 Tryz.cells94 (by omega) zag (fun n cs x => zwt n cs x) g1; obtain ⟨r, e2⟩ := ztb _ _ _ g2 rfl; obtain ⟨s3, e3, _⟩ := DataW.trod_int Tryz.underlying3 g3; obtain ⟨s4, e4, _⟩ := DataW.trod_int Tryz.underlying3 g4; obtain ⟨u5, L5, e5, h5, _⟩ := zlq strC Tryz.underlying36 Tryz.cells9 (by omega) zdr (fun n cs x => zvb n cs x) g5; unfold rgC at e2; simp only [List.cons.injEq, and_true] at e0 e1 e2 e3 e4 e5; obtain ⟨rfl, rfl, rfl, rfl, rfl, rfl, rfl⟩ := e2; subst e0 e1 e3 e4 e5; exact ⟨(⟨s0, _, r, s3, s4, _⟩, L1, L5), rfl, h1, h5⟩
theorem zqq {b0 : Nat} {v : Value} {d : DataW H} {p : List MemPlace} (hv : Value.okWide Tryz.prog w .any b0 22 v) (h : DataW.Trod enc Tryz.prog w base spare held 22 v d p) : ∃ l, CalR w v l := by
 obtain ⟨a, len, cap, rfl⟩ := okWide_slice Tryz.underlying22 hv; obtain ⟨fuel, hf⟩ := h; simp only [Value.cells] at hf; rcases open_slice Tryz.underlying22 hf with ⟨he, _⟩ | ⟨a, len', cap', m, n, D, Pl, he, hb, hl, hm, hmm, hx, hi⟩
 · simp only [List.cons.injEq, and_true] at he
   rw [he]; exact ⟨[], ⟨SlR.nil _ _ _, by simp, by simp⟩⟩
 simp only [List.cons.injEq, and_true] at he
 rw [he]; have hlm : len' ≤ m := (by rw [hmm]; split <;> omega)
 obtain ⟨L, hL1, hL2⟩ := znn (fun i (y : Cal × List Opr × List ByteArray) => (∀ j, j < 12 → w.cell? ((a.add (i * 12)).add j) = (calC y)[j]?) ∧ SlR w 10 opC y.1.ops y.2.1 ∧ SlR w 1 strC y.1.keys y.2.2) len' fun i him => by
  obtain ⟨cs', hc, ht⟩ := hi i (by omega); rw [Tryz.cells38] at hc; obtain ⟨_, hcl, hat⟩ := World.cells?_some hc; obtain ⟨y, rfl, h1, h2⟩ := zvd _ _ _ ht hcl; exact ⟨y, hat, h1, h2⟩
 refine ⟨L, ⟨⟨some a, cap', by rw [hL1], by omega, hm, fun hp => ?_⟩, fun i q hq => (hL2 i q hq).2.1, fun i q hq => (hL2 i q hq).2.2⟩⟩; obtain ⟨g, o, sp⟩ := a
 have h0 : sp = none := by
  obtain ⟨x0, hx0⟩ : ∃ x0, L[0]? = some x0 := ⟨_, List.getElem?_eq_getElem hp⟩; have := (hL2 0 x0 hx0).1 0 (by decide); have hlt : 0 < (calC x0).length := (by rw [zat]; decide); rw [Nat.zero_mul] at this; simp only [Addr.add, if_true] at this; rw [List.getElem?_eq_getElem hlt] at this; unfold World.cell? at this
  cases sp with
  | none => rfl
  | some q =>
    simp only [Option.isSome_some, if_true] at this
    split at this <;> simp at this
 subst h0; refine ⟨g, o, rfl, fun i y hy j u hu' => ?_⟩
 have hj : j < 12 := by
  have := (List.getElem?_eq_some_iff.1 hu').1
  rwa [zat] at this
 have := (hL2 i y hy).1 j hj; rw [hu'] at this; rw [← this]
 congr 1
 unfold Addr.add; by_cases h1 : i * 12 = 0
 · by_cases h2 : j = 0
   · simp [h1, h2]
   simp [h1, h2]
 by_cases h2 : j = 0
 · simp [h1, h2]
 simp [h1, h2]
end
section
variable {H : Type} {enc : TypeId × Value → H} {w : World} {base : Nat} {spare : Nat → Bool} {held : Bool}
theorem zlr {b0 : Nat} {v : Value} {d : DataW H} {p : List MemPlace} (hv : Value.okWide Tryz.prog w .any b0 53 v) (h : DataW.Trod enc Tryz.prog w base spare held 53 v d p) : ∃ c, v = cmpV c := by
 obtain ⟨cs, rfl, hsz⟩ := okWide_struct Tryz.underlying53 hv; obtain ⟨l⟩ := cs; obtain ⟨fuel, hf⟩ := h; obtain ⟨r, hr⟩ := zvc _ _ _ hf (by have := hsz.trans Tryz.cells53; simpa [Value.cells] using this); refine ⟨r, ?_⟩; have : l = cmpC r := by simpa [Value.cells] using hr
 rw [this]
 rfl
end
end Go.Proofs.YthljnnjpmdgkoaaGreat