/- THE STATEMENT StoreNil: for every call of a store the law's function returns true, and the argument reads as it did. No condition. -/
import Derived.Test.YthljnnjpmdgkoaaRows
import Derived.Test.YthljnnjpmdgkoaaStoreNilWalk
import Derived.Test.YthljnnjpmdgkoaaArgs
import Derived.ProofKit
namespace Go.Proofs.Ythljnnjpmdgkoaa
open Go Go.Proofs Go.ChangeShapes Go.WideShapes Go.ChangeAt Go.RowKit

theorem Try.own : ownKnob Try.prog.godebug = none := by kernel_rfl
theorem Try.laidOut : laidOutB Try.prog = true := by kernel_rfl

section
variable {H : Type} {enc : TypeId × Value → H} {w : World} {base : Nat} {spare : Nat → Bool} {held : Bool}
theorem Try.cells62 : Try.prog.cellsOf 62 = 1 := by kernel_rfl
theorem Try.cells64 : Try.prog.cellsOf 64 = 12 := by kernel_rfl
theorem open_str (n : Nat) (cs : List Value) (x : DataW H × List MemPlace) (h : DataW.trod enc Try.prog w base spare held n 9 cs = some x) (_ : cs.length = 1) : ∃ y, cs = strC y := by
  obtain ⟨s, e, _⟩ := DataW.trod_string Try.underlying9 h
  exact ⟨s, e⟩
set_option maxRecDepth 100000 in
/-- A call of a store. -/
theorem open_call {b0 : Nat} {v : Value} {d : DataW H} {p : List MemPlace} (hv : Value.okWide Try.prog w .any b0 64 v) (h : DataW.Trod enc Try.prog w base spare held 64 v d p) :
    ∃ q : Cal × List Opr × List ByteArray, v = .agg (calC q).toArray ∧ SlR w 10 opC q.1.ops q.2.1 ∧ SlR w 1 strC q.1.keys q.2.2 := by
  obtain ⟨cs, rfl, hsz⟩ := okWide_struct Try.underlying64 hv
  obtain ⟨l⟩ := cs
  match l, hsz.trans Try.cells64 with
  | [c0, c1, c2, c3, c4, c5, c6, c7, c8, c9, c10, c11], _ =>
    obtain ⟨fuel, hf⟩ := h
    obtain ⟨ys, n', _, _, _, hyl, hg⟩ := DataW.trod_struct Try.underlying64 hf
    match ys, hyl with
    | [y0, y1, y2, y3, y4, y5], _ =>
      have g0 : DataW.trod enc Try.prog w base spare held n' 3 [c0] = some y0 := by have := hg 0 _ rfl; simpa [Try.cells3, Value.cells] using this
      have g1 : DataW.trod enc Try.prog w base spare held n' 23 [c1] = some y1 := by have := hg 1 _ rfl; simpa [Try.cells23, Value.cells] using this
      have g2 : DataW.trod enc Try.prog w base spare held n' 38 [c2, c3, c4, c5, c6, c7, c8] = some y2 := by have := hg 2 _ rfl; simpa [Try.cells38, Value.cells] using this
      have g3 : DataW.trod enc Try.prog w base spare held n' 3 [c9] = some y3 := by have := hg 3 _ rfl; simpa [Try.cells3, Value.cells] using this
      have g4 : DataW.trod enc Try.prog w base spare held n' 3 [c10] = some y4 := by have := hg 4 _ rfl; simpa [Try.cells3, Value.cells] using this
      have g5 : DataW.trod enc Try.prog w base spare held n' 62 [c11] = some y5 := by have := hg 5 _ rfl; simpa [Try.cells62, Value.cells] using this
      obtain ⟨s0, e0, _⟩ := DataW.trod_int Try.underlying3 g0
      obtain ⟨u1, L1, e1, h1, _⟩ := open_list opC Try.underlying23 Try.cells87 (by omega) opC_length (fun n cs x => open_op n cs x) g1
      obtain ⟨r, e2⟩ := open_rg _ _ _ g2 rfl
      obtain ⟨s3, e3, _⟩ := DataW.trod_int Try.underlying3 g3
      obtain ⟨s4, e4, _⟩ := DataW.trod_int Try.underlying3 g4
      obtain ⟨u5, L5, e5, h5, _⟩ := open_list strC Try.underlying62 Try.cells9 (by omega) strC_length (fun n cs x => open_str n cs x) g5
      unfold rgC at e2
      simp only [List.cons.injEq, and_true] at e0 e1 e2 e3 e4 e5
      obtain ⟨rfl, rfl, rfl, rfl, rfl, rfl, rfl⟩ := e2
      subst e0 e1 e3 e4 e5
      exact ⟨(⟨s0, _, r, s3, s4, _⟩, L1, L5), rfl, h1, h5⟩
end

set_option maxRecDepth 100000 in
theorem storeNil_lifted (os : Os) (started : os.Started) (H : Type) (enc : TypeId × Value → H) :
    ReturnsInHanded {} Try.checked os 11 .any (Rows.storeNilSpec.pre6 enc Try.prog Try.f11 Rows.storeNilRow.domain false) (Rows.storeNilSpec.post enc Try.prog Try.f11 false true false false) := by
  refine returnsInHanded_of_change (C := Try.checked) Try.own started (by kernel_rfl) Try.func11
    (ChangeSpec.witness6 (enc := enc) (C := Try.checked) false ⟨#[], #[.agg #[.int .i64 0, .slice none 0 0, .string ByteArray.empty, .string ByteArray.empty, .int .i64 0, .int .i64 0, .bool false, .bool false, .bool false, .int .i64 0, .int .i64 0, .slice none 0 0]], []⟩ 8 (by kernel_rfl) (by kernel_rfl) (by kernel_rfl) (by kernel_rfl)) ?_
  intro W base args ds gs before hval0 hW hcnd _
  have hval : ∀ (j : Nat) t v, Try.f11.params[j]? = some t → args[j]? = some v → Value.okWide Try.prog W .any base t v := hval0
  have hW' := hW
  obtain ⟨p, q, hA0, hV, rfl, hfz, hnd⟩ := hW
  have hA : DataW.TrodAll enc Try.prog W 0 (fun _ => true) true Try.f11.params.toList args.toList ds p := hA0
  rw [Try.params11] at hA hval
  obtain ⟨v0, d0, rfl, rfl, h0⟩ := trodAll_one hA
  obtain ⟨rfl, rfl⟩ := trodVars_none hV
  obtain ⟨q0, rfl, r0, r1⟩ := open_call (hval 0 64 v0 rfl rfl) h0
  clear hA0 hval0
  simp only [List.append_nil] at hW'
  have hlt : ∀ x ∈ p, x.block < W.heap.size := fun x hx => by simpa using hW'.lt x hx
  refine (storeNil_walk W q0 r0 r1).mono fun e W' ⟨he, hf⟩ => ?_
  subst he
  have hB : Below W.heap.size W W' := hf.below0
  refine ⟨_, rfl, _, _, _, [], p, [], hW', ?_, ?_, ?_, hB.frame _, fun h => by cases h⟩
  · exact trodAll_mk1 (shut_bool Try.underlying4 true)
  · exact trodAll_mk1 (Below.trod Try.laidOut (by kernel_rfl) (of_decide_eq_true (by kernel_rfl)) h0 hB hlt)
  · rfl

theorem storeNil_holds : Rows.StoreNilSaid :=
  OpenClaim.holds_of_wide 11 Try.f11 rfl rfl rfl rfl rfl rfl rfl ⟨rfl, rfl, rfl, rfl, rfl⟩ rfl rfl rfl rfl rfl (by kernel_rfl) Try.func11 (by kernel_rfl)
    (of_decide_eq_true (by kernel_rfl)) (by unfold Func.isWrapper; first | (rw [if_pos (by decide +kernel)]; kernel_rfl) | (rw [if_neg (by decide +kernel)]; exact ⟨rfl, rfl⟩))
    (fun os started H enc _ => storeNil_lifted os started H enc)
#print axioms storeNil_holds
end Go.Proofs.Ythljnnjpmdgkoaa
