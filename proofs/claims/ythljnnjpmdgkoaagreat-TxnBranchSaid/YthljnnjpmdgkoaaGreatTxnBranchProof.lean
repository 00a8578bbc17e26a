/- THE STATEMENT TxnBranch: for all arguments the law's function returns true, and the arguments read as they did. No condition. -/
import Derived.Test.YthljnnjpmdgkoaaGreatTxnBranchWalk
import Derived.Test.YthljnnjpmdgkoaaGreatG38
import Derived.Test.YthljnnjpmdgkoaaGreatG39
import Derived.Test.YthljnnjpmdgkoaaGreatRows
import Derived.ProofKit
namespace Go.Proofs.YthljnnjpmdgkoaaGreat
open Go Go.Proofs Go.ChangeShapes Go.WideShapes Go.ChangeAt Go.RowKit
theorem Tryz.own : ownKnob Tryz.prog.godebug = none := by kernel_rfl
theorem Tryz.laidOut : laidOutB Tryz.prog = true := by kernel_rfl
set_option maxRecDepth 100000 in
theorem txnBranch_lifted (os : Os) (started : os.Started) (H : Type) (enc : TypeId × Value → H) :
 ReturnsInHanded {} Tryz.checked os 8 .any (Rows.txnBranchSpec.pre6 enc Tryz.prog Tryz.f8 Rows.txnBranchRow.domain false) (Rows.txnBranchSpec.post enc Tryz.prog Tryz.f8 false true false false) := by
 refine returnsInHanded_of_change (C := Tryz.checked) Tryz.own started (by kernel_rfl) Tryz.func8
  (ChangeSpec.witness6 (enc := enc) (C := Tryz.checked) false ⟨#[], #[.slice none 0 0, .agg #[.slice none 0 0, .slice none 0 0, .slice none 0 0]], []⟩ 9 (by kernel_rfl) (by kernel_rfl) (by kernel_rfl) (by kernel_rfl)) ?_
 intro W base args ds gs before hval0 hW hcnd _; have hval : ∀ (j : Nat) t v, Tryz.f8.params[j]? = some t → args[j]? = some v → Value.okWide Tryz.prog W .any base t v := hval0; have hW' := hW; obtain ⟨p, q, hA0, hV, rfl, hfz, hnd⟩ := hW; have hA : DataW.TrodAll enc Tryz.prog W 0 (fun _ => true) true Tryz.f8.params.toList args.toList ds p := hA0; rw [Tryz.params8] at hA hval; obtain ⟨v0, v1, d0, d1, p0, p1, rfl, rfl, rfl, h0, h1⟩ := trodAll_two hA; obtain ⟨rfl, rfl⟩ := trodVars_none hV; obtain ⟨l0, r0⟩ := zjj (hval 0 22 v0 rfl rfl) h0; obtain ⟨u10, u11, u12, cs1, la1, lb1, rfl, q10, q11, q12⟩ := zug (hval 1 57 v1 rfl rfl) h1; clear hA0 hval0; simp only [List.append_nil] at hW'; have hlt : ∀ x ∈ p0 ++ p1, x.block < W.heap.size := fun x hx => by simpa using hW'.lt x (by simpa using hx)
 refine (zit zmx ⟨zow.del⟩ W v0 u10 u11 u12 l0 cs1 la1 lb1 r0 q10 q11 q12).mono fun e W' ⟨he, hf⟩ => ?_; subst he; have hB : Below W.heap.size W W' := hf.below0; refine ⟨_, rfl, _, _, _, [], p0 ++ p1, [], hW', ?_, ?_, ?_, hB.frame _, fun h => by cases h⟩
 · exact trodAll_mk1 (shut_bool Tryz.underlying4 true)
 · exact trodAll_mk2 (Below.trod Tryz.laidOut (by kernel_rfl) (of_decide_eq_true (by kernel_rfl)) h0 hB (fun x hx => hlt x (by simp [hx]))) (Below.trod Tryz.laidOut (by kernel_rfl) (of_decide_eq_true (by kernel_rfl)) h1 hB (fun x hx => hlt x (by simp [hx])))
 · rfl
theorem txnBranch_holds : Rows.TxnBranchSaid :=
 OpenClaim.holds_of_wide 8 Tryz.f8 rfl rfl rfl rfl rfl rfl rfl ⟨rfl, rfl, rfl, rfl, rfl⟩ rfl rfl rfl rfl rfl (by kernel_rfl) Tryz.func8 (by kernel_rfl)
  (of_decide_eq_true (by kernel_rfl)) (by unfold Func.isWrapper; first | (rw [if_pos (by decide +kernel)]; kernel_rfl) | (rw [if_neg (by decide +kernel)]; exact ⟨rfl, rfl⟩))
  (fun os started H enc _ => txnBranch_lifted os started H enc)
#print axioms txnBranch_holds
end Go.Proofs.YthljnnjpmdgkoaaGreat
