/- THE STATEMENT ImageNil: the law's function returns true. No condition. -/
import Derived.Test.YthljnnjpmdgkoaaN12
import Derived.Test.YthljnnjpmdgkoaaImageNilWalk
import Derived.Test.YthljnnjpmdgkoaaRows
import Derived.ProofKit
namespace Go.Proofs.Ythljnnjpmdgkoaa
open Go Go.Proofs Go.ChangeShapes Go.WideShapes Go.ChangeAt Go.RowKit
theorem Try.own:ownKnob Try.prog.godebug=none:=by kernel_rfl
theorem Try.laidOut:laidOutB Try.prog=true:=by kernel_rfl
set_option maxRecDepth 100000 in
theorem imageNil_lifted (os:Os) (started:os.Started) (H:Type) (enc:TypeId × Value->H) :
 ReturnsInHanded {} Try.checked os 6 .any (Rows.imageNilSpec.pre6 enc Try.prog Try.f6 Rows.imageNilRow.domain false) (Rows.imageNilSpec.post enc Try.prog Try.f6 false true false false):=by
 refine returnsInHanded_of_change (C:=Try.checked) Try.own started (by kernel_rfl) Try.func6
  (ChangeSpec.witness6 (enc:=enc) (C:=Try.checked) false ⟨#[],#[],[]⟩ 8 (by kernel_rfl) (by kernel_rfl) (by kernel_rfl) (by kernel_rfl)) ?_
 intro W base args ds gs before hval0 hW hcnd _;have hW':=hW;obtain ⟨p,q,hA0,hV,rfl,hfz,hnd⟩:=hW;have hA:DataW.TrodAll enc Try.prog W 0 (fun _=>true) true Try.f6.params.toList args.toList ds p:=hA0;rw [Try.params6] at hA;obtain ⟨rfl,rfl,rfl⟩:=trodAll_none hA;obtain ⟨rfl,rfl⟩:=trodVars_none hV;clear hA0 hval0;simp only [List.append_nil] at hW';refine (zjq zpu W).mono fun e W' ⟨he,hf⟩=>?_;subst he;have hB:Below W.heap.size W W':=hf.below0;refine ⟨_,rfl,_,_,_,[],[],[],hW',?_,?_,?_,hB.frame _,fun h=>by cases h⟩
 · exact trodAll_mk1 (shut_bool Try.underlying4 true)
 · rfl
 rfl
theorem imageNil_holds:Rows.ImageNilSaid :=
 OpenClaim.holds_of_wide 6 Try.f6 rfl rfl rfl rfl rfl rfl rfl ⟨rfl,rfl,rfl,rfl,rfl⟩ rfl rfl rfl rfl rfl (by kernel_rfl) Try.func6 (by kernel_rfl)
  (of_decide_eq_true (by kernel_rfl)) (by unfold Func.isWrapper;first | (rw [if_pos (by decide +kernel)];kernel_rfl) | (rw [if_neg (by decide +kernel)];exact ⟨rfl,rfl⟩))
  (fun os started H enc _=>imageNil_lifted os started H enc)
#print axioms imageNil_holds
end Go.Proofs.Ythljnnjpmdgkoaa
