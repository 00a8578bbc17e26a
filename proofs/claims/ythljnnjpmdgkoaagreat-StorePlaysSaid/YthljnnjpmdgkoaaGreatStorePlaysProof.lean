/- THE STATEMENT StorePlays: for all calls the law's function returns true, and the argument reads as it did. No condition. -/
import Derived.Test.YthljnnjpmdgkoaaGreatStorePlaysWalk
import Derived.Test.YthljnnjpmdgkoaaGreatG36
import Derived.Test.YthljnnjpmdgkoaaGreatRows
import Derived.ProofKit
namespace Go.Proofs.YthljnnjpmdgkoaaGreat
open Go Go.Proofs Go.ChangeShapes Go.WideShapes Go.ChangeAt Go.RowKit
theorem Tryz.own:ownKnob Tryz.prog.godebug=none:=by kernel_rfl
theorem Tryz.laidOut:laidOutB Tryz.prog=true:=by kernel_rfl
set_option maxRecDepth 100000 in
theorem storePlays_lifted (os:Os) (started:os.Started) (H:Type) (enc:TypeId × Value->H) :
 ReturnsInHanded {} Tryz.checked os 3 .any (Rows.storePlaysSpec.pre6 enc Tryz.prog Tryz.f3 Rows.storePlaysRow.domain false) (Rows.storePlaysSpec.post enc Tryz.prog Tryz.f3 false true false false):=by
 refine returnsInHanded_of_change (C:=Tryz.checked) Tryz.own started (by kernel_rfl) Tryz.func3
  (ChangeSpec.witness6 (enc:=enc) (C:=Tryz.checked) false ⟨#[],#[.slice none 0 0],[]⟩ 9 (by kernel_rfl) (by kernel_rfl) (by kernel_rfl) (by kernel_rfl)) ?_
 intro W base args ds gs before hval0 hW hcnd _;have hval:∀ (j:Nat) t v,Tryz.f3.params[j]? = some t->args[j]? = some v->Value.okWide Tryz.prog W .any base t v:=hval0;have hW':=hW;obtain ⟨p,q,hA0,hV,rfl,hfz,hnd⟩:=hW;have hA:DataW.TrodAll enc Tryz.prog W 0 (fun _=>true) true Tryz.f3.params.toList args.toList ds p:=hA0;rw [Tryz.params3] at hA hval;obtain ⟨v0,d0,rfl,rfl,h0⟩:=trodAll_one hA;obtain ⟨rfl,rfl⟩:=trodVars_none hV;obtain ⟨l,r0⟩:=zrd (hval 0 22 v0 rfl rfl) h0;clear hA0 hval0;simp only [List.append_nil] at hW';have hlt:∀ x∈p,x.block < W.heap.size:=fun x hx=>by simpa using hW'.lt x hx
 refine (zij zsl ⟨zuk.del⟩ W v0 l r0).mono fun e W' ⟨he,hf⟩=>?_;subst he;have hB:Below W.heap.size W W':=hf.below0;refine ⟨_,rfl,_,_,_,[],p,[],hW',?_,?_,?_,hB.frame _,fun h=>by cases h⟩
 · exact trodAll_mk1 (shut_bool Tryz.underlying4 true)
 · exact trodAll_mk1 (Below.trod Tryz.laidOut (by kernel_rfl) (of_decide_eq_true (by kernel_rfl)) h0 hB hlt)
 rfl
theorem storePlays_holds:Rows.StorePlaysSaid :=
 OpenClaim.holds_of_wide 3 Tryz.f3 rfl rfl rfl rfl rfl rfl rfl ⟨rfl,rfl,rfl,rfl,rfl⟩ rfl rfl rfl rfl rfl (by kernel_rfl) Tryz.func3 (by kernel_rfl)
  (of_decide_eq_true (by kernel_rfl)) (by unfold Func.isWrapper;first | (rw [if_pos (by decide +kernel)];kernel_rfl) | (rw [if_neg (by decide +kernel)];exact ⟨rfl,rfl⟩))
  (fun os started H enc _=>storePlays_lifted os started H enc)
#print axioms storePlays_holds
end Go.Proofs.YthljnnjpmdgkoaaGreat
