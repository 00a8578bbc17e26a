/- THE STATEMENT ImageBytes: for all calls the law's function returns true, and the arguments read as they did. No condition. -/
import Derived.Test.YthljnnjpmdgkoaaGreatI12
import Derived.Test.YthljnnjpmdgkoaaGreatImageBytesWalk
import Derived.Test.YthljnnjpmdgkoaaGreatI38
import Derived.Test.YthljnnjpmdgkoaaGreatRows
import Derived.ProofKit
namespace Go.Proofs.YthljnnjpmdgkoaaGreat
open Go Go.Proofs Go.ChangeShapes Go.WideShapes Go.ChangeAt Go.RowKit
theorem Tryz.own:ownKnob Tryz.prog.godebug=none:=by kernel_rfl
theorem Tryz.laidOut:laidOutB Tryz.prog=true:=by kernel_rfl
set_option maxRecDepth 100000 in
theorem imageBytes_lifted (os:Os) (started:os.Started) (H:Type) (enc:TypeId×Value->H) :
 ReturnsInHanded {} Tryz.checked os 10 .any (Rows.imageBytesSpec.pre6 enc Tryz.prog Tryz.f10 Rows.imageBytesRow.domain false) (Rows.imageBytesSpec.post enc Tryz.prog Tryz.f10 false true false false):=by
 refine returnsInHanded_of_change (C:=Tryz.checked) Tryz.own started (by kernel_rfl) Tryz.func10
  (ChangeSpec.witness6 (enc:=enc) (C:=Tryz.checked) false ⟨#[],#[.slice none 0 0],[]⟩ 9 (by kernel_rfl) (by kernel_rfl) (by kernel_rfl) (by kernel_rfl)) ?_
 intro W f b w F i a r s _;have c:∀ (j:Nat) t v,Tryz.f10.params[j]?=some t->b[j]?=some v->Value.okWide Tryz.prog W .any f t v:=a;have d:=r;obtain ⟨p,q,g,y,rfl,z,A⟩:=r;have n:DataW.TrodAll enc Tryz.prog W 0 (fun _=>true) true Tryz.f10.params.toList b.toList w p:=g;rw [Tryz.params10] at n c;obtain ⟨u,E,rfl,rfl,m⟩:=trodAll_one n;obtain ⟨rfl,rfl⟩:=trodVars_none y;obtain ⟨l,D,B⟩:=zdq (c 0 22 u rfl rfl) m;clear g a;simp only [List.append_nil] at d;have k:∀ x∈p,x.block<W.heap.size:=fun x hx=>by simpa using d.lt x (by simpa using hx)
 refine (zkv zic ⟨zhj.del⟩ W u l D B).mono fun e W' ⟨he,hf⟩=>?_;subst he;have o:Below W.heap.size W W':=hf.below0;refine ⟨_,rfl,_,_,_,[],p,[],d,?_,?_,?_,o.frame _,fun h=>by cases h⟩
 · exact trodAll_mk1 (shut_bool Tryz.underlying4 true)
 · exact trodAll_mk1 (Below.trod Tryz.laidOut (by kernel_rfl) (of_decide_eq_true (by kernel_rfl)) m o (fun x hx=>k x (by simp [hx])))
 rfl
theorem imageBytes_holds:Rows.ImageBytesSaid :=
 OpenClaim.holds_of_wide 10 Tryz.f10 rfl rfl rfl rfl rfl rfl rfl ⟨rfl,rfl,rfl,rfl,rfl⟩ rfl rfl rfl rfl rfl (by kernel_rfl) Tryz.func10 (by kernel_rfl)
  (of_decide_eq_true (by kernel_rfl)) (by unfold Func.isWrapper;first | (rw [if_pos (by decide +kernel)];kernel_rfl) | (rw [if_neg (by decide +kernel)];exact ⟨rfl,rfl⟩))
  (fun os started H enc _=>imageBytes_lifted os started H enc)
#print axioms imageBytes_holds
end Go.Proofs.YthljnnjpmdgkoaaGreat
