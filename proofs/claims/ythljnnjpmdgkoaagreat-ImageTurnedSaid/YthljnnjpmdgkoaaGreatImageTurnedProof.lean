/- THE STATEMENT ImageTurned: for all calls, every place and every byte the law's function returns true, and the arguments read as they did. No condition. -/
import Derived.Test.YthljnnjpmdgkoaaGreatI12
import Derived.Test.YthljnnjpmdgkoaaGreatImageTurnedWalk
import Derived.Test.YthljnnjpmdgkoaaGreatI38
import Derived.Test.YthljnnjpmdgkoaaGreatRows
import Derived.ProofKit
namespace Go.Proofs.YthljnnjpmdgkoaaGreat
open Go Go.Proofs Go.ChangeShapes Go.WideShapes Go.ChangeAt Go.RowKit
theorem Tryz.own:ownKnob Tryz.prog.godebug=none:=by kernel_rfl
theorem Tryz.laidOut:laidOutB Tryz.prog=true:=by kernel_rfl
set_option maxRecDepth 100000 in
theorem imageTurned_lifted (os:Os) (started:os.Started) (H:Type) (enc:TypeId×Value->H) :
 ReturnsInHanded {} Tryz.checked os 14 .any (Rows.imageTurnedSpec.pre6 enc Tryz.prog Tryz.f14 Rows.imageTurnedRow.domain false) (Rows.imageTurnedSpec.post enc Tryz.prog Tryz.f14 false true false false):=by
 refine returnsInHanded_of_change (C:=Tryz.checked) Tryz.own started (by kernel_rfl) Tryz.func14
  (ChangeSpec.witness6 (enc:=enc) (C:=Tryz.checked) false ⟨#[],#[.slice none 0 0,.int .i64 0,.int .u8 0],[]⟩ 9 (by kernel_rfl) (by kernel_rfl) (by kernel_rfl) (by kernel_rfl)) ?_
 intro W g c J U m b z A _;have a:∀ (j:Nat) t v,Tryz.f14.params[j]?=some t->c[j]?=some v->Value.okWide Tryz.prog W .any g t v:=b;have d:=z;obtain ⟨p,q,i,K,rfl,L,M⟩:=z;have y:DataW.TrodAll enc Tryz.prog W 0 (fun _=>true) true Tryz.f14.params.toList c.toList J p:=i;rw [Tryz.params14] at y a;obtain ⟨I,P,Q,R,S,T,E,F,G,rfl,rfl,rfl,s,u,w⟩:=trodAll_three y;obtain ⟨rfl,rfl⟩:=trodVars_none K;obtain ⟨l,O,N⟩:=zdq (a 0 22 I rfl rfl) s;obtain ⟨B,rfl⟩:=okWide_int Tryz.underlying3 (a 1 3 P rfl rfl)
 have b1:(Lit.int .i64 B).wf=true:=by
  obtain ⟨fuel,k⟩:=u;obtain ⟨n,e,_,r⟩:=DataW.trod_int Tryz.underlying3 k;simp only [Value.cells,List.cons.injEq,Value.int.injEq,and_true] at e;rw [e.2];exact r
 obtain ⟨D,rfl⟩:=okWide_int Tryz.underlying5 (a 2 5 Q rfl rfl)
 have b2:(Lit.int .u8 D).wf=true:=by
  obtain ⟨fuel,k⟩:=w;obtain ⟨n,e,_,r⟩:=DataW.trod_int Tryz.underlying5 k;simp only [Value.cells,List.cons.injEq,Value.int.injEq,and_true] at e;rw [e.2];exact r
 clear i b;simp only [List.append_nil] at d;have f:∀ x∈E++(F++G),x.block<W.heap.size:=fun x hx=>by simpa using d.lt x (by simpa using hx)
 refine (zjd zic ⟨zhj.del⟩ W I l B D (zsi b1) (wf_i64 b1) (wf_u8 b2) O N).mono fun e W' ⟨he,k⟩=>?_;subst he;have o:Below W.heap.size W W':=k.below0;refine ⟨_,rfl,_,_,_,[],E++(F++G),[],d,?_,?_,?_,o.frame _,fun h=>by cases h⟩
 · exact trodAll_mk1 (shut_bool Tryz.underlying4 true)
 · exact trodAll_mk3 (Below.trod Tryz.laidOut (by kernel_rfl) (of_decide_eq_true (by kernel_rfl)) s o (fun x hx=>f x (by simp [hx]))) (Below.trod Tryz.laidOut (by kernel_rfl) (of_decide_eq_true (by kernel_rfl)) u o (fun x hx=>f x (by simp [hx]))) (Below.trod Tryz.laidOut (by kernel_rfl) (of_decide_eq_true (by kernel_rfl)) w o (fun x hx=>f x (by simp [hx])))
 rfl
theorem imageTurned_holds:Rows.ImageTurnedSaid :=
 OpenClaim.holds_of_wide 14 Tryz.f14 rfl rfl rfl rfl rfl rfl rfl ⟨rfl,rfl,rfl,rfl,rfl⟩ rfl rfl rfl rfl rfl (by kernel_rfl) Tryz.func14 (by kernel_rfl)
  (of_decide_eq_true (by kernel_rfl)) (by unfold Func.isWrapper;first | (rw [if_pos (by decide +kernel)];kernel_rfl) | (rw [if_neg (by decide +kernel)];exact ⟨rfl,rfl⟩))
  (fun os started H enc _=>imageTurned_lifted os started H enc)
#print axioms imageTurned_holds
end Go.Proofs.YthljnnjpmdgkoaaGreat
