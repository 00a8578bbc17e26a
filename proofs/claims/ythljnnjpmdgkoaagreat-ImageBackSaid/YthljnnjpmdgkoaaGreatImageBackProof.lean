/- THE STATEMENT ImageBack: for all calls and more calls the law's function returns true, and the arguments read as they did. No condition. -/
import Derived.Test.YthljnnjpmdgkoaaGreatI12
import Derived.Test.YthljnnjpmdgkoaaGreatImageBackWalk
import Derived.Test.YthljnnjpmdgkoaaGreatI38
import Derived.Test.YthljnnjpmdgkoaaGreatRows
import Derived.ProofKit
namespace Go.Proofs.YthljnnjpmdgkoaaGreat
open Go Go.Proofs Go.ChangeShapes Go.WideShapes Go.ChangeAt Go.RowKit
theorem Tryz.own:ownKnob Tryz.prog.godebug=none:=by kernel_rfl
theorem Tryz.laidOut:laidOutB Tryz.prog=true:=by kernel_rfl
set_option maxRecDepth 100000 in
theorem imageBack_lifted (os:Os) (started:os.Started) (H:Type) (enc:TypeId×Value->H) :
 ReturnsInHanded {} Tryz.checked os 11 .any (Rows.imageBackSpec.pre6 enc Tryz.prog Tryz.f11 Rows.imageBackRow.domain false) (Rows.imageBackSpec.post enc Tryz.prog Tryz.f11 false true false false):=by
 refine returnsInHanded_of_change (C:=Tryz.checked) Tryz.own started (by kernel_rfl) Tryz.func11
  (ChangeSpec.witness6 (enc:=enc) (C:=Tryz.checked) false ⟨#[],#[.slice none 0 0,.slice none 0 0],[]⟩ 9 (by kernel_rfl) (by kernel_rfl) (by kernel_rfl) (by kernel_rfl)) ?_
 intro W f c B N k b s u _;have a:∀ (j:Nat) t v,Tryz.f11.params[j]?=some t->c[j]?=some v->Value.okWide Tryz.prog W .any f t v:=b;have d:=s;obtain ⟨p,q,g,D,rfl,E,F⟩:=s;have r:DataW.TrodAll enc Tryz.prog W 0 (fun _=>true) true Tryz.f11.params.toList c.toList B p:=g;rw [Tryz.params11] at r a;obtain ⟨z,A,L,M,w,y,rfl,rfl,rfl,n,o⟩:=trodAll_two r;obtain ⟨rfl,rfl⟩:=trodVars_none D;obtain ⟨l,I,G⟩:=zdq (a 0 22 z rfl rfl) n;obtain ⟨K,J⟩:=zui (a 1 22 A rfl rfl) o;clear g b;simp only [List.append_nil] at d;have i:∀ x∈w++y,x.block<W.heap.size:=fun x hx=>by simpa using d.lt x (by simpa using hx)
 refine (zly zic ⟨zhj.del⟩ W z A l K I G J).mono fun e W' ⟨he,hf⟩=>?_;subst he;have m:Below W.heap.size W W':=hf.below0;refine ⟨_,rfl,_,_,_,[],w++y,[],d,?_,?_,?_,m.frame _,fun h=>by cases h⟩
 · exact trodAll_mk1 (shut_bool Tryz.underlying4 true)
 · exact trodAll_mk2 (Below.trod Tryz.laidOut (by kernel_rfl) (of_decide_eq_true (by kernel_rfl)) n m (fun x hx=>i x (by simp [hx]))) (Below.trod Tryz.laidOut (by kernel_rfl) (of_decide_eq_true (by kernel_rfl)) o m (fun x hx=>i x (by simp [hx])))
 rfl
theorem imageBack_holds:Rows.ImageBackSaid :=
 OpenClaim.holds_of_wide 11 Tryz.f11 rfl rfl rfl rfl rfl rfl rfl ⟨rfl,rfl,rfl,rfl,rfl⟩ rfl rfl rfl rfl rfl (by kernel_rfl) Tryz.func11 (by kernel_rfl)
  (of_decide_eq_true (by kernel_rfl)) (by unfold Func.isWrapper;first | (rw [if_pos (by decide +kernel)];kernel_rfl) | (rw [if_neg (by decide +kernel)];exact ⟨rfl,rfl⟩))
  (fun os started H enc _=>imageBack_lifted os started H enc)
#print axioms imageBack_holds
end Go.Proofs.YthljnnjpmdgkoaaGreat
