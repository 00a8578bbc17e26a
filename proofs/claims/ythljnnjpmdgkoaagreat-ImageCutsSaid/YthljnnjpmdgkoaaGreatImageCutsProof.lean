/- THE STATEMENT ImageCuts: for all calls, every place and every text the law's function returns true, and the arguments read as they did. No condition. -/
import Derived.Test.YthljnnjpmdgkoaaGreatI12
import Derived.Test.YthljnnjpmdgkoaaGreatImageCutsWalk
import Derived.Test.YthljnnjpmdgkoaaGreatI38
import Derived.Test.YthljnnjpmdgkoaaGreatRows
import Derived.ProofKit
namespace Go.Proofs.YthljnnjpmdgkoaaGreat
open Go Go.Proofs Go.ChangeShapes Go.WideShapes Go.ChangeAt Go.RowKit
theorem Tryz.own:ownKnob Tryz.prog.godebug=none:=by kernel_rfl
theorem Tryz.laidOut:laidOutB Tryz.prog=true:=by kernel_rfl
set_option maxRecDepth 100000 in
theorem imageCuts_lifted (os:Os) (started:os.Started) (H:Type) (enc:TypeId×Value->H) :
 ReturnsInHanded {} Tryz.checked os 12 .any (Rows.imageCutsSpec.pre6 enc Tryz.prog Tryz.f12 Rows.imageCutsRow.domain false) (Rows.imageCutsSpec.post enc Tryz.prog Tryz.f12 false true false false):=by
 refine returnsInHanded_of_change (C:=Tryz.checked) Tryz.own started (by kernel_rfl) Tryz.func12
  (ChangeSpec.witness6 (enc:=enc) (C:=Tryz.checked) false ⟨#[],#[.slice none 0 0,.int .i64 0,.string ByteArray.empty],[]⟩ 9 (by kernel_rfl) (by kernel_rfl) (by kernel_rfl) (by kernel_rfl)) ?_
 intro W g c F U k b w y _;have a:∀ (j:Nat) t v,Tryz.f12.params[j]?=some t->c[j]?=some v->Value.okWide Tryz.prog W .any g t v:=b;have d:=w;obtain ⟨p,q,i,I,rfl,K,L⟩:=w;have u:DataW.TrodAll enc Tryz.prog W 0 (fun _=>true) true Tryz.f12.params.toList c.toList F p:=i;rw [Tryz.params12] at u a;obtain ⟨E,P,Q,R,S,T,A,B,D,rfl,rfl,rfl,r,s,G⟩:=trodAll_three u;obtain ⟨rfl,rfl⟩:=trodVars_none I;obtain ⟨l,N,M⟩:=zdq (a 0 22 E rfl rfl) r;obtain ⟨z,rfl⟩:=okWide_int Tryz.underlying3 (a 1 3 P rfl rfl)
 have b1:(Lit.int .i64 z).wf=true:=by
  obtain ⟨fuel,o⟩:=s;obtain ⟨n,e,_,J⟩:=DataW.trod_int Tryz.underlying3 o;simp only [Value.cells,List.cons.injEq,Value.int.injEq,and_true] at e;rw [e.2];exact J
 obtain ⟨O,rfl⟩:=okWide_string Tryz.underlying9 (a 2 9 Q rfl rfl);clear i b;simp only [List.append_nil] at d;have f:∀ x∈A++(B++D),x.block<W.heap.size:=fun x hx=>by simpa using d.lt x (by simpa using hx)
 refine (zlx zic ⟨zhj.del⟩ W E l z O (zsi b1) (wf_i64 b1) N M).mono fun e W' ⟨he,o⟩=>?_;subst he;have m:Below W.heap.size W W':=o.below0;refine ⟨_,rfl,_,_,_,[],A++(B++D),[],d,?_,?_,?_,m.frame _,fun h=>by cases h⟩
 · exact trodAll_mk1 (shut_bool Tryz.underlying4 true)
 · exact trodAll_mk3 (Below.trod Tryz.laidOut (by kernel_rfl) (of_decide_eq_true (by kernel_rfl)) r m (fun x hx=>f x (by simp [hx]))) (Below.trod Tryz.laidOut (by kernel_rfl) (of_decide_eq_true (by kernel_rfl)) s m (fun x hx=>f x (by simp [hx]))) (Below.trod Tryz.laidOut (by kernel_rfl) (of_decide_eq_true (by kernel_rfl)) G m (fun x hx=>f x (by simp [hx])))
 rfl
theorem imageCuts_holds:Rows.ImageCutsSaid :=
 OpenClaim.holds_of_wide 12 Tryz.f12 rfl rfl rfl rfl rfl rfl rfl ⟨rfl,rfl,rfl,rfl,rfl⟩ rfl rfl rfl rfl rfl (by kernel_rfl) Tryz.func12 (by kernel_rfl)
  (of_decide_eq_true (by kernel_rfl)) (by unfold Func.isWrapper;first | (rw [if_pos (by decide +kernel)];kernel_rfl) | (rw [if_neg (by decide +kernel)];exact ⟨rfl,rfl⟩))
  (fun os started H enc _=>imageCuts_lifted os started H enc)
#print axioms imageCuts_holds
end Go.Proofs.YthljnnjpmdgkoaaGreat
