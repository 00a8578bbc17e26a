/- THE STATEMENT TxnRuns: for all calls the law's function returns true, and the argument reads as it did. No condition. -/
import Derived.Test.YthljnnjpmdgkoaaGreatK12
import Derived.Test.YthljnnjpmdgkoaaGreatTxnRunsWalk
import Derived.Test.YthljnnjpmdgkoaaGreatK40
import Derived.Test.YthljnnjpmdgkoaaGreatRows
import Derived.ProofKit
namespace Go.Proofs.YthljnnjpmdgkoaaGreat
open Go Go.Proofs Go.ChangeShapes Go.WideShapes Go.ChangeAt Go.RowKit
theorem Tryz.own:ownKnob Tryz.prog.godebug=none:=by kernel_rfl
theorem Tryz.laidOut:laidOutB Tryz.prog=true:=by kernel_rfl
set_option maxRecDepth 100000 in
theorem txnRuns_lifted (os:Os) (started:os.Started) (H:Type) (enc:TypeId×Value->H) :
 ReturnsInHanded {} Tryz.checked os 7 .any (Rows.txnRunsSpec.pre6 enc Tryz.prog Tryz.f7 Rows.txnRunsRow.domain false) (Rows.txnRunsSpec.post enc Tryz.prog Tryz.f7 false true false false):=by
 refine returnsInHanded_of_change (C:=Tryz.checked) Tryz.own started (by kernel_rfl) Tryz.func7
  (ChangeSpec.witness6 (enc:=enc) (C:=Tryz.checked) false ⟨#[],#[.slice none 0 0,.slice none 0 0],[]⟩ 9 (by kernel_rfl) (by kernel_rfl) (by kernel_rfl) (by kernel_rfl)) ?_
 intro W g c F K k a y A _;have b:∀ (j:Nat) t v,Tryz.f7.params[j]?=some t->c[j]?=some v->Value.okWide Tryz.prog W .any g t v:=a;have d:=y;obtain ⟨p,q,i,I,rfl,B,G⟩:=y;have o:DataW.TrodAll enc Tryz.prog W 0 (fun _=>true) true Tryz.f7.params.toList c.toList F p:=i;rw [Tryz.params7] at o b;obtain ⟨s,z,M,L,n,u,rfl,rfl,rfl,r,w⟩:=trodAll_two o;obtain ⟨rfl,rfl⟩:=trodVars_none I;obtain ⟨l,J⟩:=zsh (b 0 22 s rfl rfl) r;obtain ⟨D,E⟩:=zut (b 1 63 z rfl rfl) w;clear i a;simp only [List.append_nil] at d;have f:∀ x∈n++u,x.block<W.heap.size:=fun x hx=>by simpa using d.lt x (by simpa using hx)
 refine (zmv ztx ⟨zwl.del⟩ W s l J z D E).mono fun e W' ⟨he,hf⟩=>?_;subst he;have m:Below W.heap.size W W':=hf.below0;refine ⟨_,rfl,_,_,_,[],n++u,[],d,?_,?_,?_,m.frame _,fun h=>by cases h⟩
 · exact trodAll_mk1 (shut_bool Tryz.underlying4 true)
 · exact trodAll_mk2 (Below.trod Tryz.laidOut (by kernel_rfl) (of_decide_eq_true (by kernel_rfl)) r m (fun x hx=>f x (by simp [hx]))) (Below.trod Tryz.laidOut (by kernel_rfl) (of_decide_eq_true (by kernel_rfl)) w m (fun x hx=>f x (by simp [hx])))
 rfl
theorem txnRuns_holds:Rows.TxnRunsSaid :=
 OpenClaim.holds_of_wide 7 Tryz.f7 rfl rfl rfl rfl rfl rfl rfl ⟨rfl,rfl,rfl,rfl,rfl⟩ rfl rfl rfl rfl rfl (by kernel_rfl) Tryz.func7 (by kernel_rfl)
  (of_decide_eq_true (by kernel_rfl)) (by unfold Func.isWrapper;first | (rw [if_pos (by decide +kernel)];kernel_rfl) | (rw [if_neg (by decide +kernel)];exact ⟨rfl,rfl⟩))
  (fun os started H enc _=>txnRuns_lifted os started H enc)
#print axioms txnRuns_holds
end Go.Proofs.YthljnnjpmdgkoaaGreat
