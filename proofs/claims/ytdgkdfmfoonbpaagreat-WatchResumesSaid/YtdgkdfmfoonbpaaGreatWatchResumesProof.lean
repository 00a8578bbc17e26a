/- THE STATEMENT WatchResumes: whatever its arguments are, the law's function returns true, and the arguments read as they did. No condition. -/
import Derived.Test.YtdgkdfmfoonbpaaGreatR12
import Derived.Test.YtdgkdfmfoonbpaaGreatWatchResumesWalk
import Derived.Test.YtdgkdfmfoonbpaaGreatR33
import Derived.Test.YtdgkdfmfoonbpaaGreatRows
import Derived.ProofKit
namespace Go.Proofs.YtdgkdfmfoonbpaaGreat
open Go Go.Proofs Go.ChangeShapes Go.WideShapes Go.ChangeAt Go.RowKit
theorem Tryz.own:ownKnob Tryz.prog.godebug=none:=by kernel_rfl
theorem Tryz.laidOut:laidOutB Tryz.prog=true:=by kernel_rfl
set_option maxRecDepth 100000 in
theorem watchResumes_lifted (os:Os) (started:os.Started) (H:Type) (enc:TypeId×Value->H) :
 ReturnsInHanded {} Tryz.checked os 5 .any (Rows.watchResumesSpec.pre6 enc Tryz.prog Tryz.f5 Rows.watchResumesRow.domain false) (Rows.watchResumesSpec.post enc Tryz.prog Tryz.f5 false true false false):=by
 refine returnsInHanded_of_change (C:=Tryz.checked) Tryz.own started (by kernel_rfl) Tryz.func5
  (ChangeSpec.witness6 (enc:=enc) (C:=Tryz.checked) false ⟨#[],#[.slice none 0 0,.agg #[.string ByteArray.empty,.string ByteArray.empty,.int .i64 0,.bool false,.bool false,.bool false],.slice none 0 0,.slice none 0 0],[]⟩ 9 (by kernel_rfl) (by kernel_rfl) (by kernel_rfl) (by kernel_rfl)) ?_
 intro W g d G Z l b u w _;have a:∀ (j:Nat) t v,Tryz.f5.params[j]?=some t->d[j]?=some v->Value.okWide Tryz.prog W .any g t v:=b;have f:=u;obtain ⟨p,q,i,I,rfl,J,K⟩:=u;have s:DataW.TrodAll enc Tryz.prog W 0 (fun _=>true) true Tryz.f5.params.toList d.toList G p:=i;rw [Tryz.params5] at s a;obtain ⟨D,T,E,F,U,V,X,Y,y,z,A,B,rfl,rfl,rfl,m,n,o,r⟩:=trodAll_four s;obtain ⟨rfl,rfl⟩:=trodVars_none I;obtain ⟨L,O⟩:=zic (a 0 33 D rfl rfl) m;obtain ⟨S,rfl,P⟩:=zuk (a 1 29 T rfl rfl) n;obtain ⟨M,Q⟩:=zic (a 2 33 E rfl rfl) o;obtain ⟨N,R⟩:=zic (a 3 33 F rfl rfl) r;clear i b;simp only [List.append_nil] at f
 have c:∀ x∈y++(z++(A++B)),x.block<W.heap.size:=fun x hx=>by simpa using f.lt x (by simpa using hx)
 refine (zgn zrr ⟨zua.del⟩ W D L S E M F N O P Q R).mono fun e W' ⟨he,hf⟩=>?_;subst he;have k:Below W.heap.size W W':=hf.below0;refine ⟨_,rfl,_,_,_,[],y++(z++(A++B)),[],f,?_,?_,?_,k.frame _,fun h=>by cases h⟩
 · exact trodAll_mk1 (shut_bool Tryz.underlying4 true)
 · exact trodAll_mk4 (Below.trod Tryz.laidOut (by kernel_rfl) (of_decide_eq_true (by kernel_rfl)) m k (fun x hx=>c x (by simp [hx]))) (Below.trod Tryz.laidOut (by kernel_rfl) (of_decide_eq_true (by kernel_rfl)) n k (fun x hx=>c x (by simp [hx]))) (Below.trod Tryz.laidOut (by kernel_rfl) (of_decide_eq_true (by kernel_rfl)) o k (fun x hx=>c x (by simp [hx]))) (Below.trod Tryz.laidOut (by kernel_rfl) (of_decide_eq_true (by kernel_rfl)) r k (fun x hx=>c x (by simp [hx])))
 rfl
theorem watchResumes_holds:Rows.WatchResumesSaid :=
 OpenClaim.holds_of_wide 5 Tryz.f5 rfl rfl rfl rfl rfl rfl rfl ⟨rfl,rfl,rfl,rfl,rfl⟩ rfl rfl rfl rfl rfl (by kernel_rfl) Tryz.func5 (by kernel_rfl)
  (of_decide_eq_true (by kernel_rfl)) (by unfold Func.isWrapper;first | (rw [if_pos (by decide +kernel)];kernel_rfl) | (rw [if_neg (by decide +kernel)];exact ⟨rfl,rfl⟩))
  (fun os started H enc _=>watchResumes_lifted os started H enc)
#print axioms watchResumes_holds
end Go.Proofs.YtdgkdfmfoonbpaaGreat
