/- THE STATEMENT WatchPrefix: whatever its arguments are, the law's function returns true, and the arguments read as they did. No condition. -/
import Derived.Test.YtdgkdfmfoonbpaaGreatP12
import Derived.Test.YtdgkdfmfoonbpaaGreatWatchPrefixWalk
import Derived.Test.YtdgkdfmfoonbpaaGreatP33
import Derived.Test.YtdgkdfmfoonbpaaGreatRows
import Derived.ProofKit
namespace Go.Proofs.YtdgkdfmfoonbpaaGreat
open Go Go.Proofs Go.ChangeShapes Go.WideShapes Go.ChangeAt Go.RowKit
theorem Tryz.own:ownKnob Tryz.prog.godebug=none:=by kernel_rfl
theorem Tryz.laidOut:laidOutB Tryz.prog=true:=by kernel_rfl
set_option maxRecDepth 100000 in
theorem watchPrefix_lifted (os:Os) (started:os.Started) (H:Type) (enc:TypeId×Value->H) :
 ReturnsInHanded {} Tryz.checked os 4 .any (Rows.watchPrefixSpec.pre6 enc Tryz.prog Tryz.f4 Rows.watchPrefixRow.domain false) (Rows.watchPrefixSpec.post enc Tryz.prog Tryz.f4 false true false false):=by
 refine returnsInHanded_of_change (C:=Tryz.checked) Tryz.own started (by kernel_rfl) Tryz.func4
  (ChangeSpec.witness6 (enc:=enc) (C:=Tryz.checked) false ⟨#[],#[.slice none 0 0,.agg #[.string ByteArray.empty,.string ByteArray.empty,.int .i64 0,.bool false,.bool false,.bool false],.int .i64 0],[]⟩ 9 (by kernel_rfl) (by kernel_rfl) (by kernel_rfl) (by kernel_rfl)) ?_
 intro W g c B S k b s u _;have a:∀ (j:Nat) t v,Tryz.f4.params[j]?=some t->c[j]?=some v->Value.okWide Tryz.prog W .any g t v:=b;have d:=s;obtain ⟨p,q,i,D,rfl,E,F⟩:=s;have r:DataW.TrodAll enc Tryz.prog W 0 (fun _=>true) true Tryz.f4.params.toList c.toList B p:=i;rw [Tryz.params4] at r a;obtain ⟨A,N,O,P,Q,R,w,y,z,rfl,rfl,rfl,m,n,o⟩:=trodAll_three r;obtain ⟨rfl,rfl⟩:=trodVars_none D;obtain ⟨G,J⟩:=zsn (a 0 33 A rfl rfl) m;obtain ⟨M,rfl,K⟩:=zum (a 1 29 N rfl rfl) n;obtain ⟨I,rfl,L⟩:=zuo (a 2 3 O rfl rfl) o;clear i b;simp only [List.append_nil] at d;have f:∀ x∈w++(y++z),x.block<W.heap.size:=fun x hx=>by simpa using d.lt x (by simpa using hx)
 refine (zgz zrr ⟨zuc.del⟩ W A G M I J K L).mono fun e W' ⟨he,hf⟩=>?_;subst he;have l:Below W.heap.size W W':=hf.below0;refine ⟨_,rfl,_,_,_,[],w++(y++z),[],d,?_,?_,?_,l.frame _,fun h=>by cases h⟩
 · exact trodAll_mk1 (shut_bool Tryz.underlying4 true)
 · exact trodAll_mk3 (Below.trod Tryz.laidOut (by kernel_rfl) (of_decide_eq_true (by kernel_rfl)) m l (fun x hx=>f x (by simp [hx]))) (Below.trod Tryz.laidOut (by kernel_rfl) (of_decide_eq_true (by kernel_rfl)) n l (fun x hx=>f x (by simp [hx]))) (Below.trod Tryz.laidOut (by kernel_rfl) (of_decide_eq_true (by kernel_rfl)) o l (fun x hx=>f x (by simp [hx])))
 rfl
theorem watchPrefix_holds:Rows.WatchPrefixSaid :=
 OpenClaim.holds_of_wide 4 Tryz.f4 rfl rfl rfl rfl rfl rfl rfl ⟨rfl,rfl,rfl,rfl,rfl⟩ rfl rfl rfl rfl rfl (by kernel_rfl) Tryz.func4 (by kernel_rfl)
  (of_decide_eq_true (by kernel_rfl)) (by unfold Func.isWrapper;first | (rw [if_pos (by decide +kernel)];kernel_rfl) | (rw [if_neg (by decide +kernel)];exact ⟨rfl,rfl⟩))
  (fun os started H enc _=>watchPrefix_lifted os started H enc)
#print axioms watchPrefix_holds
end Go.Proofs.YtdgkdfmfoonbpaaGreat
