/- THE STATEMENT WatchCounts: whatever its arguments are, the law's function returns true, and the arguments read as they did. No condition. -/
import Derived.Test.YtdgkdfmfoonbpaaGreatW12
import Derived.Test.YtdgkdfmfoonbpaaGreatWatchCountsWalk
import Derived.Test.YtdgkdfmfoonbpaaGreatW31
import Derived.Test.YtdgkdfmfoonbpaaGreatRows
import Derived.ProofKit
namespace Go.Proofs.YtdgkdfmfoonbpaaGreat
open Go Go.Proofs Go.ChangeShapes Go.WideShapes Go.ChangeAt Go.RowKit
theorem Tryz.own:ownKnob Tryz.prog.godebug=none:=by kernel_rfl
theorem Tryz.laidOut:laidOutB Tryz.prog=true:=by kernel_rfl
set_option maxRecDepth 100000 in
theorem watchCounts_lifted (os:Os) (started:os.Started) (H:Type) (enc:TypeId×Value->H) :
 ReturnsInHanded {} Tryz.checked os 6 .any (Rows.watchCountsSpec.pre6 enc Tryz.prog Tryz.f6 Rows.watchCountsRow.domain false) (Rows.watchCountsSpec.post enc Tryz.prog Tryz.f6 false true false false):=by
 refine returnsInHanded_of_change (C:=Tryz.checked) Tryz.own started (by kernel_rfl) Tryz.func6
  (ChangeSpec.witness6 (enc:=enc) (C:=Tryz.checked) false ⟨#[],#[.slice none 0 0,.int .i64 0],[]⟩ 9 (by kernel_rfl) (by kernel_rfl) (by kernel_rfl) (by kernel_rfl)) ?_
 intro W f c z M k b r s _;have a:∀ (j:Nat) t v,Tryz.f6.params[j]?=some t->c[j]?=some v->Value.okWide Tryz.prog W .any f t v:=b;have d:=r;obtain ⟨p,q,g,A,rfl,B,D⟩:=r;have o:DataW.TrodAll enc Tryz.prog W 0 (fun _=>true) true Tryz.f6.params.toList c.toList z p:=g;rw [Tryz.params6] at o a;obtain ⟨y,J,K,L,u,w,rfl,rfl,rfl,m,n⟩:=trodAll_two o;obtain ⟨rfl,rfl⟩:=trodVars_none A;obtain ⟨E,G⟩:=zlk (a 0 33 y rfl rfl) m;obtain ⟨F,rfl,I⟩:=zuj (a 1 3 J rfl rfl) n;clear g b;simp only [List.append_nil] at d;have i:∀ x∈u++w,x.block<W.heap.size:=fun x hx=>by simpa using d.lt x (by simpa using hx)
 refine (zgq zjm ⟨zon.del⟩ W y E F G I).mono fun e W' ⟨he,hf⟩=>?_;subst he;have l:Below W.heap.size W W':=hf.below0;refine ⟨_,rfl,_,_,_,[],u++w,[],d,?_,?_,?_,l.frame _,fun h=>by cases h⟩
 · exact trodAll_mk1 (shut_bool Tryz.underlying4 true)
 · exact trodAll_mk2 (Below.trod Tryz.laidOut (by kernel_rfl) (of_decide_eq_true (by kernel_rfl)) m l (fun x hx=>i x (by simp [hx]))) (Below.trod Tryz.laidOut (by kernel_rfl) (of_decide_eq_true (by kernel_rfl)) n l (fun x hx=>i x (by simp [hx])))
 rfl
theorem watchCounts_holds:Rows.WatchCountsSaid :=
 OpenClaim.holds_of_wide 6 Tryz.f6 rfl rfl rfl rfl rfl rfl rfl ⟨rfl,rfl,rfl,rfl,rfl⟩ rfl rfl rfl rfl rfl (by kernel_rfl) Tryz.func6 (by kernel_rfl)
  (of_decide_eq_true (by kernel_rfl)) (by unfold Func.isWrapper;first | (rw [if_pos (by decide +kernel)];kernel_rfl) | (rw [if_neg (by decide +kernel)];exact ⟨rfl,rfl⟩))
  (fun os started H enc _=>watchCounts_lifted os started H enc)
#print axioms watchCounts_holds
end Go.Proofs.YtdgkdfmfoonbpaaGreat
