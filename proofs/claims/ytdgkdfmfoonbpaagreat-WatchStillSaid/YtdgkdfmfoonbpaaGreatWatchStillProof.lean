/- THE STATEMENT WatchStill: whatever its arguments are, the law's function returns true, and the arguments read as they did. No condition. -/
import Derived.Test.YtdgkdfmfoonbpaaGreatW12
import Derived.Test.YtdgkdfmfoonbpaaGreatWatchStillWalk
import Derived.Test.YtdgkdfmfoonbpaaGreatW31
import Derived.Test.YtdgkdfmfoonbpaaGreatRows
import Derived.ProofKit
namespace Go.Proofs.YtdgkdfmfoonbpaaGreat
open Go Go.Proofs Go.ChangeShapes Go.WideShapes Go.ChangeAt Go.RowKit
theorem Tryz.own:ownKnob Tryz.prog.godebug=none:=by kernel_rfl
theorem Tryz.laidOut:laidOutB Tryz.prog=true:=by kernel_rfl
set_option maxRecDepth 100000 in
theorem watchStill_lifted (os:Os) (started:os.Started) (H:Type) (enc:TypeId×Value->H) :
 ReturnsInHanded {} Tryz.checked os 7 .any (Rows.watchStillSpec.pre6 enc Tryz.prog Tryz.f7 Rows.watchStillRow.domain false) (Rows.watchStillSpec.post enc Tryz.prog Tryz.f7 false true false false):=by
 refine returnsInHanded_of_change (C:=Tryz.checked) Tryz.own started (by kernel_rfl) Tryz.func7
  (ChangeSpec.witness6 (enc:=enc) (C:=Tryz.checked) false ⟨#[],#[.slice none 0 0],[]⟩ 9 (by kernel_rfl) (by kernel_rfl) (by kernel_rfl) (by kernel_rfl)) ?_
 intro W f b u E i a o r _;have c:∀ (j:Nat) t v,Tryz.f7.params[j]?=some t->b[j]?=some v->Value.okWide Tryz.prog W .any f t v:=a;have d:=o;obtain ⟨p,q,g,w,rfl,y,z⟩:=o;have m:DataW.TrodAll enc Tryz.prog W 0 (fun _=>true) true Tryz.f7.params.toList b.toList u p:=g;rw [Tryz.params7] at m c;obtain ⟨s,D,rfl,rfl,l⟩:=trodAll_one m;obtain ⟨rfl,rfl⟩:=trodVars_none w;obtain ⟨A,B⟩:=zlk (c 0 33 s rfl rfl) l;clear g a;simp only [List.append_nil] at d;have k:∀ x∈p,x.block<W.heap.size:=fun x hx=>by simpa using d.lt x (by simpa using hx)
 refine (zhd zjm ⟨zon.del⟩ W s A B).mono fun e W' ⟨he,hf⟩=>?_;subst he;have n:Below W.heap.size W W':=hf.below0;refine ⟨_,rfl,_,_,_,[],p,[],d,?_,?_,?_,n.frame _,fun h=>by cases h⟩
 · exact trodAll_mk1 (shut_bool Tryz.underlying4 true)
 · exact trodAll_mk1 (Below.trod Tryz.laidOut (by kernel_rfl) (of_decide_eq_true (by kernel_rfl)) l n (fun x hx=>k x (by simp [hx])))
 rfl
theorem watchStill_holds:Rows.WatchStillSaid :=
 OpenClaim.holds_of_wide 7 Tryz.f7 rfl rfl rfl rfl rfl rfl rfl ⟨rfl,rfl,rfl,rfl,rfl⟩ rfl rfl rfl rfl rfl (by kernel_rfl) Tryz.func7 (by kernel_rfl)
  (of_decide_eq_true (by kernel_rfl)) (by unfold Func.isWrapper;first | (rw [if_pos (by decide +kernel)];kernel_rfl) | (rw [if_neg (by decide +kernel)];exact ⟨rfl,rfl⟩))
  (fun os started H enc _=>watchStill_lifted os started H enc)
#print axioms watchStill_holds
end Go.Proofs.YtdgkdfmfoonbpaaGreat
