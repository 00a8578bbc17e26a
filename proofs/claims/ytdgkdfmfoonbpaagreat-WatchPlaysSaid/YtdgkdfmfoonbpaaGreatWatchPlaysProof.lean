/- THE STATEMENT WatchPlays: whatever its arguments are, the law's function returns true, and the arguments read as they did. No condition. -/
import Derived.Test.YtdgkdfmfoonbpaaGreatWatchPlaysWalk
import Derived.Test.YtdgkdfmfoonbpaaGreatQ41
import Derived.Test.YtdgkdfmfoonbpaaGreatRows
namespace Go.Proofs.YtdgkdfmfoonbpaaGreat
open Go Go.Proofs Go.ChangeShapes Go.WideShapes Go.ChangeAt Go.RowKit
theorem Tryz.own:ownKnob Tryz.prog.godebug=none:=by kernel_rfl
theorem Tryz.laidOut:laidOutB Tryz.prog=true:=by kernel_rfl
set_option maxRecDepth 100000 in
theorem watchPlays_lifted (os:Os) (started:os.Started) (H:Type) (enc:TypeId×Value->H) :
 ReturnsInHanded {} Tryz.checked os 8 .any (Rows.watchPlaysSpec.pre6 enc Tryz.prog Tryz.f8 Rows.watchPlaysRow.domain false) (Rows.watchPlaysSpec.post enc Tryz.prog Tryz.f8 false true false false):=by
 refine returnsInHanded_of_change (C:=Tryz.checked) Tryz.own started (by kernel_rfl) Tryz.func8
  (ChangeSpec.witness6 (enc:=enc) (C:=Tryz.checked) false ⟨#[],#[.slice none 0 0],[]⟩ 9 (by kernel_rfl) (by kernel_rfl) (by kernel_rfl) (by kernel_rfl)) ?_
 intro W f b u E i a o r _;have c:∀ (j:Nat) t v,Tryz.f8.params[j]?=some t->b[j]?=some v->Value.okWide Tryz.prog W .any f t v:=a;have d:=o;obtain ⟨p,q,g,w,rfl,y,z⟩:=o;have m:DataW.TrodAll enc Tryz.prog W 0 (fun _=>true) true Tryz.f8.params.toList b.toList u p:=g;rw [Tryz.params8] at m c;obtain ⟨s,D,rfl,rfl,l⟩:=trodAll_one m;obtain ⟨rfl,rfl⟩:=trodVars_none w;obtain ⟨A,B⟩:=zvx (c 0 33 s rfl rfl) l;clear g a;simp only [List.append_nil] at d;have k:∀ x∈p,x.block<W.heap.size:=fun x hx=>by simpa using d.lt x (by simpa using hx)
 refine (zhz zuu ⟨zxt.del⟩ W s A B).mono fun e W' ⟨he,hf⟩=>?_;subst he;have n:Below W.heap.size W W':=hf.below0;refine ⟨_,rfl,_,_,_,[],p,[],d,?_,?_,?_,n.frame _,fun h=>by cases h⟩
 · exact trodAll_mk1 (shut_bool Tryz.underlying4 true)
 · exact trodAll_mk1 (Below.trod Tryz.laidOut (by kernel_rfl) (of_decide_eq_true (by kernel_rfl)) l n (fun x hx=>k x (by simp [hx])))
 rfl
theorem watchPlays_holds:Rows.WatchPlaysSaid :=
 OpenClaim.holds_of_wide 8 Tryz.f8 rfl rfl rfl rfl rfl rfl rfl ⟨rfl,rfl,rfl,rfl,rfl⟩ rfl rfl rfl rfl rfl (by kernel_rfl) Tryz.func8 (by kernel_rfl)
  (of_decide_eq_true (by kernel_rfl)) (by unfold Func.isWrapper;first | (rw [if_pos (by decide +kernel)];kernel_rfl) | (rw [if_neg (by decide +kernel)];exact ⟨rfl,rfl⟩))
  (fun os started H enc _=>watchPlays_lifted os started H enc)
#print axioms watchPlays_holds
end Go.Proofs.YtdgkdfmfoonbpaaGreat
