/- THE STATEMENT WatchNil: whatever its arguments are, the law's function returns true, and the arguments read as they did. No condition. -/
import Derived.Test.YtdgkdfmfoonbpaaGreatW12
import Derived.Test.YtdgkdfmfoonbpaaGreatWatchNilWalk
import Derived.Test.YtdgkdfmfoonbpaaGreatW31
import Derived.Test.YtdgkdfmfoonbpaaGreatRows
import Derived.ProofKit
namespace Go.Proofs.YtdgkdfmfoonbpaaGreat
open Go Go.Proofs Go.ChangeShapes Go.WideShapes Go.ChangeAt Go.RowKit
theorem Tryz.own:ownKnob Tryz.prog.godebug=none:=by kernel_rfl
theorem Tryz.laidOut:laidOutB Tryz.prog=true:=by kernel_rfl
set_option maxRecDepth 100000 in
theorem watchNil_lifted (os:Os) (started:os.Started) (H:Type) (enc:TypeId×Value->H) :
 ReturnsInHanded {} Tryz.checked os 3 .any (Rows.watchNilSpec.pre6 enc Tryz.prog Tryz.f3 Rows.watchNilRow.domain false) (Rows.watchNilSpec.post enc Tryz.prog Tryz.f3 false true false false):=by
 refine returnsInHanded_of_change (C:=Tryz.checked) Tryz.own started (by kernel_rfl) Tryz.func3
  (ChangeSpec.witness6 (enc:=enc) (C:=Tryz.checked) false ⟨#[],#[.agg #[.int .i64 0,.int .i64 0,.slice none 0 0,.string ByteArray.empty,.string ByteArray.empty,.int .i64 0,.int .i64 0,.bool false,.bool false,.bool false,.int .i64 0,.int .i64 0,.slice none 0 0,.string ByteArray.empty,.string ByteArray.empty,.int .i64 0,.bool false,.bool false,.bool false,.int .i64 0]],[]⟩ 9 (by kernel_rfl) (by kernel_rfl) (by kernel_rfl) (by kernel_rfl)) ?_
 intro W f b u E i a r s _;have c:∀ (j:Nat) t v,Tryz.f3.params[j]?=some t->b[j]?=some v->Value.okWide Tryz.prog W .any f t v:=a;have d:=r;obtain ⟨p,q,g,w,rfl,y,z⟩:=r;have n:DataW.TrodAll enc Tryz.prog W 0 (fun _=>true) true Tryz.f3.params.toList b.toList u p:=g;rw [Tryz.params3] at n c;obtain ⟨B,D,rfl,rfl,m⟩:=trodAll_one n;obtain ⟨rfl,rfl⟩:=trodVars_none w;obtain ⟨A,rfl,k⟩:=zsk (c 0 31 B rfl rfl) m;clear g a;simp only [List.append_nil] at d;have l:∀ x∈p,x.block<W.heap.size:=fun x hx=>by simpa using d.lt x (by simpa using hx)
 refine (zjk zjm W A k.1 k.2.1 k.2.2.1 k.2.2.2).mono fun e W' ⟨he,hf⟩=>?_;subst he;have o:Below W.heap.size W W':=hf.below0;refine ⟨_,rfl,_,_,_,[],p,[],d,?_,?_,?_,o.frame _,fun h=>by cases h⟩
 · exact trodAll_mk1 (shut_bool Tryz.underlying4 true)
 · exact trodAll_mk1 (Below.trod Tryz.laidOut (by kernel_rfl) (of_decide_eq_true (by kernel_rfl)) m o (fun x hx=>l x (by simp [hx])))
 rfl
theorem watchNil_holds:Rows.WatchNilSaid :=
 OpenClaim.holds_of_wide 3 Tryz.f3 rfl rfl rfl rfl rfl rfl rfl ⟨rfl,rfl,rfl,rfl,rfl⟩ rfl rfl rfl rfl rfl (by kernel_rfl) Tryz.func3 (by kernel_rfl)
  (of_decide_eq_true (by kernel_rfl)) (by unfold Func.isWrapper;first | (rw [if_pos (by decide +kernel)];kernel_rfl) | (rw [if_neg (by decide +kernel)];exact ⟨rfl,rfl⟩))
  (fun os started H enc _=>watchNil_lifted os started H enc)
#print axioms watchNil_holds
end Go.Proofs.YtdgkdfmfoonbpaaGreat
