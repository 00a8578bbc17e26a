/- THE STATEMENT ImageTwins: for all calls and every range the law's function returns true, and the arguments read as they did. No condition. -/
import Derived.Test.YthljnnjpmdgkoaaGreatI12
import Derived.Test.YthljnnjpmdgkoaaGreatImageTwinsWalk
import Derived.Test.YthljnnjpmdgkoaaGreatI38
import Derived.Test.YthljnnjpmdgkoaaGreatRows
import Derived.ProofKit
namespace Go.Proofs.YthljnnjpmdgkoaaGreat
open Go Go.Proofs Go.ChangeShapes Go.WideShapes Go.ChangeAt Go.RowKit
theorem Tryz.own:ownKnob Tryz.prog.godebug=none:=by kernel_rfl
theorem Tryz.laidOut:laidOutB Tryz.prog=true:=by kernel_rfl
set_option maxRecDepth 100000 in
theorem imageTwins_lifted (os:Os) (started:os.Started) (H:Type) (enc:TypeId×Value->H) :
 ReturnsInHanded {} Tryz.checked os 13 .any (Rows.imageTwinsSpec.pre6 enc Tryz.prog Tryz.f13 Rows.imageTwinsRow.domain false) (Rows.imageTwinsSpec.post enc Tryz.prog Tryz.f13 false true false false):=by
 refine returnsInHanded_of_change (C:=Tryz.checked) Tryz.own started (by kernel_rfl) Tryz.func13
  (ChangeSpec.witness6 (enc:=enc) (C:=Tryz.checked) false ⟨#[],#[.slice none 0 0,.agg #[.string ByteArray.empty,.string ByteArray.empty,.int .i64 0,.int .i64 0,.bool false,.bool false,.bool false]],[]⟩ 9 (by kernel_rfl) (by kernel_rfl) (by kernel_rfl) (by kernel_rfl)) ?_
 intro W f c B M k b u w _;have a:∀ (j:Nat) t v,Tryz.f13.params[j]?=some t->c[j]?=some v->Value.okWide Tryz.prog W .any f t v:=b;have d:=u;obtain ⟨p,q,g,D,rfl,E,F⟩:=u;have s:DataW.TrodAll enc Tryz.prog W 0 (fun _=>true) true Tryz.f13.params.toList c.toList B p:=g;rw [Tryz.params13] at s a;obtain ⟨A,J,K,L,y,z,rfl,rfl,rfl,n,o⟩:=trodAll_two s;obtain ⟨rfl,rfl⟩:=trodVars_none D;obtain ⟨l,I,G⟩:=zdq (a 0 22 A rfl rfl) n;obtain ⟨r,rfl⟩:=zuh (a 1 35 J rfl rfl) o;clear g b;simp only [List.append_nil] at d;have i:∀ x∈y++z,x.block<W.heap.size:=fun x hx=>by simpa using d.lt x (by simpa using hx)
 refine (zku zic ⟨zhj.del⟩ W A l r I G).mono fun e W' ⟨he,hf⟩=>?_;subst he;have m:Below W.heap.size W W':=hf.below0;refine ⟨_,rfl,_,_,_,[],y++z,[],d,?_,?_,?_,m.frame _,fun h=>by cases h⟩
 · exact trodAll_mk1 (shut_bool Tryz.underlying4 true)
 · exact trodAll_mk2 (Below.trod Tryz.laidOut (by kernel_rfl) (of_decide_eq_true (by kernel_rfl)) n m (fun x hx=>i x (by simp [hx]))) (Below.trod Tryz.laidOut (by kernel_rfl) (of_decide_eq_true (by kernel_rfl)) o m (fun x hx=>i x (by simp [hx])))
 rfl
theorem imageTwins_holds:Rows.ImageTwinsSaid :=
 OpenClaim.holds_of_wide 13 Tryz.f13 rfl rfl rfl rfl rfl rfl rfl ⟨rfl,rfl,rfl,rfl,rfl⟩ rfl rfl rfl rfl rfl (by kernel_rfl) Tryz.func13 (by kernel_rfl)
  (of_decide_eq_true (by kernel_rfl)) (by unfold Func.isWrapper;first | (rw [if_pos (by decide +kernel)];kernel_rfl) | (rw [if_neg (by decide +kernel)];exact ⟨rfl,rfl⟩))
  (fun os started H enc _=>imageTwins_lifted os started H enc)
#print axioms imageTwins_holds
end Go.Proofs.YthljnnjpmdgkoaaGreat
