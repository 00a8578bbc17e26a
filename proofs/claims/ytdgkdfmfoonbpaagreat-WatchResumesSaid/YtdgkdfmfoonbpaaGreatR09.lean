/- Own lemmas. -/
import Derived.Test.YtdgkdfmfoonbpaaGreatR08
import Derived.Test.YtdgkdfmfoonbpaaGreatR00
import Derived.Test.YtdgkdfmfoonbpaaGreatR07
import Derived.Maps.OwnOps
import Derived.Maps.OwnSet
import Derived.BigRegion
namespace Go.Proofs.YtdgkdfmfoonbpaaGreat
open Go Go.Proofs Go.RowKit
set_option maxRecDepth 100000
theorem kid_z {Z:List Nz} {A:Arr} {fl:List Nat} {at_:Nat} (hZ:ndsZ Z=A) (hs:zbk A fl at_) {i:Nat} (hi:i<(ndA A at_).kids.length) :
 ∃ c zc,(ndA A at_).kids[i]?=some c/\kidA A at_ i=c/\Z[c]?=some zc/\zc.nd=ndA A c/\c≠at_/\zc.nd.pairs.length<=9/\(zc.nd.kids = []\/zc.nd.kids.length=zc.nd.pairs.length+1):=by
 obtain ⟨c,b⟩:∃ c,(ndA A at_).kids[i]?=some c:=⟨_,List.getElem?_eq_getElem hi⟩;obtain ⟨d,e,f,g⟩:=hs.kid c (List.mem_of_getElem? b);obtain ⟨zc,j,a⟩:=zbi hZ d;exact ⟨c,zc,b,by unfold kidA;simp [List.getD,b],j,a,e,by rw [a];exact f,by rw [a];exact g⟩
set_option maxHeartbeats 4000000 in
theorem znu (w:World) (t:Nat) (A:Arr) (fl:List Nat) (root:Nat) (many:Int) (F:Nat->Prop) (h:TreeZ w t A fl root many F) (at_ i:Nat) (hs:zbk A fl at_) (hA:A.length<=109951162) (hi:i<(ndA A at_).kids.length)
 (hk5:4<(ndA A (kidA A at_ i)).pairs.length):Calls Tryz.prog 136 #[.pointer (some ⟨t,0,none⟩),.int .i64 at_,.int .i64 i] w (zfu w t F A fl root many):=by
 obtain ⟨nv,fv,Z,e,u,hF⟩:=id h;obtain ⟨v,c,j⟩:=zbi u hs.lt;obtain ⟨k,M,E,o,d,n,U,a8,I⟩:=kid_z u hs hi;have P:at_<Z.length:=(List.getElem?_eq_some_iff.1 c).1;have a9:k<Z.length:=(List.getElem?_eq_some_iff.1 d).1;have a6:Z.length<=109951162:=by rw [<-zas,u];exact hA
 obtain ⟨nb,no,cap,rfl,R⟩:=e.headLen (by omega);rw [o,<-n] at hk5;rw [<-j] at E hi;have g:=hs.len;have D:=hs.hi;rw [<-j] at g D;have O:=e.obj.cell 0 rfl;obtain ⟨N,x,a3,a4⟩:=e.look at_ v c;obtain ⟨J,k2,k3,k4⟩:=e.look k M d;obtain ⟨ka,X,r,ab,ad,G⟩:=(e.kids at_ v c).shape;obtain ⟨ai,K,f,V,W,q⟩:=(e.pairs k M d).shape;obtain ⟨kb,ko,rfl⟩:=G (by omega);have l:=e.kids at_ v c;rw [r] at x l;rw [f] at J;have kl:=l.cell1 zag i E rfl;have Q:(at_:Int)<(Z.length:Int):=by omega
 have aa:(k:Int)<(Z.length:Int):=by omega
 have a7:(i:Int)<(v.nd.kids.length:Int):=by omega
 have S:(i:Int)<=9:=by omega
 have T:(4:Int)<(M.nd.pairs.length:Int):=by omega
 have H:=H_ h;clear h hs r f e l g q a3 a4 k2 k3 k4 E o hF u j n I c d;go_enter Tryz.func136,Tryz.ntmps136;go_upto_region 2 with fail
 go_quiet (fail)
 have a:=Fr.drewN No w nq;generalize w.drewN nq=W1 at a ⊢
 replace O:=a.cell0 O
 replace N:=a.cell0 N
 replace x:=a.cell0 x
 replace J:=a.cell0 J
 have m:=H_ a;clear a kl;go_wp2_with fail;go_ret;obtain ⟨L,y,Y,B,C,z⟩:=H.out;exact ⟨⟨_,rfl⟩,F,⟨L,y,Y,B.fr0 m.out,C,z⟩,m.out.mono (fun _ _ s=>s.elim),fun b hb=>.inl hb⟩
theorem zqh (w:World) (t:Nat) (A:Arr) (fl:List Nat) (root:Nat) (many:Int) (F:Nat->Prop) (h:TreeZ w t A fl root many F) (at_ i:Nat) (hs:zbk A fl at_) (hA:A.length<=109951162) (hi:i<(ndA A at_).kids.length)
 (hpos:1<=(ndA A at_).pairs.length):Calls Tryz.prog 136 #[.pointer (some ⟨t,0,none⟩),.int .i64 at_,.int .i64 i] w (zfu w t F (fillA A fl at_ i).1 (fillA A fl at_ i).2 root many):=by
 unfold fillA;have v:=hs.len
 split
 · exact znu w t A fl root many F h at_ i hs hA hi ‹_›
 rename_i hk4
 split
 · rename_i hl
   obtain ⟨j,rfl⟩:∃ j,i=j+1:=⟨i-1,by omega⟩;obtain ⟨l,k,f,no,cap,fv,Z,g,J,n,p,s⟩:=two_z h at_ j hs (by omega) hA;refine znh w t A fl root many F at_ j l k f no cap fv Z g J n p s ?_ ?_
   · rw [s.ek,<-s.hk];omega
   rw [s.el,<-s.hl];exact hl.2
 rename_i hl
 obtain ⟨nv,fv,Z,N,d,hF⟩:=id h;obtain ⟨g,y,a⟩:=zbi d hs.lt;obtain ⟨k,n,E,G,I,o,u,R,H⟩:=kid_z d hs hi;have O:at_<Z.length:=(List.getElem?_eq_some_iff.1 y).1;have D:Z.length<=109951162:=(by rw [<-zas,d];exact hA);obtain ⟨f,no,cap,rfl,P⟩:=N.headLen (by omega)
 have C:zkv w t A fl root many F at_ i k f no cap fv Z g n:=by
  refine ⟨⟨N,Fr.refl _ w,fun b hb=>.inl ((hF b).2 hb)⟩,d,y,I,a,by rw [a];exact E,by rw [o,<-G];omega,by rw [a];exact hs.hi,by rw [a];exact v,?_,D⟩
  cases i with
  | zero=>exact .inl rfl
  | succ m =>
    obtain ⟨l,J,c,z,B,q,K,L,M⟩:=kid_z d hs (i:=m) (by omega);refine .inr ⟨m,l,J,rfl,by rw [a];exact c,B,?_⟩;rw [q,<-z];have:=Nat.not_lt.1 (fun x=>hl ⟨Nat.succ_pos m,x⟩);rw [Nat.add_sub_cancel] at this;omega
 split
 · rename_i hn
   obtain ⟨r,Q,c,z,B,q,K,L,M⟩:=kid_z d hs (i:=i+1) hn
   split
   · rename_i hr
     obtain ⟨p,S⟩:∃ p,(ndA A at_).pairs[i]?=some p:=⟨_,List.getElem?_eq_getElem (by omega)⟩;refine znt w t A fl root many F at_ i k f no cap fv Z g n C r Q p (by rw [a];exact c) B (by rw [q,<-z];exact hr) L (by rw [a];exact S) u K ?_ H M ?_
     · intro e
       have:=hs.apart i (i+1) k E (by rw [e];exact c);omega
     rw [o,q];exact hs.both k (List.mem_of_getElem? E) r (List.mem_of_getElem? c)
   rename_i hr
   exact zns w t A fl root many F at_ i k f no cap fv Z g n C r Q (by rw [a];exact c) B (by rw [q,<-z];omega) hs
 rename_i hn
 obtain ⟨m,rfl⟩:∃ m,i=m+1:=⟨i-1,by omega⟩;exact znr w t A fl root many F at_ (m+1) k f no cap fv Z g n C m rfl (by rw [a];omega) hs
open Go Go.RowKit Go.WideElems Go.ChangeMaps
def MapAt (w:World) (b:Nat) (f:Int->Option Value):Prop :=
 ∃ es clock,w.heap[b]?=some (.map es clock)/\MapKept.Stamped es clock/\(∀ e∈es.toList,∃ n,e.key=.int .i64 n/\(Lit.int .i64 n).wf=true/\f n=some e.val) ∧
  ∀ n v,f n=some v->∃ e∈es.toList,e.key=.int .i64 n/\e.val=v
theorem Fr.setAt {b:Nat} {a w:World} (h:Fr (fun x=>x=b) a w) (i:Nat) (u:Value):Fr (fun x=>x=b) a (w.setCell ⟨b,i,none⟩ u):=h.setCell (p:=⟨b,i,none⟩) (.inl rfl) u
theorem MapAt.lt {w:World} {b:Nat} {f:Int->Option Value} (h:MapAt w b f):b<w.heap.size:=by
 obtain ⟨d,a,c,_⟩:=h;exact zac c
theorem MapAt.keep {w w':World} {b:Nat} {f:Int->Option Value} (h:MapAt w b f) (hk:w'.heap[b]?=w.heap[b]?):MapAt w' b f:=by
 obtain ⟨c,a,d,h⟩:=h;exact ⟨c,a,hk.trans d,h⟩
theorem MapAt.fr {w w':World} {b:Nat} {f:Int->Option Value} {S:Nat->Prop} (h:MapAt w b f) (hf:Fr S w w') (hn:¬ S b):MapAt w' b f:=h.keep (hf.block b h.lt hn)
theorem MapAt.alloc {w:World} {b:Nat} {f:Int->Option Value} (h:MapAt w b f) (o:Obj):MapAt (w.alloc o) b f:=h.keep (Below.heap_alloc w o b h.lt)
theorem MapAt.made (w:World):MapAt (w.alloc (.map #[] 0)) w.heap.size fun _=>none :=
 ⟨#[],0,heap_alloc_new w _,MapKept.stamped_empty 0,by simp,by simp⟩
theorem MapAt.apart {w:World} {b:Nat} {f:Int->Option Value} (h:MapAt w b f) {cs:List Value} {c:Nat} (hc:Has w c cs):b≠c:=by
 rintro rfl;obtain ⟨g,a,d,_⟩:=h;obtain ⟨e,hc⟩:=hc;rw [d] at hc;cases hc
section
variable {P:Program} {w:World} {b:Nat} {f:Int->Option Value} {t k e:TypeId}
theorem znk (hk:P.underlying k=some (.int .i64)) {es:List MapEntry} (h:∀ e∈es,∃ n,e.key=.int .i64 n/\(Lit.int .i64 n).wf=true/\f n=some e.val):∀ e∈es,∃ l,keyOf P k e.key=some l:=by
 intro e c;obtain ⟨n,a,b,_⟩:=h e c;exact ⟨_,by rw [a];exact Maps.keyOf_int_mk hk b⟩
theorem MapAt.look (h:MapAt w b f) (ht:P.underlying t=some (.map k e)) (hk:P.underlying k=some (.int .i64)) {n:Int} (hn:(Lit.int .i64 n).wf=true) {z:Value} (hz:(zeroValue e).run P w=.ok z w) :
 (Instr.lookup t (.map (some b)) (.int .i64 n) false).run P w=.ok ((f n).getD z) w:=by
 obtain ⟨y,c,r,C,q,B⟩:=h;have K:=Maps.int_keyed hk;have a:=Maps.keyOf_int_mk hk hn;rcases K.find w a y.toList (znk hk q) with ⟨d,g⟩ | ⟨j,u,d,g,A⟩
 · have:f n=none:=by
    cases hf:f n with
    | none=>rfl
    | some v =>
      obtain ⟨x,i,l,_⟩:=B n v hf;exact absurd l (g x i)
   simp [Instr.lookup,run_underlying ht,MapKept.run_getObj_map r,K.check w _ a,d,hz,Result.andThen,this]
 obtain ⟨m,s,_,o⟩:=q u (List.mem_of_getElem? g)
 rw [A] at s;cases s;simp [Instr.lookup,run_underlying ht,MapKept.run_getObj_map r,K.check w _ a,d,Result.andThen,o]
theorem MapAt.store (h:MapAt w b f) (ht:P.underlying t=some (.map k e)) (hk:P.underlying k=some (.int .i64)) {n:Int} (hn:(Lit.int .i64 n).wf=true) (v:Value) :
 ∃ w',(Instr.mapUpdate t (.map (some b)) (.int .i64 n) v).run P w=.ok () w'/\MapAt w' b (fun m=>if m=n then some v else f m)/\Fr (fun x=>x=b) w w'/\w'.heap.size=w.heap.size:=by
 obtain ⟨d,c,z,D,T,X⟩:=h;have K:=Maps.int_keyed hk;have g:=Maps.keyOf_int_mk hk hn;have J:∀ o,Fr (fun x=>x=b) w (setBlock w b o):=fun o=>⟨rfl,rfl,rfl,by simp [setBlock],fun i _ F=>heap_setBlock_other z _ F⟩;rcases K.find w g d.toList (znk hk T) with ⟨S,O⟩ | ⟨j,N,S,O,I⟩
 · refine ⟨setBlock w b (.map (d.push ⟨.int .i64 n,v,c⟩) (c+1)),?_,⟨_,_,heap_setBlock_same z _,MapKept.stamped_push D O,?_,?_⟩,J _,by simp [setBlock]⟩
   · simp [Instr.mapUpdate,run_underlying ht,MapKept.run_getObj_map z,K.check w false g,S,MapKept.run_setObj_map _ z,Result.andThen,setBlock]
   · intro x l
     simp only [Array.toList_push,List.mem_append,List.mem_singleton] at l;rcases l with l | rfl
     · obtain ⟨m,s,Q,R⟩:=T x l
       refine ⟨m,s,Q,?_⟩;dsimp only;rw [if_neg (fun e=>O x l (by rw [s,e]))];exact R
     exact ⟨n,rfl,hn,by simp⟩
   intro m u q
   simp only [Array.toList_push,List.mem_append,List.mem_singleton];by_cases hmn:m=n
   · subst hmn
     simp at q;subst q;exact ⟨_,.inr rfl,rfl,rfl⟩
   dsimp only at q
   rw [if_neg hmn] at q;obtain ⟨x,l,U⟩:=X m u q;exact ⟨x,.inl l,U⟩
 have G:d[j]?=some N:=by simpa using O
 have M:j<d.size:=(Array.getElem?_eq_some_iff.1 G).1;have B:∀ e',d[j]?=some e'->({ e' with key:=.int .i64 n,val:=v }:MapEntry).key=e'.key:=fun e' he'=>by rw [G] at he';cases he';exact I.symm
 have C:d.toList.Pairwise (fun x y=>x.key≠y.key):=((MapKept.stamped_iff _ _).1 D).2.2
 have r:∀ i x,d[i]?=some x->i≠j->x.key ≠ .int .i64 n:=by
  intro i x l A s;have L:=(Array.getElem?_eq_some_iff.1 l).1;rw [List.pairwise_iff_getElem] at C;have W:d[i]=x:=(Array.getElem?_eq_some_iff.1 l).2;have H:d[j]=N:=(Array.getElem?_eq_some_iff.1 G).2;rcases Nat.lt_or_gt_of_ne A with h | h
  · exact C i j (by simpa using L) (by simpa using M) h (by simp [W,H,s,I])
  exact C j i (by simpa using M) (by simpa using L) h (by simp [W,H,s,I])
 refine ⟨setBlock w b (.map (d.modify j (fun e'=>{ e' with key:=.int .i64 n,val:=v })) c),?_,
  ⟨_,_,heap_setBlock_same z _,MapKept.stamped_modify D _ _ (fun _ _=>rfl) (fun e' _ he'=>B e' he'),?_,?_⟩,J _,by simp [setBlock]⟩
 · simp [Instr.mapUpdate,run_underlying ht,MapKept.run_getObj_map z,K.check w false g,S,G,I,K.stays w g,MapKept.run_setObj_map _ z,Result.andThen,setBlock]
 · intro x l
   obtain ⟨i,F⟩:=List.getElem?_of_mem l;have a:(d.modify j (fun e'=>{ e' with key:=.int .i64 n,val:=v }))[i]?=some x:=(by rw [Array.getElem?_toList] at F;exact F);rw [Array.getElem?_modify] at a;by_cases hji:j=i
   · rw [if_pos hji] at a
     obtain ⟨y,Y,rfl⟩:=Option.map_eq_some_iff.1 a;exact ⟨n,rfl,hn,by simp⟩
   rw [if_neg hji] at a
   obtain ⟨m,s,Q,R⟩:=T x (List.mem_of_getElem? (by simpa using a));refine ⟨m,s,Q,?_⟩;dsimp only;rw [if_neg (fun e=>r i x a (fun e'=>hji e'.symm) (by rw [s,e]))];exact R
 intro m u q
 by_cases hmn:m=n
 · subst hmn
   simp at q;subst q;refine ⟨{ N with key:=.int .i64 m,val:=v },?_,rfl,rfl⟩;refine List.mem_of_getElem? (i:=j) ?_;have:(d.modify j (fun e'=>{ e' with key:=.int .i64 m,val:=v }))[j]?=some { N with key:=.int .i64 m,val:=v }:=(by rw [Array.getElem?_modify,if_pos rfl,G];rfl);rw [Array.getElem?_toList];exact this
 dsimp only at q
 rw [if_neg hmn] at q;obtain ⟨x,l,E,V⟩:=X m u q;obtain ⟨i,F⟩:=List.getElem?_of_mem l;have a:d[i]?=some x:=(by simpa using F)
 have A:j≠i:=by
  rintro rfl;rw [G] at a;cases a;rw [I] at E;cases E;exact hmn rfl
 refine ⟨x,List.mem_of_getElem? (i:=i) ?_,E,V⟩;have:(d.modify j (fun e'=>{ e' with key:=.int .i64 n,val:=v }))[i]?=some x:=(by rw [Array.getElem?_modify,if_neg A];exact a);rw [Array.getElem?_toList];exact this
theorem MapAt.drop (h:MapAt w b f) (ht:P.underlying t=some (.map k e)) (hk:P.underlying k=some (.int .i64)) {n:Int} (hn:(Lit.int .i64 n).wf=true) (ty:TypeId) :
 ∃ w',(Builtin.delete_ #[t,k] ty #[.map (some b),.int .i64 n]).run P w=.ok (.tuple #[]) w'/\MapAt w' b (fun m=>if m=n then none else f m)/\Fr (fun x=>x=b) w w'/\w'.heap.size=w.heap.size:=by
 obtain ⟨d,a,s,B,O,R⟩:=h;have K:=Maps.int_keyed hk;have c:=Maps.keyOf_int_mk hk hn;have G:∀ o,Fr (fun x=>x=b) w (setBlock w b o):=fun o=>⟨rfl,rfl,rfl,by simp [setBlock],fun i _ g=>heap_setBlock_other s _ g⟩;rcases K.find w c d.toList (znk hk O) with ⟨M,H⟩ | ⟨j,I,M,H,N⟩
 · refine ⟨setBlock w b (.map d a),?_,⟨_,_,heap_setBlock_same s _,B,?_,?_⟩,G _,by simp [setBlock]⟩
   · simp [Builtin.delete_,run_underlying ht,MapKept.run_getObj_map s,K.check w _ c,M,MapKept.run_setObj_map _ s,Result.andThen,setBlock]
   · intro x r
     obtain ⟨m,E,J,L⟩:=O x r;refine ⟨m,E,J,?_⟩;dsimp only;rw [if_neg (fun e=>H x r (by rw [E,e]))];exact L
   intro m u l
   dsimp only at l
   split at l
   · cases l
   exact R m u l
 have S:d[j]?=some I:=by simpa using H
 have z:j<d.size:=(Array.getElem?_eq_some_iff.1 S).1
 have q:(d.eraseIdxIfInBounds j).toList=d.toList.eraseIdx j:=by
  unfold Array.eraseIdxIfInBounds;rw [dif_pos z];simp
 have A:d.toList.Pairwise (fun x y=>x.key≠y.key):=((MapKept.stamped_iff _ _).1 B).2.2;refine ⟨setBlock w b (.map (d.eraseIdxIfInBounds j) a),?_,⟨_,_,heap_setBlock_same s _,MapKept.stamped_erase B j,?_,?_⟩,G _,by simp [setBlock]⟩
 · simp [Builtin.delete_,run_underlying ht,MapKept.run_getObj_map s,K.check w _ c,M,MapKept.run_setObj_map _ s,Result.andThen,setBlock]
 · intro x r
   rw [q] at r;obtain ⟨m,E,J,L⟩:=O x ((List.eraseIdx_sublist _ _).subset r);refine ⟨m,E,J,?_⟩;dsimp only;rw [if_neg ?_];exact L;rintro rfl;obtain ⟨i,g⟩:=List.mem_iff_getElem?.1 r;rw [List.pairwise_iff_getElem] at A;rw [List.getElem?_eraseIdx] at g;have F:d[j]=I:=(Array.getElem?_eq_some_iff.1 S).2
   split at g
   · rename_i hlt
     obtain ⟨v,C⟩:=List.getElem?_eq_some_iff.1 g;exact A i j v (by simpa using z) hlt (by rw [C,E];simp [F,N])
   rename_i hge
   obtain ⟨v,C⟩:=List.getElem?_eq_some_iff.1 g;exact A j (i+1) (by simpa using z) v (by omega) (by rw [C,E];simp [F,N])
 intro m u l
 dsimp only at l
 split at l
 · cases l
 rename_i hmn
 obtain ⟨x,r,D,Q⟩:=R m u l;refine ⟨x,?_,D,Q⟩;rw [q];obtain ⟨i,g⟩:=List.mem_iff_getElem?.1 r;refine List.mem_iff_getElem?.2 ?_
 have T:i≠j:=by
  rintro rfl;have:d.toList[i]?=some I:=H;rw [g] at this;cases this;rw [N] at D;cases D;exact hmn rfl
 by_cases hlt:i<j
 · exact ⟨i,by rw [List.getElem?_eraseIdx,if_pos hlt];exact g⟩
 exact ⟨i-1,by rw [List.getElem?_eraseIdx,if_neg (by omega),show i-1+1=i from by omega];exact g⟩
def mapUpW (P:Program) (t:TypeId) (b:Nat) (n:Int) (v:Value) (w:World):World:=match (Instr.mapUpdate t (.map (some b)) (.int .i64 n) v).run P w with
 | .ok _ w'=>w'
 | .halt _ w'=>w'
theorem MapAt.up (h:MapAt w b f) (ht:P.underlying t=some (.map k e)) (hk:P.underlying k=some (.int .i64)) {n:Int} (hn:(Lit.int .i64 n).wf=true) (v:Value) :
 (Instr.mapUpdate t (.map (some b)) (.int .i64 n) v).run P w=.ok () (mapUpW P t b n v w)/\MapAt (mapUpW P t b n v w) b (fun m=>if m=n then some v else f m)/\Fr (fun x=>x=b) w (mapUpW P t b n v w)/\(mapUpW P t b n v w).heap.size=w.heap.size:=by
 obtain ⟨w',a,d,g,i⟩:=h.store ht hk hn v;have c:mapUpW P t b n v w=w':=by unfold mapUpW;rw [a]
 rw [c];exact ⟨a,d,g,i⟩
end
theorem zbf {P:Program} {w:World} {ops:Array Oper} {rest:List Oper} {o:Oper} {a:Act} {Q:Exit->Act->World->Prop} (hg:o.guard=none) (m x:Operand) (t:TypeId) (hop:o.op=Op.lookup t m x false)
 (k e:TypeId) (ht:P.underlying t=some (.map k e)) (hk:P.underlying k=some (.int .i64)) (b:Nat) (f:Int->Option Value) (hm:a.eval m=.map (some b)) (h:MapAt w b f) (n:Int) (hx:a.eval x=.int .i64 n)
 (hn:(Lit.int .i64 n).wf=true) (z:Value) (hz:(zeroValue e).run P w=.ok z w) (v:Value) (hv:(f n).getD z=v) (hK:wpList P ops Q rest (a.put o.dst v) w):wpList P ops Q (o :: rest) a w:=by
 refine wpList_plain hg fun K' hK'=>?_;have c:=h.look ht hk hn hz;rw [hv] at c;unfold Oper.wp;simp [execOp,hop,hm,hx,c,Result.andThen];exact hK' _ _ hK
theorem zcu {P:Program} {w:World} {ops:Array Oper} {rest:List Oper} {o:Oper} {a:Act} {Q:Exit->Act->World->Prop} (hg:o.guard=none) (m x v:Operand) (t:TypeId) (hop:o.op=Op.mapUpdate t m x v)
 (k e:TypeId) (ht:P.underlying t=some (.map k e)) (hk:P.underlying k=some (.int .i64)) (b:Nat) (f:Int->Option Value) (hm:a.eval m=.map (some b)) (h:MapAt w b f) (n:Int) (hx:a.eval x=.int .i64 n)
 (hn:(Lit.int .i64 n).wf=true) (u:Value) (hv:a.eval v=u)
 (hK:∀ w',MapAt w' b (fun m=>if m=n then some u else f m)->Fr (fun x=>x=b) w w'->w'.heap.size=w.heap.size->wpList P ops Q rest (a.put o.dst undef) w'):wpList P ops Q (o :: rest) a w:=by
 refine wpList_plain hg fun K' hK'=>?_;obtain ⟨w',c,d,g,i⟩:=h.store ht hk hn u;unfold Oper.wp;simp [execOp,hop,hm,hx,hv,c,Result.andThen];exact hK' _ _ (hK w' d g i)
theorem zhq {P:Program} {w:World} {ops:Array Oper} {rest:List Oper} {o:Oper} {a:Act} {Q:Exit->Act->World->Prop} (hg:o.guard=none) (m x:Operand) (t k:TypeId) (hop:o.op=Op.call { callee:=Callee.builtin Builtin.delete,args:=#[m,x],argTypes:=#[t,k] })
 (e:TypeId) (ht:P.underlying t=some (.map k e)) (hk:P.underlying k=some (.int .i64)) (b:Nat) (f:Int->Option Value) (hm:a.eval m=.map (some b)) (h:MapAt w b f) (n:Int) (hx:a.eval x=.int .i64 n)
 (hn:(Lit.int .i64 n).wf=true)
 (hK:∀ w',MapAt w' b (fun m=>if m=n then none else f m)->Fr (fun x=>x=b) w w'->w'.heap.size=w.heap.size->wpList P ops Q rest (a.put o.dst (.tuple #[])) w'):wpList P ops Q (o :: rest) a w:=by
 refine wpList_plain hg fun K' hK'=>?_;obtain ⟨w',c,d,g,i⟩:=h.drop ht hk hn o.type;unfold Oper.wp;simp [execOp,hop,resolve,invoke,builtin,hm,hx,c,Result.andThen];exact hK' _ _ (hK w' d g i)
theorem Pt.splitSafe {A:Arr} {fr:List Nat} {d at_ i kid:Nat} (h:Pt A fr (d+1) at_) (h9:(ndA A at_).pairs.length<=9) (hi:(ndA A at_).kids[i]?=some kid) (hk:(ndA A kid).pairs.length=9):splitSafe A fr at_ i:=by
 have r:(ndA A at_).kids.length=(ndA A at_).pairs.length+1:=h.wf.1;have m:=(List.getElem?_eq_some_iff.1 hi).1;have b:kidA A at_ i=kid:=by unfold kidA;simp [List.getD,hi]
 have a:=List.mem_of_getElem? hi;obtain ⟨n,s,t,o⟩:=h.wf.2 kid a
 have c:kid≠at_:=by
  intro e;have g:=h.one at_;have q:0<(nidx A (d+1) (ndA A at_)).count at_:=List.count_pos_iff.2 (List.mem_flatMap.2 ⟨kid,a,by simp [e]⟩);unfold own at g;simp only [List.count_cons,beq_self_eq_true,if_true] at g;omega
 unfold Go.Proofs.YtdgkdfmfoonbpaaGreat.splitSafe;rw [b];refine ⟨h.lt,h9,by omega,by omega,hi,n,c,hk,?_,fun f hf=>⟨(h.free f hf).1,fun e=>?_,fun e=>?_,(h.free f hf).2⟩⟩
 · rcases zne d _ o with e | e
   · exact .inl e
   exact .inr (by omega)
 · have j:=h.one f
   have k:0<fr.count f:=List.count_pos_iff.2 hf;have l:0<(own A (d+1) at_).count f:=List.count_pos_iff.2 (by rw [e];unfold own;simp);omega
 have j:=(h.kid a).one f
 have k:0<fr.count f:=List.count_pos_iff.2 hf;have l:0<(own A d kid).count f:=List.count_pos_iff.2 (by rw [e];unfold own;simp);omega
theorem zpt (A:Arr) (fr:List Nat) (at_ i:Nat):A.length<=(splitA A fr at_ i).length:=by
 unfold splitA takeA
 split <;> simp
theorem zhv (key:ByteArray) (n:Int):∀ (g:Nat) (A:Arr) (fr:List Nat) (at_:Nat),A.length<=(setA g A fr at_ key n).1.length
 | 0,_,_,_=>Nat.le_refl _
 | g+1,A,fr,at_=>by
   unfold setA
   split
   · simp
   split
   · simp
   split
   · exact Nat.le_trans (zpt A fr at_ _) (zhv key n g _ _ _)
   exact zhv key n g _ _ _
theorem TreeR.of_eq {w:World} {t:Nat} {nv fv:Value} {Z:List Nz} {fl fl':List Nat} {root:Nat} {many many':Int} (h:TreeR w t nv fv Z fl root many) (h1:fl'=fl) (h2:many'=many):TreeR w t nv fv Z fl' root many':=by
 subst h1;subst h2;exact h
def SetEnd (w:World) (t:Nat) (F:Nat->Prop) (r:Arr×List Nat×Bool) (root:Nat) (many:Int) (e:Ending) (w':World):Prop :=
 (∃ v,e=.returned v)/\∃ F',TreeZ w' t r.1 r.2.1 root (many+if r.2.2 then 1 else 0) F'/\Fr F w w'/\(∀ b,F' b->F b\/w.heap.size<=b)
structure GrownZ (w wx:World) (t:Nat) (A:Arr) (fl:List Nat) (root:Nat) (many:Int) (F F1:Nat->Prop):Prop where
 z:TreeZ wx t A fl root many F1
 fr:Fr F w wx
 new:∀ b,F1 b->F b\/w.heap.size<=b
set_option maxHeartbeats 4000000 in
theorem zra (w:World) (t:Nat) (A:Arr) (fl:List Nat) (root:Nat) (many:Int) (F:Nat->Prop) (T:Pairs) (key:ByteArray) (n:Int) (h:TreeZ w t A fl root many F) (hg:GoodT A fl root T) (N:Nat) (hN:N<=1000000) (hA:A.length<=N+2) (_hT:T.length<N)
 (hm:0<=many/\many<=1000000) (g:Nat) (hsafe:zgp g (growA A fl root).1 (growA A fl root).2.1 (growA A fl root).2.2 key) (hlen:(setA g (growA A fl root).1 (growA A fl root).2.1 (growA A fl root).2.2 key n).1.length<=N+2) :
 Calls Tryz.prog 139 #[.pointer (some ⟨t,0,none⟩),.string key,.int .i64 n] w (SetEnd w t F (setA g (growA A fl root).1 (growA A fl root).2.1 (growA A fl root).2.2 key n) (growA A fl root).2.2 many):=by
 obtain ⟨D,hD⟩:=hg;have ae:fl.length<=A.length:=by have:=hD.cover;omega
 have bt:(growA A fl root).2.1.length<=fl.length:=by unfold growA;split <;> simp;omega
 have bq:=H_ h;obtain ⟨nv,fv,Z,hR,hZ,hF⟩:=h;subst hZ;have dT:Z.length<=N+2:=by rw [<-zas];exact hA
 obtain ⟨z,hz,bB⟩:=zcj hD.pt.lt;have dP:root<Z.length:=(List.getElem?_eq_some_iff.1 hz).1;obtain ⟨nb,no,cap,rfl,cX⟩:=hR.headLen (by omega);have c0:=hR.obj.cell 0 rfl;have c2:=hR.obj.cell 2 rfl;obtain ⟨a1,a2,a3,a4⟩:=hR.look root z hz;obtain ⟨pa,dl,bE,dN,dO,cE⟩:=(hR.pairs root z hz).shape;rw [bE] at a1;have dK:t<w.heap.size:=hR.obj.lt;have d7:nb<w.heap.size:=hR.nodes.lt nb rfl;have dQ:(root:Int)<(Z.length:Int):=by omega
 have aT:=H_ hD;have HR:=H_ hR;have aM:=H_ bB;have HF:=H_ hF;have aa:=H_ hsafe;have aw:=H_ hlen;have ba:=H_ bt;clear hR hF hz bB bE cE hD hsafe hlen bt a2 a3 a4;go_enter Tryz.func139,Tryz.ntmps139;go_upto_region 3 with fail
 go_quiet (fail)
 have H:=Fr.drewN No w nq;have u:=bq.out.fr0 H;generalize w.drewN nq=W at H u ⊢
 have HQ:=H_ H;have R:=H_ u;clear H u;go_upto_if 28 with fail
 go_cut [8] (fun _ wx=>∃ F1,Hid (GrownZ w wx t (growA (ndsZ Z) fl root).1 (growA (ndsZ Z) fl root).2.1 (growA (ndsZ Z) fl root).2.2 many F F1))
 case first =>
  by_cases h9:z.nd.pairs.length=9
  · have ap:(ndA (ndsZ Z) root).pairs.length=9:=by rw [aM.out];exact h9
    obtain ⟨t1,t2,t3,t4,t5,t6⟩:=top_ok aT.out ap;have af:growA (ndsZ Z) fl root=(splitA (topA (ndsZ Z) fl root) fl.dropLast (takeI (ndsZ Z) fl) 0,fl.dropLast.dropLast,takeI (ndsZ Z) fl):=(by unfold growA;rw [if_pos ap]);have bI:=t1.splitSafe (i:=0) (kid:=root) (by rw [t2];simp) (by rw [t2];rfl) (by rw [t3];exact ap);have aY:=took aT.out.pt.free;have bM:=aY.lt;have aZ:=aY.new;have bL:(takeA (ndsZ Z) fl).length<=1000003:=(by unfold takeA;split <;> simp [zas] <;> omega);have aS:((z.nd.pairs.length:Int)==9)=true:=(by simp;omega);have aI:=H_ af;have ch:=H_ bI;have cm:=H_ bM;have cl:=H_ aZ;have ck:=H_ bL;have cj:Hid (topA (ndsZ Z) fl root=(takeA (ndsZ Z) fl).set (takeI (ndsZ Z) fl) ⟨[],[root]⟩):=H_ rfl;have ci:=H_ t6;clear t1 t2 t3 t4 t5 t6 af bI aY bM aZ h9 ap bL
    have cy:fl.length<=1099511627:=(by rw [zas] at ae;omega);generalize aD:takeI (ndsZ Z) fl=top at *;have bj:=H_ aD;clear aD
    go_upto_region 5 with (first
     | (go_at_call 157;refine (zjl _ t (ndsZ Z) fl root many F R.out (by rw [zas];omega) cy).mono ?_;rintro e w1 ⟨rfl,F1,cG,C,bz⟩;rw [bj.out]))
    obtain ⟨dW,ao,Z1,I,aV,bo⟩:=cG;obtain ⟨zt,a0,bl⟩:=zbi aV cm.out;have df:top<Z1.length:=(List.getElem?_eq_some_iff.1 a0).1;obtain ⟨E,a5,X,rfl,cw⟩:=I.headLen (by omega);obtain ⟨_,e2,_,e4⟩:=I.look top zt a0;have d0:=I.obj.cell 0 rfl;have d2:=I.obj.cell 2 rfl;have d9:t<w1.heap.size:=I.obj.lt;have aX:E<w1.heap.size:=I.nodes.lt E rfl;have dS:(top:Int)<(Z1.length:Int):=(by omega)
    have bH:=I.setKids (w1:=(w1.alloc (.cells #[.int .i64 (root:Int)] 3))) (kv':=.slice (some ⟨w1.heap.size,0,none⟩) 1 1) (K':=[root]) top zt a0 ((Fr.refl _ w1).alloc _)
     ⟨rfl,.inr ⟨_,_,_,_,rfl,zae _ _ _ rfl,by simp,by unfold maxLen;omega,by simp,rfl⟩⟩ (fun b e=>by
       obtain rfl:w1.heap.size=b:=by simpa [Value.ownBlock] using e
       exact .inr (Nat.le_refl _))
    obtain ⟨q1,q2,q3⟩:=bH
    have bN:ndsZ (Z1.set top ⟨⟨zt.nd.pairs,[root]⟩,zt.pv,.slice (some ⟨w1.heap.size,0,none⟩) 1 1⟩)=topA (ndsZ Z) fl root:=by
     rw [zau,aV,cj.out,bl,cl.out];rfl
    have ay:=zbe (t:=t) (nv:=.slice (some ⟨E,a5,none⟩) Z1.length X) (fv:=ao) a0 q3;have ce:=H_ q1;have cf:=H_ q2;have co:=H_ bN;have be:=H_ ay;have c9:=H_ bo;have ar:=H_ C;have cc:=H_ bz;have cp:=H_ a0;clear q1 q2 q3 bN ay bo C bz I aV bl a0 c0 c2 a1
    go_region
    rw [<-World.setCell_alloc_past _ _ _ _ aX];have U:=ce.out.fr0 ((Fr.refl No _).drew);have aW:Fr (fun b=>b=E\/zt.kv.ownBlock=some b) w1 (((w1.alloc (.cells #[.int .i64 (root:Int)] 3)).setCell ⟨E,a5+top * 2+1,none⟩ (.slice (some ⟨w1.heap.size,0,none⟩) 1 1)).drew):=cf.out.drew;generalize (((w1.alloc (.cells #[.int .i64 (root:Int)] 3)).setCell ⟨E,a5+top * 2+1,none⟩ (.slice (some ⟨w1.heap.size,0,none⟩) 1 1)).drew)=W2 at U aW ⊢
    have r2:=U.obj.cell 2 rfl;have e3:=U.obj.free 2;have cV:t<W2.heap.size:=U.obj.lt;have ho:=U.obj.set 2 (.int .i64 (top:Int));have bF:=U.setObj ((Fr.refl (fun b=>b=t) W2).setAt 2 (.int .i64 (top:Int))) top many ho;have K:Fr (fun b=>b=t) W2 (W2.setCell ⟨t,2,none⟩ (.int .i64 (top:Int))):=(Fr.refl _ W2).setAt 2 _;have bf:=H_ bF;have b8:=H_ aW;have aG:=H_ K;clear U aW ho bF K d0 d2 e2 e4;go_wp2_with fail;generalize W2.setCell ⟨t,2,none⟩ (.int .i64 (top:Int))=W3 at bf aG ⊢
    have V:TreeZ W3 t (topA (ndsZ Z) fl root) fl.dropLast top many (treeF t (.slice (some ⟨E,a5,none⟩) Z1.length X) ao (Z1.set top ⟨⟨zt.nd.pairs,[root]⟩,zt.pv,.slice (some ⟨w1.heap.size,0,none⟩) 1 1⟩)):=⟨_,_,_,bf.out,co.out,fun b=>Iff.rfl⟩;have cn:=H_ V;clear V;have br:fl.dropLast.length<=1099511627:=(by simp;omega)
    go_wp2_with (first
     | (go_at_call 158;refine (zhu _ t (topA (ndsZ Z) fl root) fl.dropLast top many _ cn.out top 0 ch.out (by rw [ci.out];have:=ck.out;omega) br).mono ?_;rintro e w4 ⟨rfl,F4,ai,ad,ah⟩))
    have aP:=H_ ai;have aF:=H_ ad;have aL:=H_ ah;clear ai ad ah;go_meet
    case rel =>
     have dd:=ar.out.size;have bJ:=HQ.out.size;have cF:=b8.out.size;have de:=aG.out.size
     have x:∀ b,treeF t (.slice (some ⟨E,a5,none⟩) Z1.length X) ao Z1 b->F b\/w.heap.size<=b:=by
      intro b k;rcases cc.out b ((c9.out b).2 k) with e | e
      · exact .inl e
      exact .inr (by omega)
     have aE:∀ b,treeF t (.slice (some ⟨E,a5,none⟩) Z1.length X) ao (Z1.set top ⟨⟨zt.nd.pairs,[root]⟩,zt.pv,.slice (some ⟨w1.heap.size,0,none⟩) 1 1⟩) b->F b\/w.heap.size<=b:=by
      intro b k;rcases be.out b k with e | e
      · exact x b e
      exact .inr (by omega)
     refine ⟨F4,H_ ⟨?_,?_,fun b k=>?_⟩⟩
     · rw [aI.out];exact aP.out
     · have f1:Fr F w w1:=(HQ.out.mono fun _ _ s=>s.elim).trans ar.out fun _ _ e=>e
       have f2:=f1.trans b8.out fun b k e=>by
        rcases x b (by
         rcases e with rfl | e
         · exact .inr (.inl rfl)
         exact .inr (.inr (.inr ⟨top,zt,cp.out,.inr e⟩))) with e | e
        · exact e
        omega
       have f3:=f2.trans aG.out fun b k e=>by
        rcases x b (.inl e) with e | e
        · exact e
        omega
       exact f3.trans aF.out fun b k e=>by
        rcases aE b e with e | e
        · exact e
        omega
     rcases aL.out b k with e | e
     · exact aE b e
     exact .inr (by omega)
  have aS:((z.nd.pairs.length:Int)==9)=false:=by simp;omega
  have af:growA (ndsZ Z) fl root=(ndsZ Z,fl,root):=(by unfold growA;rw [if_neg (by rw [aM.out];exact h9)]);have aI:=H_ af;clear af h9;go_wp2_with fail;go_meet
  case rel=>exact ⟨F,H_ ⟨by rw [aI.out];exact R.out,HQ.out.mono fun _ _ s=>s.elim,fun b k=>.inl k⟩⟩
 case rest =>
  obtain ⟨F1,aH⟩:=hcut;have au:Hid ((growA (ndsZ Z) fl root).2.1.length<=1099511627):=H_ (by have:=ba.out;rw [zas] at ae;omega);have av:Hid (many<=1000000/\0<=many):=H_ ⟨hm.2,hm.1⟩;generalize growA (ndsZ Z) fl root=G at *;obtain ⟨A1,bm,o⟩:=G;dsimp only at aH aa aw au ⊢
  generalize aC:setA g A1 bm o key n=a6 at *;have bh:=H_ aC
  have dx:wc.cell? ⟨t,2,none⟩=some (.int .i64 (o:Int)):=by
   obtain ⟨_,_,_,h1,_⟩:=aH.out.z;exact h1.obj.cell 2 rfl
  clear aC HQ R bq HR aM HF c0 c2 a1 ba aT ae;go_wp2_with fail
  go_loopg [9] g (fun gg s9 wr=>∃ (A2:Arr) (l:List Nat) (a:Nat) (F2:Nat->Prop),s9=.int .i64 a/\Hid (GrownZ w wr t A2 l o many F F2)/\Hid (zgp gg A2 l a key)/\Hid (setA gg A2 l a key n=a6)/\Hid (l.length<=1099511627))
  case atStart=>exact ⟨A1,bm,o,F1,rfl,aH,aa,bh,au⟩
  case round =>
   obtain ⟨A2,l,a,F2,rfl,j,HS,bg,bd⟩:=hrel
   cases gk with
   | zero=>exact absurd HS.out id
   | succ q =>
     obtain ⟨s1,s2,s3⟩:=HS.out
     have cv:A2.length<=N+2:=by
      have h1:=zhv key n (q+1) A2 l a;rw [bg.out] at h1;exact Nat.le_trans h1 aw.out
     have bp:=H_ j.out.z;obtain ⟨dX,cu,Z2,f,J,ab⟩:=j.out.z;obtain ⟨d,r,M⟩:=zbi J s1;have dg:Z2.length<=N+2:=(by rw [<-zas,J];exact cv);have cW:a<Z2.length:=(List.getElem?_eq_some_iff.1 r).1;obtain ⟨P,b0,bk,rfl,cx⟩:=f.headLen (by omega);have v:=spotZ f a d r (by rw [M];exact s2) (by omega) key;unfold zbq at v;obtain ⟨b1,b2,b3,b4⟩:=f.look a d r;have d0:=f.obj.cell 0 rfl;have d3:=f.obj.cell 3 rfl;have aR:=f.obj.free 3;have hP:=f.pairs a d r;have hK:=f.kids a d r;obtain ⟨dY,cM,O,db,dc,Y⟩:=hP.shape;obtain ⟨dV,cL,L,d1,d4,ag⟩:=hK.shape;have dI:(a:Int)<(Z2.length:Int):=(by omega);have c:setA (q+1) A2 l a key n=a6:=bg.out;unfold setA at c;rw [<-M] at c s2 s3
     have cD:P<wr.heap.size:=f.nodes.lt P rfl;have da:t<wr.heap.size:=f.obj.lt;have bC:¬ d.pv.ownBlock=some P:=fun e=>(f.a2 a _ P r (.inl e)).2.1 rfl;have bD:¬ d.pv.ownBlock=some t:=fun e=>(f.a2 a _ t r (.inl e)).1 rfl;have aZ:t≠P:=fun e=>f.a1.1 (by rw [e];rfl)
     cases hh:hitOf d.nd.pairs key with
     | true =>
       obtain ⟨m,hm⟩:=hit_at hh;have bu:=(List.getElem?_eq_some_iff.1 hm).1;obtain ⟨pb,po,rfl⟩:=Y (by omega);rw [O] at b1 hP;have hc:=hP.cell zad _ 1 hm rfl;have dH:=hP.free (po+spotOf d.nd.pairs key * 2+1);rw [hh,if_pos rfl] at c;rw [hh] at v;have az:=hP.set zad (spotOf d.nd.pairs key) 1 (by omega) (key,m) (key,n) (.int .i64 n) hm rfl;have cd:=H_ az;have y:=H_ c;have cY:(spotOf d.nd.pairs key:Int)<(d.nd.pairs.length:Int):=(by omega);have d8:pb<wr.heap.size:=hP.lt pb rfl;have aN:=H_ f;have aO:=H_ J;have am:=H_ ab;have S:=H_ r;have a8:=H_ O;clear c hh hm O L hP hK f r M Y ag az J ab b2 b3 b4 d3 aR s1 s2 s3 HS;generalize spotOf d.nd.pairs key=i at *;go_wp2_with (go_at_call 134;refine v.mono ?_;clear v;rintro e w' ⟨rfl,rfl⟩)
       go_ret2
       have K:Fr (fun b=>b=pb) wr (wr.setCell ⟨pb,po+i * 2+1,none⟩ (.int .i64 n)):=(Fr.refl _ wr).setAt _ _
       have H:=aN.out.setPair (w1:=wr.setCell ⟨pb,po+i * 2+1,none⟩ (.int .i64 n)) (P':=d.nd.pairs.set i (key,n)) a d S.out a8.out K (by
        rw [a8.out];have:=cd.out;unfold SlF at this ⊢
        rw [List.length_set] at this ⊢
        exact this)
       have cH:zown d pb:=.inl (by rw [a8.out];rfl);have k:a6.2.1=l/\(many+if a6.2.2 then 1 else 0)=many:=(by rw [<-y.out];simp);refine ⟨⟨_,rfl⟩,_,⟨_,_,_,H.of_eq k.1 k.2,?_,fun b=>Iff.rfl⟩,?_,?_⟩
       · rw [<-y.out,zau,aO.out]
       · exact j.out.fr.trans K fun b k e=>by
          have e':b=pb:=e;rcases j.out.new b ((am.out b).2 (.inr (.inr (.inr ⟨a,d,S.out,e'▸cH⟩)))) with e | e
          · exact e
          omega
       intro b k
       rcases zbe (z':=⟨⟨d.nd.pairs.set i (key,n),d.nd.kids⟩,d.pv,d.kv⟩) S.out (B:=w.heap.size) (fun b e=>.inl e) b k with e | e
       · exact j.out.new b ((am.out b).2 e)
       exact .inr e
     | false =>
       rw [hh] at v c;simp only [Bool.false_eq_true,if_false] at c;by_cases hk0:d.nd.kids = []
       · rw [if_pos hk0] at c
         have bx:d.nd.kids.length=0:=(by rw [hk0];rfl);rw [L,bx] at b2;have aA:=zdv wr d.pv d.nd.pairs (spotOf d.nd.pairs key) (key,n) hP (zbm _ _) (by omega);have y:=H_ c;have aN:=H_ f;have aO:=H_ J;have am:=H_ ab;have S:=H_ r;have ca:=H_ hk0;clear c hh O L hP hK f r M Y ag J ab b4 s1 s3 HS hk0 bx;have dL:=av.out.1;have dM:=av.out.2;generalize spotOf d.nd.pairs key=i at *
         go_wp2_with (first
          | (go_at_call 134;refine v.mono ?_;clear v;rintro e w' ⟨rfl,rfl⟩)
          | (go_at_call 154;refine aA.mono ?_;clear aA;rintro e w1 ⟨g1,o1,c1,rfl,bG,C,bs⟩
             have y1:=C.cell b1 bC;have y2:=C.free b1 b3 bC;have y3:=C.cell d3 bD;have y4:=C.free d3 aR bD;have cg:=H_ bG;have b9:=H_ bs;have b7:=H_ C;clear bG bs C))
         go_ret2
         have cz:∀ b,(Value.slice (some ⟨g1,o1,none⟩) (d.nd.pairs.length+1) c1).ownBlock=some b->d.pv.ownBlock=some b\/wr.heap.size<=b:=fun b e=>by
          obtain rfl:g1=b:=by simpa [Value.ownBlock] using e
          exact b9.out
         obtain ⟨q1,q2,q3⟩:=aN.out.setPairs (w1:=w1) (pv':=.slice (some ⟨g1,o1,none⟩) (d.nd.pairs.length+1) c1) (P':=d.nd.pairs.take i++(key,n) :: d.nd.pairs.drop i) a d S.out b7.out cg.out cz;have K:Fr (fun b=>b=t) (w1.setCell ⟨P,b0+a * 2,none⟩ (.slice (some ⟨g1,o1,none⟩) (d.nd.pairs.length+1) c1)) ((w1.setCell ⟨P,b0+a * 2,none⟩ (.slice (some ⟨g1,o1,none⟩) (d.nd.pairs.length+1) c1)).setCell ⟨t,3,none⟩ (.int .i64 (many+1))):=(Fr.refl _ _).setAt _ _;have ho:=q1.obj.set 3 (.int .i64 (many+1));have q4:=q1.setObj K o (many+1) ho;have bK:=j.out.fr.size;have x:∀ b,treeF t (.slice (some ⟨P,b0,none⟩) Z2.length bk) cu Z2 b->F b\/w.heap.size<=b:=fun b k=>j.out.new b ((am.out b).2 k)
         have k:a6.2.1=l/\(many+if a6.2.2 then 1 else 0)=many+1:=(by rw [<-y.out];simp);refine ⟨⟨_,rfl⟩,_,⟨_,_,_,q4.of_eq k.1 k.2,?_,fun b=>Iff.rfl⟩,?_,?_⟩
         · rw [<-y.out,zau,aO.out,ca.out]
         · refine (j.out.fr.trans q2 fun b k e=>?_).trans K fun b k e=>?_
           · rcases x b (by
              rcases e with rfl | e
              · exact .inr (.inl rfl)
              exact .inr (.inr (.inr ⟨a,d,S.out,.inl e⟩))) with e | e
             · exact e
             omega
           rcases x b (.inl e) with e | e
           · exact e
           omega
         intro b k
         rcases zbe S.out q3 b k with e | e
         · exact x b e
         exact .inr (by omega)
       rw [if_neg hk0] at c
       obtain ⟨k1,k2,k3,k4,k5⟩:=s3 hh hk0;obtain ⟨z3,V,ax⟩:=zbi J k2;have cA:kidA A2 a (spotOf d.nd.pairs key)<Z2.length:=(List.getElem?_eq_some_iff.1 V).1;obtain ⟨e1,_,_,_⟩:=f.look _ z3 V;obtain ⟨dZ,cN,aB,_,_,_⟩:=(f.pairs _ z3 V).shape;rw [aB] at e1;have bu:=(List.getElem?_eq_some_iff.1 k1).1;obtain ⟨kb,ko,rfl⟩:=ag (by omega);rw [L] at b2 hK;have cB:=hK.cell1 zag _ k1 rfl;have cZ:(spotOf d.nd.pairs key:Int)<(d.nd.kids.length:Int):=(by omega);have d5:((d.nd.kids.length:Int)==0)=false:=(by simp;omega);have d6:kb<wr.heap.size:=hK.lt kb rfl;have dR:=zbm d.nd.pairs key;rw [<-ax] at c k4 k5;have aJ:=H_ k4;have aK:=H_ k5;have y:=H_ c
       clear c hh O L hP hK f r M Y J ab b1 b3 b4 s1 s3 HS hk0 k1 k2 k3 k4 k5 V ax aB bu d3 aR;generalize bw:kidA A2 a (spotOf d.nd.pairs key)=kid at *;have dr:=H_ bw;have dJ:(kid:Int)<(Z2.length:Int):=(by omega);clear bw;by_cases h9:z3.nd.pairs.length=9
       · have aS:((z3.nd.pairs.length:Int)==9)=true:=by simp;omega
         have Q:=y.out;rw [if_pos h9] at Q;obtain ⟨bO,bP⟩:=aJ.out h9;have a9:=H_ Q;have bb:=H_ bO;have bc:=H_ bP;clear Q bO bP y aJ aK h9;generalize spotOf d.nd.pairs key=i at *
         go_upto_region 19 with (first
          | (go_at_call 134;refine v.mono ?_;clear v;rintro e w' ⟨rfl,rfl⟩))
         go_quiet (fail)
         have H:=Fr.drewN No wr nq;have u:=bp.out.fr0 H;generalize wr.drewN nq=W at H u ⊢
         have HQ:=H_ H;have R:=H_ u;clear H u;have cC:=bd.out
         go_wp2_with (first
          | (go_at_call 158;refine (zhu _ t A2 l o many F2 R.out a i bb.out (by omega) cC).mono ?_;rintro e w4 ⟨rfl,F4,ai,ad,ah⟩))
         have aP:=H_ ai;have aF:=H_ ad;have aL:=H_ ah;clear ai ad ah;go_roundg q
         case rel =>
          have bJ:=HQ.out.size;have bK:=j.out.fr.size;refine ⟨splitA A2 l a i,l.dropLast,a,F4,rfl,H_ ⟨aP.out,(j.out.fr.trans0 HQ.out).trans aF.out fun b k e=>?_,fun b k=>?_⟩,bc,a9,H_ (by simp;omega)⟩
          · rcases j.out.new b e with e | e
            · exact e
            omega
          rcases aL.out b k with e | e
          · exact j.out.new b e
          exact .inr (by omega)
         case measure=>omega
       have aS:((z3.nd.pairs.length:Int)==9)=false:=by simp;omega
       have Q:=y.out;rw [if_neg h9] at Q;have ks:=aK.out h9;have a9:=H_ Q;have cb:=H_ ks;clear Q ks y aJ aK h9;generalize spotOf d.nd.pairs key=i at *
       go_upto_region 19 with (first
        | (go_at_call 134;refine v.mono ?_;clear v;rintro e w' ⟨rfl,rfl⟩))
       go_quiet (fail)
       have H:=Fr.drewN No wr nq;have u:=bp.out.fr0 H;have cr:=H.cell0 b2;have bv:=H.cell0 cB;generalize wr.drewN nq=W at H u cr bv ⊢
       have HQ:=H_ H;have R:=H_ u;clear H u;go_wp2_with fail;go_roundg q
       case rel =>
        exact ⟨A2,l,kid,F2,rfl,H_ ⟨R.out,j.out.fr.trans0 HQ.out,j.out.new⟩,cb,a9,bd⟩
       case measure=>omega
end Go.Proofs.YtdgkdfmfoonbpaaGreat