/- Own lemmas. -/
import Derived.Test.YthljnnjpmdgkoaaGreatI08
import Derived.Test.YthljnnjpmdgkoaaGreatI00
import Derived.Test.YthljnnjpmdgkoaaGreatI07
import Derived.Maps.OwnOps
import Derived.Maps.OwnSet
import Derived.BigRegion
namespace Go.Proofs.YthljnnjpmdgkoaaGreat
open Go Go.Proofs Go.RowKit
set_option maxRecDepth 100000
theorem kid_z {Z:List Nz} {A:Arr} {fl:List Nat} {at_:Nat} (hZ:ndsZ Z=A) (hs:zbw A fl at_) {i:Nat} (hi:i<(ndA A at_).kids.length) :
 ∃ c zc,(ndA A at_).kids[i]?=some c/\kidA A at_ i=c/\Z[c]?=some zc/\zc.nd=ndA A c/\c≠at_/\zc.nd.pairs.length<=9/\(zc.nd.kids = []\/zc.nd.kids.length=zc.nd.pairs.length+1):=by
 obtain ⟨c,b⟩:∃ c,(ndA A at_).kids[i]?=some c:=⟨_,List.getElem?_eq_getElem hi⟩;obtain ⟨d,e,f,g⟩:=hs.kid c (List.mem_of_getElem? b);obtain ⟨zc,j,a⟩:=zbr hZ d;exact ⟨c,zc,b,by unfold kidA;simp [List.getD,b],j,a,e,by rw [a];exact f,by rw [a];exact g⟩
set_option maxHeartbeats 4000000 in
theorem zro (w:World) (t:Nat) (A:Arr) (fl:List Nat) (root:Nat) (many:Int) (F:Nat->Prop) (h:TreeZ w t A fl root many F) (at_ i:Nat) (hs:zbw A fl at_) (hA:A.length<=109951162) (hi:i<(ndA A at_).kids.length)
 (hk5:4<(ndA A (kidA A at_ i)).pairs.length):Calls Tryz.prog 171 #[.pointer (some ⟨t,0,none⟩),.int .i64 at_,.int .i64 i] w (zhf w t F A fl root many):=by
 obtain ⟨nv,fv,Z,e,r,hF⟩:=id h;obtain ⟨u,c,j⟩:=zbr r hs.lt;obtain ⟨k,L,D,o,d,n,T,a7,G⟩:=kid_z r hs hi;have O:at_<Z.length:=(List.getElem?_eq_some_iff.1 c).1;have a8:k<Z.length:=(List.getElem?_eq_some_iff.1 d).1;have a5:Z.length<=109951162:=by rw [<-zay,r];exact hA
 obtain ⟨nb,no,cap,rfl,Q⟩:=e.headLen (by omega);rw [o,<-n] at hk5;rw [<-j] at D hi;have g:=hs.len;have C:=hs.hi;rw [<-j] at g C;have N:=e.obj.cell 0 rfl;obtain ⟨M,v,Y,a4⟩:=e.look at_ u c;obtain ⟨I,k2,k3,k4⟩:=e.look k L d;obtain ⟨ka,W,q,aa,ab,E⟩:=(e.kids at_ u c).shape;obtain ⟨ah,J,f,U,V,p⟩:=(e.pairs k L d).shape;obtain ⟨kb,ko,rfl⟩:=E (by omega);have l:=e.kids at_ u c;rw [q] at v l;rw [f] at I;have kl:=l.cell1 zag i D rfl;have P:(at_:Int)<(Z.length:Int):=by omega
 have a9:(k:Int)<(Z.length:Int):=by omega
 have a6:(i:Int)<(u.nd.kids.length:Int):=by omega
 have R:(i:Int)<=9:=by omega
 have S:(4:Int)<(L.nd.pairs.length:Int):=by omega
 have H:=H_ h;clear h hs q f e l g p Y a4 k2 k3 k4 D o hF r j n G c d;go_enter Tryz.func171,Tryz.ntmps171;go_upto_region 2 with fail
 go_quiet (fail)
 have a:=Fr.drewN No w nq;generalize w.drewN nq=W1 at a ⊢
 replace N:=a.cell0 N
 replace M:=a.cell0 M
 replace v:=a.cell0 v
 replace I:=a.cell0 I
 have m:=H_ a;clear a kl;go_wp2_with fail;go_ret;obtain ⟨K,x,X,z,B,y⟩:=H.out;exact ⟨⟨_,rfl⟩,F,⟨K,x,X,z.fr0 m.out,B,y⟩,m.out.mono (fun _ _ s=>s.elim),fun b hb=>.inl hb⟩
theorem zuv (w:World) (t:Nat) (A:Arr) (fl:List Nat) (root:Nat) (many:Int) (F:Nat->Prop) (h:TreeZ w t A fl root many F) (at_ i:Nat) (hs:zbw A fl at_) (hA:A.length<=109951162) (hi:i<(ndA A at_).kids.length)
 (hpos:1<=(ndA A at_).pairs.length):Calls Tryz.prog 171 #[.pointer (some ⟨t,0,none⟩),.int .i64 at_,.int .i64 i] w (zhf w t F (fillA A fl at_ i).1 (fillA A fl at_ i).2 root many):=by
 unfold fillA;have v:=hs.len
 split
 · exact zro w t A fl root many F h at_ i hs hA hi ‹_›
 rename_i hk4
 split
 · rename_i hl
   obtain ⟨j,rfl⟩:∃ j,i=j+1:=⟨i-1,by omega⟩;obtain ⟨l,k,f,no,cap,fv,Z,g,J,n,p,s⟩:=two_z h at_ j hs (by omega) hA;refine zqy w t A fl root many F at_ j l k f no cap fv Z g J n p s ?_ ?_
   · rw [s.ek,<-s.hk];omega
   rw [s.el,<-s.hl];exact hl.2
 rename_i hl
 obtain ⟨nv,fv,Z,N,d,hF⟩:=id h;obtain ⟨g,y,a⟩:=zbr d hs.lt;obtain ⟨k,n,E,G,I,o,u,R,H⟩:=kid_z d hs hi;have O:at_<Z.length:=(List.getElem?_eq_some_iff.1 y).1;have D:Z.length<=109951162:=(by rw [<-zay,d];exact hA);obtain ⟨f,no,cap,rfl,P⟩:=N.headLen (by omega)
 have C:zod w t A fl root many F at_ i k f no cap fv Z g n:=by
  refine ⟨⟨N,Fr.refl _ w,fun b hb=>.inl ((hF b).2 hb)⟩,d,y,I,a,by rw [a];exact E,by rw [o,<-G];omega,by rw [a];exact hs.hi,by rw [a];exact v,?_,D⟩
  cases i with
  | zero=>exact .inl rfl
  | succ m =>
    obtain ⟨l,J,c,z,B,q,K,L,M⟩:=kid_z d hs (i:=m) (by omega);refine .inr ⟨m,l,J,rfl,by rw [a];exact c,B,?_⟩;rw [q,<-z];have:=Nat.not_lt.1 (fun x=>hl ⟨Nat.succ_pos m,x⟩);rw [Nat.add_sub_cancel] at this;omega
 split
 · rename_i hn
   obtain ⟨r,Q,c,z,B,q,K,L,M⟩:=kid_z d hs (i:=i+1) hn
   split
   · rename_i hr
     obtain ⟨p,S⟩:∃ p,(ndA A at_).pairs[i]?=some p:=⟨_,List.getElem?_eq_getElem (by omega)⟩;refine zrn w t A fl root many F at_ i k f no cap fv Z g n C r Q p (by rw [a];exact c) B (by rw [q,<-z];exact hr) L (by rw [a];exact S) u K ?_ H M ?_
     · intro e
       have:=hs.apart i (i+1) k E (by rw [e];exact c);omega
     rw [o,q];exact hs.both k (List.mem_of_getElem? E) r (List.mem_of_getElem? c)
   rename_i hr
   exact zrm w t A fl root many F at_ i k f no cap fv Z g n C r Q (by rw [a];exact c) B (by rw [q,<-z];omega) hs
 rename_i hn
 obtain ⟨m,rfl⟩:∃ m,i=m+1:=⟨i-1,by omega⟩;exact zrl w t A fl root many F at_ (m+1) k f no cap fv Z g n C m rfl (by rw [a];omega) hs
open Go Go.RowKit Go.WideElems Go.ChangeMaps
def MapAt (w:World) (b:Nat) (f:Int->Option Value):Prop :=
 ∃ es clock,w.heap[b]?=some (.map es clock)/\MapKept.Stamped es clock/\(∀ e∈es.toList,∃ n,e.key=.int .i64 n/\(Lit.int .i64 n).wf=true/\f n=some e.val) ∧
  ∀ n v,f n=some v->∃ e∈es.toList,e.key=.int .i64 n/\e.val=v
theorem Fr.setAt {b:Nat} {a w:World} (h:Fr (fun x=>x=b) a w) (i:Nat) (u:Value):Fr (fun x=>x=b) a (w.setCell ⟨b,i,none⟩ u):=h.setCell (p:=⟨b,i,none⟩) (.inl rfl) u
theorem MapAt.lt {w:World} {b:Nat} {f:Int->Option Value} (h:MapAt w b f):b<w.heap.size:=by
 obtain ⟨d,a,c,_⟩:=h;exact zab c
theorem MapAt.keep {w w':World} {b:Nat} {f:Int->Option Value} (h:MapAt w b f) (hk:w'.heap[b]?=w.heap[b]?):MapAt w' b f:=by
 obtain ⟨c,a,d,h⟩:=h;exact ⟨c,a,hk.trans d,h⟩
theorem MapAt.fr {w w':World} {b:Nat} {f:Int->Option Value} {S:Nat->Prop} (h:MapAt w b f) (hf:Fr S w w') (hn:¬ S b):MapAt w' b f:=h.keep (hf.block b h.lt hn)
theorem MapAt.alloc {w:World} {b:Nat} {f:Int->Option Value} (h:MapAt w b f) (o:Obj):MapAt (w.alloc o) b f:=h.keep (Below.heap_alloc w o b h.lt)
theorem MapAt.made (w:World):MapAt (w.alloc (.map #[] 0)) w.heap.size fun _=>none :=
 ⟨#[],0,heap_alloc_new w _,MapKept.stamped_empty 0,by simp,by simp⟩
theorem MapAt.apart {w:World} {b:Nat} {f:Int->Option Value} (h:MapAt w b f) {cs:List Value} {c:Nat} (hc:Has w c cs):b≠c:=by
 rintro rfl;obtain ⟨g,a,d,_⟩:=h;obtain ⟨e,hc⟩:=hc;rw [d] at hc;cases hc
section
variable {P:Program} {w:World} {b:Nat} {f:Int->Option Value} {t k e:TypeId}
theorem zrc (hk:P.underlying k=some (.int .i64)) {es:List MapEntry} (h:∀ e∈es,∃ n,e.key=.int .i64 n/\(Lit.int .i64 n).wf=true/\f n=some e.val):∀ e∈es,∃ l,keyOf P k e.key=some l:=by
 intro e c;obtain ⟨n,a,b,_⟩:=h e c;exact ⟨_,by rw [a];exact Maps.keyOf_int_mk hk b⟩
theorem MapAt.look (h:MapAt w b f) (ht:P.underlying t=some (.map k e)) (hk:P.underlying k=some (.int .i64)) {n:Int} (hn:(Lit.int .i64 n).wf=true) {z:Value} (hz:(zeroValue e).run P w=.ok z w) :
 (Instr.lookup t (.map (some b)) (.int .i64 n) false).run P w=.ok ((f n).getD z) w:=by
 obtain ⟨x,c,q,B,p,A⟩:=h;have K:=Maps.int_keyed hk;have a:=Maps.keyOf_int_mk hk hn;rcases K.find w a x.toList (zrc hk p) with ⟨d,g⟩ | ⟨j,s,d,g,y⟩
 · have:f n=none:=by
    cases hf:f n with
    | none=>rfl
    | some v =>
      obtain ⟨u,i,l,_⟩:=A n v hf;exact absurd l (g u i)
   simp [Instr.lookup,run_underlying ht,MapKept.run_getObj_map q,K.check w _ a,d,hz,Result.andThen,this]
 obtain ⟨m,r,_,o⟩:=p s (List.mem_of_getElem? g)
 rw [y] at r;cases r;simp [Instr.lookup,run_underlying ht,MapKept.run_getObj_map q,K.check w _ a,d,Result.andThen,o]
theorem MapAt.store (h:MapAt w b f) (ht:P.underlying t=some (.map k e)) (hk:P.underlying k=some (.int .i64)) {n:Int} (hn:(Lit.int .i64 n).wf=true) (v:Value) :
 ∃ w',(Instr.mapUpdate t (.map (some b)) (.int .i64 n) v).run P w=.ok () w'/\MapAt w' b (fun m=>if m=n then some v else f m)/\Fr (fun x=>x=b) w w'/\w'.heap.size=w.heap.size:=by
 obtain ⟨d,c,s,C,S,W⟩:=h;have K:=Maps.int_keyed hk;have g:=Maps.keyOf_int_mk hk hn;have I:∀ o,Fr (fun x=>x=b) w (setBlock w b o):=fun o=>⟨rfl,rfl,rfl,by simp [setBlock],fun i _ E=>heap_setBlock_other s _ E⟩;rcases K.find w g d.toList (zrc hk S) with ⟨R,N⟩ | ⟨j,M,R,N,H⟩
 · refine ⟨setBlock w b (.map (d.push ⟨.int .i64 n,v,c⟩) (c+1)),?_,⟨_,_,heap_setBlock_same s _,MapKept.stamped_push C N,?_,?_⟩,I _,by simp [setBlock]⟩
   · simp [Instr.mapUpdate,run_underlying ht,MapKept.run_getObj_map s,K.check w false g,R,MapKept.run_setObj_map _ s,Result.andThen,setBlock]
   · intro x l
     simp only [Array.toList_push,List.mem_append,List.mem_singleton] at l;rcases l with l | rfl
     · obtain ⟨m,r,O,Q⟩:=S x l
       refine ⟨m,r,O,?_⟩;dsimp only;rw [if_neg (fun e=>N x l (by rw [r,e]))];exact Q
     exact ⟨n,rfl,hn,by simp⟩
   intro m u p
   simp only [Array.toList_push,List.mem_append,List.mem_singleton];by_cases hmn:m=n
   · subst hmn
     simp at p;subst p;exact ⟨_,.inr rfl,rfl,rfl⟩
   dsimp only at p
   rw [if_neg hmn] at p;obtain ⟨x,l,T⟩:=W m u p;exact ⟨x,.inl l,T⟩
 have F:d[j]?=some M:=by simpa using N
 have L:j<d.size:=(Array.getElem?_eq_some_iff.1 F).1;have A:∀ e',d[j]?=some e'->({ e' with key:=.int .i64 n,val:=v }:MapEntry).key=e'.key:=fun e' he'=>by rw [F] at he';cases he';exact H.symm
 have B:d.toList.Pairwise (fun x y=>x.key≠y.key):=((MapKept.stamped_iff _ _).1 C).2.2
 have q:∀ i x,d[i]?=some x->i≠j->x.key ≠ .int .i64 n:=by
  intro i x l z r;have J:=(Array.getElem?_eq_some_iff.1 l).1;rw [List.pairwise_iff_getElem] at B;have V:d[i]=x:=(Array.getElem?_eq_some_iff.1 l).2;have G:d[j]=M:=(Array.getElem?_eq_some_iff.1 F).2;rcases Nat.lt_or_gt_of_ne z with h | h
  · exact B i j (by simpa using J) (by simpa using L) h (by simp [V,G,r,H])
  exact B j i (by simpa using L) (by simpa using J) h (by simp [V,G,r,H])
 refine ⟨setBlock w b (.map (d.modify j (fun e'=>{ e' with key:=.int .i64 n,val:=v })) c),?_,
  ⟨_,_,heap_setBlock_same s _,MapKept.stamped_modify C _ _ (fun _ _=>rfl) (fun e' _ he'=>A e' he'),?_,?_⟩,I _,by simp [setBlock]⟩
 · simp [Instr.mapUpdate,run_underlying ht,MapKept.run_getObj_map s,K.check w false g,R,F,H,K.stays w g,MapKept.run_setObj_map _ s,Result.andThen,setBlock]
 · intro x l
   obtain ⟨i,E⟩:=List.getElem?_of_mem l;have a:(d.modify j (fun e'=>{ e' with key:=.int .i64 n,val:=v }))[i]?=some x:=(by rw [Array.getElem?_toList] at E;exact E);rw [Array.getElem?_modify] at a;by_cases hji:j=i
   · rw [if_pos hji] at a
     obtain ⟨y,X,rfl⟩:=Option.map_eq_some_iff.1 a;exact ⟨n,rfl,hn,by simp⟩
   rw [if_neg hji] at a
   obtain ⟨m,r,O,Q⟩:=S x (List.mem_of_getElem? (by simpa using a));refine ⟨m,r,O,?_⟩;dsimp only;rw [if_neg (fun e=>q i x a (fun e'=>hji e'.symm) (by rw [r,e]))];exact Q
 intro m u p
 by_cases hmn:m=n
 · subst hmn
   simp at p;subst p;refine ⟨{ M with key:=.int .i64 m,val:=v },?_,rfl,rfl⟩;refine List.mem_of_getElem? (i:=j) ?_;have:(d.modify j (fun e'=>{ e' with key:=.int .i64 m,val:=v }))[j]?=some { M with key:=.int .i64 m,val:=v }:=(by rw [Array.getElem?_modify,if_pos rfl,F];rfl);rw [Array.getElem?_toList];exact this
 dsimp only at p
 rw [if_neg hmn] at p;obtain ⟨x,l,D,U⟩:=W m u p;obtain ⟨i,E⟩:=List.getElem?_of_mem l;have a:d[i]?=some x:=(by simpa using E)
 have z:j≠i:=by
  rintro rfl;rw [F] at a;cases a;rw [H] at D;cases D;exact hmn rfl
 refine ⟨x,List.mem_of_getElem? (i:=i) ?_,D,U⟩;have:(d.modify j (fun e'=>{ e' with key:=.int .i64 n,val:=v }))[i]?=some x:=(by rw [Array.getElem?_modify,if_neg z];exact a);rw [Array.getElem?_toList];exact this
theorem MapAt.drop (h:MapAt w b f) (ht:P.underlying t=some (.map k e)) (hk:P.underlying k=some (.int .i64)) {n:Int} (hn:(Lit.int .i64 n).wf=true) (ty:TypeId) :
 ∃ w',(Builtin.delete_ #[t,k] ty #[.map (some b),.int .i64 n]).run P w=.ok (.tuple #[]) w'/\MapAt w' b (fun m=>if m=n then none else f m)/\Fr (fun x=>x=b) w w'/\w'.heap.size=w.heap.size:=by
 obtain ⟨d,a,r,A,N,Q⟩:=h;have K:=Maps.int_keyed hk;have c:=Maps.keyOf_int_mk hk hn;have F:∀ o,Fr (fun x=>x=b) w (setBlock w b o):=fun o=>⟨rfl,rfl,rfl,by simp [setBlock],fun i _ g=>heap_setBlock_other r _ g⟩;rcases K.find w c d.toList (zrc hk N) with ⟨L,G⟩ | ⟨j,H,L,G,M⟩
 · refine ⟨setBlock w b (.map d a),?_,⟨_,_,heap_setBlock_same r _,A,?_,?_⟩,F _,by simp [setBlock]⟩
   · simp [Builtin.delete_,run_underlying ht,MapKept.run_getObj_map r,K.check w _ c,L,MapKept.run_setObj_map _ r,Result.andThen,setBlock]
   · intro x q
     obtain ⟨m,D,I,J⟩:=N x q;refine ⟨m,D,I,?_⟩;dsimp only;rw [if_neg (fun e=>G x q (by rw [D,e]))];exact J
   intro m u l
   dsimp only at l
   split at l
   · cases l
   exact Q m u l
 have R:d[j]?=some H:=by simpa using G
 have v:j<d.size:=(Array.getElem?_eq_some_iff.1 R).1
 have p:(d.eraseIdxIfInBounds j).toList=d.toList.eraseIdx j:=by
  unfold Array.eraseIdxIfInBounds;rw [dif_pos v];simp
 have z:d.toList.Pairwise (fun x y=>x.key≠y.key):=((MapKept.stamped_iff _ _).1 A).2.2;refine ⟨setBlock w b (.map (d.eraseIdxIfInBounds j) a),?_,⟨_,_,heap_setBlock_same r _,MapKept.stamped_erase A j,?_,?_⟩,F _,by simp [setBlock]⟩
 · simp [Builtin.delete_,run_underlying ht,MapKept.run_getObj_map r,K.check w _ c,L,MapKept.run_setObj_map _ r,Result.andThen,setBlock]
 · intro x q
   rw [p] at q;obtain ⟨m,D,I,J⟩:=N x ((List.eraseIdx_sublist _ _).subset q);refine ⟨m,D,I,?_⟩;dsimp only;rw [if_neg ?_];exact J;rintro rfl;obtain ⟨i,g⟩:=List.mem_iff_getElem?.1 q;rw [List.pairwise_iff_getElem] at z;rw [List.getElem?_eraseIdx] at g;have E:d[j]=H:=(Array.getElem?_eq_some_iff.1 R).2
   split at g
   · rename_i hlt
     obtain ⟨s,B⟩:=List.getElem?_eq_some_iff.1 g;exact z i j s (by simpa using v) hlt (by rw [B,D];simp [E,M])
   rename_i hge
   obtain ⟨s,B⟩:=List.getElem?_eq_some_iff.1 g;exact z j (i+1) (by simpa using v) s (by omega) (by rw [B,D];simp [E,M])
 intro m u l
 dsimp only at l
 split at l
 · cases l
 rename_i hmn
 obtain ⟨x,q,C,O⟩:=Q m u l;refine ⟨x,?_,C,O⟩;rw [p];obtain ⟨i,g⟩:=List.mem_iff_getElem?.1 q;refine List.mem_iff_getElem?.2 ?_
 have S:i≠j:=by
  rintro rfl;have:d.toList[i]?=some H:=G;rw [g] at this;cases this;rw [M] at C;cases C;exact hmn rfl
 by_cases hlt:i<j
 · exact ⟨i,by rw [List.getElem?_eraseIdx,if_pos hlt];exact g⟩
 exact ⟨i-1,by rw [List.getElem?_eraseIdx,if_neg (by omega),show i-1+1=i from by omega];exact g⟩
def mapUpW (P:Program) (t:TypeId) (b:Nat) (n:Int) (v:Value) (w:World):World:=match (Instr.mapUpdate t (.map (some b)) (.int .i64 n) v).run P w with
 | .ok _ w'=>w'
 | .halt _ w'=>w'
theorem MapAt.up (h:MapAt w b f) (ht:P.underlying t=some (.map k e)) (hk:P.underlying k=some (.int .i64)) {n:Int} (hn:(Lit.int .i64 n).wf=true) (v:Value) :
 (Instr.mapUpdate t (.map (some b)) (.int .i64 n) v).run P w=.ok () (mapUpW P t b n v w)/\MapAt (mapUpW P t b n v w) b (fun m=>if m=n then some v else f m)/\Fr (fun x=>x=b) w (mapUpW P t b n v w)/\(mapUpW P t b n v w).heap.size=w.heap.size:=by
 obtain ⟨w',a,d,g,i⟩:=h.store ht hk hn v;have c:mapUpW P t b n v w=w':=by unfold mapUpW;rw [a]
 rw [c];exact ⟨a,d,g,i⟩
end
theorem zgt {P:Program} {w:World} {ops:Array Oper} {rest:List Oper} {o:Oper} {a:Act} {Q:Exit->Act->World->Prop} (hg:o.guard=none) (m x:Operand) (t:TypeId) (hop:o.op=Op.lookup t m x false)
 (k e:TypeId) (ht:P.underlying t=some (.map k e)) (hk:P.underlying k=some (.int .i64)) (b:Nat) (f:Int->Option Value) (hm:a.eval m=.map (some b)) (h:MapAt w b f) (n:Int) (hx:a.eval x=.int .i64 n)
 (hn:(Lit.int .i64 n).wf=true) (z:Value) (hz:(zeroValue e).run P w=.ok z w) (v:Value) (hv:(f n).getD z=v) (hK:wpList P ops Q rest (a.put o.dst v) w):wpList P ops Q (o :: rest) a w:=by
 refine wpList_plain hg fun K' hK'=>?_;have c:=h.look ht hk hn hz;rw [hv] at c;unfold Oper.wp;simp [execOp,hop,hm,hx,c,Result.andThen];exact hK' _ _ hK
theorem zfo {P:Program} {w:World} {ops:Array Oper} {rest:List Oper} {o:Oper} {a:Act} {Q:Exit->Act->World->Prop} (hg:o.guard=none) (m x v:Operand) (t:TypeId) (hop:o.op=Op.mapUpdate t m x v)
 (k e:TypeId) (ht:P.underlying t=some (.map k e)) (hk:P.underlying k=some (.int .i64)) (b:Nat) (f:Int->Option Value) (hm:a.eval m=.map (some b)) (h:MapAt w b f) (n:Int) (hx:a.eval x=.int .i64 n)
 (hn:(Lit.int .i64 n).wf=true) (u:Value) (hv:a.eval v=u)
 (hK:∀ w',MapAt w' b (fun m=>if m=n then some u else f m)->Fr (fun x=>x=b) w w'->w'.heap.size=w.heap.size->wpList P ops Q rest (a.put o.dst undef) w'):wpList P ops Q (o :: rest) a w:=by
 refine wpList_plain hg fun K' hK'=>?_;obtain ⟨w',c,d,g,i⟩:=h.store ht hk hn u;unfold Oper.wp;simp [execOp,hop,hm,hx,hv,c,Result.andThen];exact hK' _ _ (hK w' d g i)
theorem Pt.splitSafe {A:Arr} {fr:List Nat} {d at_ i kid:Nat} (h:Pt A fr (d+1) at_) (h9:(ndA A at_).pairs.length<=9) (hi:(ndA A at_).kids[i]?=some kid) (hk:(ndA A kid).pairs.length=9):splitSafe A fr at_ i:=by
 have q:(ndA A at_).kids.length=(ndA A at_).pairs.length+1:=h.wf.1;have m:=(List.getElem?_eq_some_iff.1 hi).1;have b:kidA A at_ i=kid:=by unfold kidA;simp [List.getD,hi]
 have a:=List.mem_of_getElem? hi;obtain ⟨n,r,s,o⟩:=h.wf.2 kid a
 have c:kid≠at_:=by
  intro e;have g:=h.one at_;have p:0<(nidx A (d+1) (ndA A at_)).count at_:=List.count_pos_iff.2 (List.mem_flatMap.2 ⟨kid,a,by simp [e]⟩);unfold own at g;simp only [List.count_cons,beq_self_eq_true,if_true] at g;omega
 unfold Go.Proofs.YthljnnjpmdgkoaaGreat.splitSafe;rw [b];refine ⟨h.lt,h9,by omega,by omega,hi,n,c,hk,?_,fun f hf=>⟨(h.free f hf).1,fun e=>?_,fun e=>?_,(h.free f hf).2⟩⟩
 · rcases zqu d _ o with e | e
   · exact .inl e
   exact .inr (by omega)
 · have j:=h.one f
   have k:0<fr.count f:=List.count_pos_iff.2 hf;have l:0<(own A (d+1) at_).count f:=List.count_pos_iff.2 (by rw [e];unfold own;simp);omega
 have j:=(h.kid a).one f
 have k:0<fr.count f:=List.count_pos_iff.2 hf;have l:0<(own A d kid).count f:=List.count_pos_iff.2 (by rw [e];unfold own;simp);omega
theorem zub (A:Arr) (fr:List Nat) (at_ i:Nat):A.length<=(splitA A fr at_ i).length:=by
 unfold splitA takeA
 split <;> simp
theorem zjv (key:ByteArray) (n:Int):∀ (g:Nat) (A:Arr) (fr:List Nat) (at_:Nat),A.length<=(setA g A fr at_ key n).1.length
 | 0,_,_,_=>Nat.le_refl _
 | g+1,A,fr,at_=>by
   unfold setA
   split
   · simp
   split
   · simp
   split
   · exact Nat.le_trans (zub A fr at_ _) (zjv key n g _ _ _)
   exact zjv key n g _ _ _
theorem TreeR.of_eq {w:World} {t:Nat} {nv fv:Value} {Z:List Nz} {fl fl':List Nat} {root:Nat} {many many':Int} (h:TreeR w t nv fv Z fl root many) (h1:fl'=fl) (h2:many'=many):TreeR w t nv fv Z fl' root many':=by
 subst h1;subst h2;exact h
def SetEnd (w:World) (t:Nat) (F:Nat->Prop) (r:Arr×List Nat×Bool) (root:Nat) (many:Int) (e:Ending) (w':World):Prop :=
 (∃ v,e=.returned v)/\∃ F',TreeZ w' t r.1 r.2.1 root (many+if r.2.2 then 1 else 0) F'/\Fr F w w'/\(∀ b,F' b->F b\/w.heap.size<=b)
structure GrownZ (w wx:World) (t:Nat) (A:Arr) (fl:List Nat) (root:Nat) (many:Int) (F F1:Nat->Prop):Prop where
 z:TreeZ wx t A fl root many F1
 fr:Fr F w wx
 new:∀ b,F1 b->F b\/w.heap.size<=b
set_option maxHeartbeats 4000000 in
theorem zvh (w:World) (t:Nat) (A:Arr) (fl:List Nat) (root:Nat) (many:Int) (F:Nat->Prop) (T:Pairs) (key:ByteArray) (n:Int) (h:TreeZ w t A fl root many F) (hg:GoodT A fl root T) (N:Nat) (hN:N<=1000000) (hA:A.length<=N+2) (_hT:T.length<N)
 (hm:0<=many/\many<=1000000) (g:Nat) (hsafe:zid g (growA A fl root).1 (growA A fl root).2.1 (growA A fl root).2.2 key) (hlen:(setA g (growA A fl root).1 (growA A fl root).2.1 (growA A fl root).2.2 key n).1.length<=N+2) :
 Calls Tryz.prog 116 #[.pointer (some ⟨t,0,none⟩),.string key,.int .i64 n] w (SetEnd w t F (setA g (growA A fl root).1 (growA A fl root).2.1 (growA A fl root).2.2 key n) (growA A fl root).2.2 many):=by
 obtain ⟨D,hD⟩:=hg;have ad:fl.length<=A.length:=by have:=hD.cover;omega
 have bs:(growA A fl root).2.1.length<=fl.length:=by unfold growA;split <;> simp;omega
 have bp:=H_ h;obtain ⟨nv,fv,Z,hR,hZ,hF⟩:=h;subst hZ;have dT:Z.length<=N+2:=by rw [<-zay];exact hA
 obtain ⟨z,hz,bz⟩:=zdf hD.pt.lt;have dP:root<Z.length:=(List.getElem?_eq_some_iff.1 hz).1;obtain ⟨nb,no,cap,rfl,cW⟩:=hR.headLen (by omega);have c0:=hR.obj.cell 0 rfl;have c2:=hR.obj.cell 2 rfl;obtain ⟨a1,a2,a3,a4⟩:=hR.look root z hz;obtain ⟨pa,dj,bD,dN,dO,cD⟩:=(hR.pairs root z hz).shape;rw [bD] at a1;have dK:t<w.heap.size:=hR.obj.lt;have d6:nb<w.heap.size:=hR.nodes.lt nb rfl;have dQ:(root:Int)<(Z.length:Int):=by omega
 have aS:=H_ hD;have HR:=H_ hR;have aL:=H_ bz;have HF:=H_ hF;have a9:=H_ hsafe;have av:=H_ hlen;have b9:=H_ bs;clear hR hF hz bz bD cD hD hsafe hlen bs a2 a3 a4;go_enter Tryz.func116,Tryz.ntmps116;go_upto_region 3 with fail
 go_quiet (fail)
 have E:=Fr.drewN No w nq;have r:=bp.out.fr0 E;generalize w.drewN nq=W at E r ⊢
 have HQ:=H_ E;have Q:=H_ r;clear E r;go_upto_if 28 with fail
 go_cut [8] (fun _ wx=>∃ F1,Hid (GrownZ w wx t (growA (ndsZ Z) fl root).1 (growA (ndsZ Z) fl root).2.1 (growA (ndsZ Z) fl root).2.2 many F F1))
 case first =>
  by_cases h9:z.nd.pairs.length=9
  · have ao:(ndA (ndsZ Z) root).pairs.length=9:=by rw [aL.out];exact h9
    obtain ⟨t1,t2,t3,t4,t5,t6⟩:=top_ok aS.out ao;have ae:growA (ndsZ Z) fl root=(splitA (topA (ndsZ Z) fl root) fl.dropLast (takeI (ndsZ Z) fl) 0,fl.dropLast.dropLast,takeI (ndsZ Z) fl):=(by unfold growA;rw [if_pos ao]);have bH:=t1.splitSafe (i:=0) (kid:=root) (by rw [t2];simp) (by rw [t2];rfl) (by rw [t3];exact ao);have aX:=took aS.out.pt.free;have bL:=aX.lt;have aY:=aX.new;have bK:(takeA (ndsZ Z) fl).length<=1000003:=(by unfold takeA;split <;> simp [zay] <;> omega);have aR:((z.nd.pairs.length:Int)==9)=true:=(by simp;omega);have aH:=H_ ae;have cg:=H_ bH;have cl:=H_ bL;have ck:=H_ aY;have cj:=H_ bK;have ci:Hid (topA (ndsZ Z) fl root=(takeA (ndsZ Z) fl).set (takeI (ndsZ Z) fl) ⟨[],[root]⟩):=H_ rfl;have ch:=H_ t6;clear t1 t2 t3 t4 t5 t6 ae bH aX bL aY h9 ao bK
    have cx:fl.length<=1099511627:=(by rw [zay] at ad;omega);generalize aC:takeI (ndsZ Z) fl=top at *;have bi:=H_ aC;clear aC
    go_upto_region 5 with (first
     | (go_at_call 155;refine (zmh _ t (ndsZ Z) fl root many F Q.out (by rw [zay];omega) cx).mono ?_;rintro e w1 ⟨rfl,F1,cF,y,bx⟩;rw [bi.out]))
    obtain ⟨dW,an,Z1,H,aU,bn⟩:=cF;obtain ⟨zt,Y,bk⟩:=zbr aU cl.out;have de:top<Z1.length:=(List.getElem?_eq_some_iff.1 Y).1;obtain ⟨C,a0,V,rfl,cv⟩:=H.headLen (by omega);obtain ⟨_,e2,_,e4⟩:=H.look top zt Y;have d0:=H.obj.cell 0 rfl;have d2:=H.obj.cell 2 rfl;have d8:t<w1.heap.size:=H.obj.lt;have aW:C<w1.heap.size:=H.nodes.lt C rfl;have dS:(top:Int)<(Z1.length:Int):=(by omega)
    have bG:=H.setKids (w1:=(w1.alloc (.cells #[.int .i64 (root:Int)] 3))) (kv':=.slice (some ⟨w1.heap.size,0,none⟩) 1 1) (K':=[root]) top zt Y ((Fr.refl _ w1).alloc _)
     ⟨rfl,.inr ⟨_,_,_,_,rfl,zad _ _ _ rfl,by simp,by unfold maxLen;omega,by simp,rfl⟩⟩ (fun b e=>by
       obtain rfl:w1.heap.size=b:=by simpa [Value.ownBlock] using e
       exact .inr (Nat.le_refl _))
    obtain ⟨q1,q2,q3⟩:=bG
    have bM:ndsZ (Z1.set top ⟨⟨zt.nd.pairs,[root]⟩,zt.pv,.slice (some ⟨w1.heap.size,0,none⟩) 1 1⟩)=topA (ndsZ Z) fl root:=by
     rw [zbd,aU,ci.out,bk,ck.out];rfl
    have ax:=zbn (t:=t) (nv:=.slice (some ⟨C,a0,none⟩) Z1.length V) (fv:=an) Y q3;have cd:=H_ q1;have ce:=H_ q2;have cn:=H_ bM;have bd:=H_ ax;have c8:=H_ bn;have aq:=H_ y;have cb:=H_ bx;have co:=H_ Y;clear q1 q2 q3 bM ax bn y bx H aU bk Y c0 c2 a1
    go_region
    rw [<-World.setCell_alloc_past _ _ _ _ aW];have S:=cd.out.fr0 ((Fr.refl No _).drew);have aV:Fr (fun b=>b=C\/zt.kv.ownBlock=some b) w1 (((w1.alloc (.cells #[.int .i64 (root:Int)] 3)).setCell ⟨C,a0+top * 2+1,none⟩ (.slice (some ⟨w1.heap.size,0,none⟩) 1 1)).drew):=ce.out.drew;generalize (((w1.alloc (.cells #[.int .i64 (root:Int)] 3)).setCell ⟨C,a0+top * 2+1,none⟩ (.slice (some ⟨w1.heap.size,0,none⟩) 1 1)).drew)=W2 at S aV ⊢
    have r2:=S.obj.cell 2 rfl;have e3:=S.obj.free 2;have cU:t<W2.heap.size:=S.obj.lt;have ho:=S.obj.set 2 (.int .i64 (top:Int));have bE:=S.setObj ((Fr.refl (fun b=>b=t) W2).setAt 2 (.int .i64 (top:Int))) top many ho;have J:Fr (fun b=>b=t) W2 (W2.setCell ⟨t,2,none⟩ (.int .i64 (top:Int))):=(Fr.refl _ W2).setAt 2 _;have be:=H_ bE;have b7:=H_ aV;have aF:=H_ J;clear S aV ho bE J d0 d2 e2 e4;go_wp2_with fail;generalize W2.setCell ⟨t,2,none⟩ (.int .i64 (top:Int))=W3 at be aF ⊢
    have U:TreeZ W3 t (topA (ndsZ Z) fl root) fl.dropLast top many (treeF t (.slice (some ⟨C,a0,none⟩) Z1.length V) an (Z1.set top ⟨⟨zt.nd.pairs,[root]⟩,zt.pv,.slice (some ⟨w1.heap.size,0,none⟩) 1 1⟩)):=⟨_,_,_,be.out,cn.out,fun b=>Iff.rfl⟩;have cm:=H_ U;clear U;have bq:fl.dropLast.length<=1099511627:=(by simp;omega)
    go_wp2_with (first
     | (go_at_call 156;refine (zju _ t (topA (ndsZ Z) fl root) fl.dropLast top many _ cm.out top 0 cg.out (by rw [ch.out];have:=cj.out;omega) bq).mono ?_;rintro e w4 ⟨rfl,F4,ah,ab,ag⟩))
    have aO:=H_ ah;have aE:=H_ ab;have aK:=H_ ag;clear ah ab ag;go_meet
    case rel =>
     have dc:=aq.out.size;have bI:=HQ.out.size;have cE:=b7.out.size;have dd:=aF.out.size
     have v:∀ b,treeF t (.slice (some ⟨C,a0,none⟩) Z1.length V) an Z1 b->F b\/w.heap.size<=b:=by
      intro b k;rcases cb.out b ((c8.out b).2 k) with e | e
      · exact .inl e
      exact .inr (by omega)
     have aD:∀ b,treeF t (.slice (some ⟨C,a0,none⟩) Z1.length V) an (Z1.set top ⟨⟨zt.nd.pairs,[root]⟩,zt.pv,.slice (some ⟨w1.heap.size,0,none⟩) 1 1⟩) b->F b\/w.heap.size<=b:=by
      intro b k;rcases bd.out b k with e | e
      · exact v b e
      exact .inr (by omega)
     refine ⟨F4,H_ ⟨?_,?_,fun b k=>?_⟩⟩
     · rw [aH.out];exact aO.out
     · have f1:Fr F w w1:=(HQ.out.mono fun _ _ s=>s.elim).trans aq.out fun _ _ e=>e
       have f2:=f1.trans b7.out fun b k e=>by
        rcases v b (by
         rcases e with rfl | e
         · exact .inr (.inl rfl)
         exact .inr (.inr (.inr ⟨top,zt,co.out,.inr e⟩))) with e | e
        · exact e
        omega
       have f3:=f2.trans aF.out fun b k e=>by
        rcases v b (.inl e) with e | e
        · exact e
        omega
       exact f3.trans aE.out fun b k e=>by
        rcases aD b e with e | e
        · exact e
        omega
     rcases aK.out b k with e | e
     · exact aD b e
     exact .inr (by omega)
  have aR:((z.nd.pairs.length:Int)==9)=false:=by simp;omega
  have ae:growA (ndsZ Z) fl root=(ndsZ Z,fl,root):=(by unfold growA;rw [if_neg (by rw [aL.out];exact h9)]);have aH:=H_ ae;clear ae h9;go_wp2_with fail;go_meet
  case rel=>exact ⟨F,H_ ⟨by rw [aH.out];exact Q.out,HQ.out.mono fun _ _ s=>s.elim,fun b k=>.inl k⟩⟩
 case rest =>
  obtain ⟨F1,aG⟩:=hcut;have ar:Hid ((growA (ndsZ Z) fl root).2.1.length<=1099511627):=H_ (by have:=b9.out;rw [zay] at ad;omega);have au:Hid (many<=1000000/\0<=many):=H_ ⟨hm.2,hm.1⟩;generalize growA (ndsZ Z) fl root=G at *;obtain ⟨A1,bl,o⟩:=G;dsimp only at aG a9 av ar ⊢
  generalize aB:setA g A1 bl o key n=a5 at *;have bg:=H_ aB
  have dv:wc.cell? ⟨t,2,none⟩=some (.int .i64 (o:Int)):=by
   obtain ⟨_,_,_,h1,_⟩:=aG.out.z;exact h1.obj.cell 2 rfl
  clear aB HQ Q bp HR aL HF c0 c2 a1 b9 aS ad;go_wp2_with fail
  go_loopg [9] g (fun gg s9 wr=>∃ (A2:Arr) (l:List Nat) (a:Nat) (F2:Nat->Prop),s9=.int .i64 a/\Hid (GrownZ w wr t A2 l o many F F2)/\Hid (zid gg A2 l a key)/\Hid (setA gg A2 l a key n=a5)/\Hid (l.length<=1099511627))
  case atStart=>exact ⟨A1,bl,o,F1,rfl,aG,a9,bg,ar⟩
  case round =>
   obtain ⟨A2,l,a,F2,rfl,j,HS,bf,bc⟩:=hrel
   cases gk with
   | zero=>exact absurd HS.out id
   | succ q =>
     obtain ⟨s1,s2,s3⟩:=HS.out
     have cu:A2.length<=N+2:=by
      have h1:=zjv key n (q+1) A2 l a;rw [bf.out] at h1;exact Nat.le_trans h1 av.out
     have bo:=H_ j.out.z;obtain ⟨dX,ct,Z2,f,I,aa⟩:=j.out.z;obtain ⟨d,p,L⟩:=zbr I s1;have df:Z2.length<=N+2:=(by rw [<-zay,I];exact cu);have cV:a<Z2.length:=(List.getElem?_eq_some_iff.1 p).1;obtain ⟨O,aZ,bj,rfl,cw⟩:=f.headLen (by omega);have u:=spotZ f a d p (by rw [L];exact s2) (by omega) key;unfold zce at u;obtain ⟨b1,b2,b3,b4⟩:=f.look a d p;have d0:=f.obj.cell 0 rfl;have d3:=f.obj.cell 3 rfl;have aQ:=f.obj.free 3;have hP:=f.pairs a d p;have hK:=f.kids a d p;obtain ⟨dY,cL,M,da,db,X⟩:=hP.shape;obtain ⟨dV,cK,K,cZ,d1,af⟩:=hK.shape;have dI:(a:Int)<(Z2.length:Int):=(by omega);have c:setA (q+1) A2 l a key n=a5:=bf.out;unfold setA at c;rw [<-L] at c s2 s3
     have cC:O<wr.heap.size:=f.nodes.lt O rfl;have d9:t<wr.heap.size:=f.obj.lt;have bB:¬ d.pv.ownBlock=some O:=fun e=>(f.a2 a _ O p (.inl e)).2.1 rfl;have bC:¬ d.pv.ownBlock=some t:=fun e=>(f.a2 a _ t p (.inl e)).1 rfl;have aY:t≠O:=fun e=>f.a1.1 (by rw [e];rfl)
     cases hh:hitOf d.nd.pairs key with
     | true =>
       obtain ⟨m,hm⟩:=hit_at hh;have bt:=(List.getElem?_eq_some_iff.1 hm).1;obtain ⟨pb,po,rfl⟩:=X (by omega);rw [M] at b1 hP;have hc:=hP.cell zae _ 1 hm rfl;have dH:=hP.free (po+spotOf d.nd.pairs key * 2+1);rw [hh,if_pos rfl] at c;rw [hh] at u;have ay:=hP.set zae (spotOf d.nd.pairs key) 1 (by omega) (key,m) (key,n) (.int .i64 n) hm rfl;have cc:=H_ ay;have x:=H_ c;have cX:(spotOf d.nd.pairs key:Int)<(d.nd.pairs.length:Int):=(by omega);have d7:pb<wr.heap.size:=hP.lt pb rfl;have aM:=H_ f;have aN:=H_ I;have al:=H_ aa;have R:=H_ p;have a7:=H_ M;clear c hh hm M K hP hK f p L X af ay I aa b2 b3 b4 d3 aQ s1 s2 s3 HS;generalize spotOf d.nd.pairs key=i at *;go_wp2_with (go_at_call 157;refine u.mono ?_;clear u;rintro e w' ⟨rfl,rfl⟩)
       go_ret2
       have J:Fr (fun b=>b=pb) wr (wr.setCell ⟨pb,po+i * 2+1,none⟩ (.int .i64 n)):=(Fr.refl _ wr).setAt _ _
       have E:=aM.out.setPair (w1:=wr.setCell ⟨pb,po+i * 2+1,none⟩ (.int .i64 n)) (P':=d.nd.pairs.set i (key,n)) a d R.out a7.out J (by
        rw [a7.out];have:=cc.out;unfold SlF at this ⊢
        rw [List.length_set] at this ⊢
        exact this)
       have cG:zown d pb:=.inl (by rw [a7.out];rfl);have k:a5.2.1=l/\(many+if a5.2.2 then 1 else 0)=many:=(by rw [<-x.out];simp);refine ⟨⟨_,rfl⟩,_,⟨_,_,_,E.of_eq k.1 k.2,?_,fun b=>Iff.rfl⟩,?_,?_⟩
       · rw [<-x.out,zbd,aN.out]
       · exact j.out.fr.trans J fun b k e=>by
          have e':b=pb:=e;rcases j.out.new b ((al.out b).2 (.inr (.inr (.inr ⟨a,d,R.out,e'▸cG⟩)))) with e | e
          · exact e
          omega
       intro b k
       rcases zbn (z':=⟨⟨d.nd.pairs.set i (key,n),d.nd.kids⟩,d.pv,d.kv⟩) R.out (B:=w.heap.size) (fun b e=>.inl e) b k with e | e
       · exact j.out.new b ((al.out b).2 e)
       exact .inr e
     | false =>
       rw [hh] at u c;simp only [Bool.false_eq_true,if_false] at c;by_cases hk0:d.nd.kids = []
       · rw [if_pos hk0] at c
         have bw:d.nd.kids.length=0:=(by rw [hk0];rfl);rw [K,bw] at b2;have az:=zeu wr d.pv d.nd.pairs (spotOf d.nd.pairs key) (key,n) hP (zby _ _) (by omega);have x:=H_ c;have aM:=H_ f;have aN:=H_ I;have al:=H_ aa;have R:=H_ p;have c9:=H_ hk0;clear c hh M K hP hK f p L X af I aa b4 s1 s3 HS hk0 bw;have dL:=au.out.1;have dM:=au.out.2;generalize spotOf d.nd.pairs key=i at *
         go_wp2_with (first
          | (go_at_call 157;refine u.mono ?_;clear u;rintro e w' ⟨rfl,rfl⟩)
          | (go_at_call 158;refine az.mono ?_;clear az;rintro e w1 ⟨g1,o1,c1,rfl,bF,y,br⟩
             have y1:=y.cell b1 bB;have y2:=y.free b1 b3 bB;have y3:=y.cell d3 bC;have y4:=y.free d3 aQ bC;have cf:=H_ bF;have b8:=H_ br;have b6:=H_ y;clear bF br y))
         go_ret2
         have cy:∀ b,(Value.slice (some ⟨g1,o1,none⟩) (d.nd.pairs.length+1) c1).ownBlock=some b->d.pv.ownBlock=some b\/wr.heap.size<=b:=fun b e=>by
          obtain rfl:g1=b:=by simpa [Value.ownBlock] using e
          exact b8.out
         obtain ⟨q1,q2,q3⟩:=aM.out.setPairs (w1:=w1) (pv':=.slice (some ⟨g1,o1,none⟩) (d.nd.pairs.length+1) c1) (P':=d.nd.pairs.take i++(key,n) :: d.nd.pairs.drop i) a d R.out b6.out cf.out cy;have J:Fr (fun b=>b=t) (w1.setCell ⟨O,aZ+a * 2,none⟩ (.slice (some ⟨g1,o1,none⟩) (d.nd.pairs.length+1) c1)) ((w1.setCell ⟨O,aZ+a * 2,none⟩ (.slice (some ⟨g1,o1,none⟩) (d.nd.pairs.length+1) c1)).setCell ⟨t,3,none⟩ (.int .i64 (many+1))):=(Fr.refl _ _).setAt _ _;have ho:=q1.obj.set 3 (.int .i64 (many+1));have q4:=q1.setObj J o (many+1) ho;have bJ:=j.out.fr.size;have v:∀ b,treeF t (.slice (some ⟨O,aZ,none⟩) Z2.length bj) ct Z2 b->F b\/w.heap.size<=b:=fun b k=>j.out.new b ((al.out b).2 k)
         have k:a5.2.1=l/\(many+if a5.2.2 then 1 else 0)=many+1:=(by rw [<-x.out];simp);refine ⟨⟨_,rfl⟩,_,⟨_,_,_,q4.of_eq k.1 k.2,?_,fun b=>Iff.rfl⟩,?_,?_⟩
         · rw [<-x.out,zbd,aN.out,c9.out]
         · refine (j.out.fr.trans q2 fun b k e=>?_).trans J fun b k e=>?_
           · rcases v b (by
              rcases e with rfl | e
              · exact .inr (.inl rfl)
              exact .inr (.inr (.inr ⟨a,d,R.out,.inl e⟩))) with e | e
             · exact e
             omega
           rcases v b (.inl e) with e | e
           · exact e
           omega
         intro b k
         rcases zbn R.out q3 b k with e | e
         · exact v b e
         exact .inr (by omega)
       rw [if_neg hk0] at c
       obtain ⟨k1,k2,k3,k4,k5⟩:=s3 hh hk0;obtain ⟨z3,U,aw⟩:=zbr I k2;have cz:kidA A2 a (spotOf d.nd.pairs key)<Z2.length:=(List.getElem?_eq_some_iff.1 U).1;obtain ⟨e1,_,_,_⟩:=f.look _ z3 U;obtain ⟨dZ,cM,aA,_,_,_⟩:=(f.pairs _ z3 U).shape;rw [aA] at e1;have bt:=(List.getElem?_eq_some_iff.1 k1).1;obtain ⟨kb,ko,rfl⟩:=af (by omega);rw [K] at b2 hK;have cA:=hK.cell1 zag _ k1 rfl;have cY:(spotOf d.nd.pairs key:Int)<(d.nd.kids.length:Int):=(by omega);have d4:((d.nd.kids.length:Int)==0)=false:=(by simp;omega);have d5:kb<wr.heap.size:=hK.lt kb rfl;have dR:=zby d.nd.pairs key;rw [<-aw] at c k4 k5;have aI:=H_ k4;have aJ:=H_ k5;have x:=H_ c
       clear c hh M K hP hK f p L X I aa b1 b3 b4 s1 s3 HS hk0 k1 k2 k3 k4 k5 U aw aA bt d3 aQ;generalize bv:kidA A2 a (spotOf d.nd.pairs key)=kid at *;have dp:=H_ bv;have dJ:(kid:Int)<(Z2.length:Int):=(by omega);clear bv;by_cases h9:z3.nd.pairs.length=9
       · have aR:((z3.nd.pairs.length:Int)==9)=true:=by simp;omega
         have P:=x.out;rw [if_pos h9] at P;obtain ⟨bN,bO⟩:=aI.out h9;have a8:=H_ P;have ba:=H_ bN;have bb:=H_ bO;clear P bN bO x aI aJ h9;generalize spotOf d.nd.pairs key=i at *
         go_upto_region 19 with (first
          | (go_at_call 157;refine u.mono ?_;clear u;rintro e w' ⟨rfl,rfl⟩))
         go_quiet (fail)
         have E:=Fr.drewN No wr nq;have r:=bo.out.fr0 E;generalize wr.drewN nq=W at E r ⊢
         have HQ:=H_ E;have Q:=H_ r;clear E r;have cB:=bc.out
         go_wp2_with (first
          | (go_at_call 156;refine (zju _ t A2 l o many F2 Q.out a i ba.out (by omega) cB).mono ?_;rintro e w4 ⟨rfl,F4,ah,ab,ag⟩))
         have aO:=H_ ah;have aE:=H_ ab;have aK:=H_ ag;clear ah ab ag;go_roundg q
         case rel =>
          have bI:=HQ.out.size;have bJ:=j.out.fr.size;refine ⟨splitA A2 l a i,l.dropLast,a,F4,rfl,H_ ⟨aO.out,(j.out.fr.trans0 HQ.out).trans aE.out fun b k e=>?_,fun b k=>?_⟩,bb,a8,H_ (by simp;omega)⟩
          · rcases j.out.new b e with e | e
            · exact e
            omega
          rcases aK.out b k with e | e
          · exact j.out.new b e
          exact .inr (by omega)
         case measure=>omega
       have aR:((z3.nd.pairs.length:Int)==9)=false:=by simp;omega
       have P:=x.out;rw [if_neg h9] at P;have ks:=aJ.out h9;have a8:=H_ P;have ca:=H_ ks;clear P ks x aI aJ h9;generalize spotOf d.nd.pairs key=i at *
       go_upto_region 19 with (first
        | (go_at_call 157;refine u.mono ?_;clear u;rintro e w' ⟨rfl,rfl⟩))
       go_quiet (fail)
       have E:=Fr.drewN No wr nq;have r:=bo.out.fr0 E;have cq:=E.cell0 b2;have bu:=E.cell0 cA;generalize wr.drewN nq=W at E r cq bu ⊢
       have HQ:=H_ E;have Q:=H_ r;clear E r;go_wp2_with fail;go_roundg q
       case rel =>
        exact ⟨A2,l,kid,F2,rfl,H_ ⟨Q.out,j.out.fr.trans0 HQ.out,j.out.new⟩,ca,a8,bc⟩
       case measure=>omega
end Go.Proofs.YthljnnjpmdgkoaaGreat