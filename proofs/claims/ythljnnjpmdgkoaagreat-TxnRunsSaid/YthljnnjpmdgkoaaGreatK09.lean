/- Own lemmas. -/
import Derived.Test.YthljnnjpmdgkoaaGreatK08
import Derived.Test.YthljnnjpmdgkoaaGreatK00
import Derived.Test.YthljnnjpmdgkoaaGreatK07
import Derived.Maps.OwnOps
import Derived.Maps.OwnSet
import Derived.BigRegion
namespace Go.Proofs.YthljnnjpmdgkoaaGreat
open Go Go.Proofs Go.RowKit
set_option maxRecDepth 100000
theorem kid_z {Z:List Nz} {A:Arr} {fl:List Nat} {at_:Nat} (hZ:ndsZ Z=A) (hs:zbo A fl at_) {i:Nat} (hi:i<(ndA A at_).kids.length) :
 ∃ c zc,(ndA A at_).kids[i]?=some c/\kidA A at_ i=c/\Z[c]?=some zc/\zc.nd=ndA A c/\c≠at_/\zc.nd.pairs.length<=9/\(zc.nd.kids = []\/zc.nd.kids.length=zc.nd.pairs.length+1):=by
 obtain ⟨c,b⟩:∃ c,(ndA A at_).kids[i]?=some c:=⟨_,List.getElem?_eq_getElem hi⟩;obtain ⟨g,d,e,f⟩:=hs.kid c (List.mem_of_getElem? b);obtain ⟨zc,j,a⟩:=zbk hZ g;exact ⟨c,zc,b,by unfold kidA;simp [List.getD,b],j,a,d,by rw [a];exact e,by rw [a];exact f⟩
set_option maxHeartbeats 4000000 in
theorem zpz (w:World) (t:Nat) (A:Arr) (fl:List Nat) (root:Nat) (many:Int) (F:Nat->Prop) (h:TreeZ w t A fl root many F) (at_ i:Nat) (hs:zbo A fl at_) (hA:A.length<=109951162) (hi:i<(ndA A at_).kids.length)
 (hk5:4<(ndA A (kidA A at_ i)).pairs.length):Calls Tryz.prog 171 #[.pointer (some ⟨t,0,none⟩),.int .i64 at_,.int .i64 i] w (zgu w t F A fl root many):=by
 obtain ⟨nv,fv,Z,f,r,hF⟩:=id h;obtain ⟨u,c,l⟩:=zbk r hs.lt;obtain ⟨k,I,C,m,d,n,P,ad,z⟩:=kid_z r hs hi;have M:at_<Z.length:=(List.getElem?_eq_some_iff.1 c).1;have a7:k<Z.length:=(List.getElem?_eq_some_iff.1 d).1;have a5:Z.length<=109951162:=by rw [<-zaw,r];exact hA
 obtain ⟨nb,no,cap,rfl,Q⟩:=f.headLen (by omega);rw [m,<-n] at hk5;rw [<-l] at C hi;have g:=hs.len;have G:=hs.hi;rw [<-l] at g G;have S:=f.obj.cell 0 rfl;obtain ⟨a1,a2,a3,Y⟩:=f.look at_ u c;obtain ⟨D,k2,W,k4⟩:=f.look k I d;obtain ⟨ka,L,q,a9,ab,B⟩:=(f.kids at_ u c).shape;obtain ⟨ae,y,e,U,O,p⟩:=(f.pairs k I d).shape;obtain ⟨kb,ko,rfl⟩:=B (by omega);have j:=f.kids at_ u c;rw [q] at a2 j;rw [e] at D;have kl:=j.cell1 zah i C rfl;have T:(at_:Int)<(Z.length:Int):=by omega
 have X:(k:Int)<(Z.length:Int):=by omega
 have a0:(i:Int)<(u.nd.kids.length:Int):=by omega
 have R:(i:Int)<=9:=by omega
 have N:(4:Int)<(I.nd.pairs.length:Int):=by omega
 have H:=H_ h;clear h hs q e f j g p a3 Y k2 W k4 C m hF r l n z c d;go_enter Tryz.func171,Tryz.ntmps171;go_upto_region 2 with fail
 go_quiet (fail)
 have a:=Fr.drewN No w nq;generalize w.drewN nq=W1 at a ⊢
 replace S:=a.cell0 S
 replace a1:=a.cell0 a1
 replace a2:=a.cell0 a2
 replace D:=a.cell0 D
 have o:=H_ a;clear a kl;go_wp2_with fail;go_ret;obtain ⟨J,x,V,K,v,E⟩:=H.out;exact ⟨⟨_,rfl⟩,F,⟨J,x,V,K.fr0 o.out,v,E⟩,o.out.mono (fun _ _ s=>s.elim),fun b hb=>.inl hb⟩
theorem zsu (w:World) (t:Nat) (A:Arr) (fl:List Nat) (root:Nat) (many:Int) (F:Nat->Prop) (h:TreeZ w t A fl root many F) (at_ i:Nat) (hs:zbo A fl at_) (hA:A.length<=109951162) (hi:i<(ndA A at_).kids.length)
 (hpos:1<=(ndA A at_).pairs.length):Calls Tryz.prog 171 #[.pointer (some ⟨t,0,none⟩),.int .i64 at_,.int .i64 i] w (zgu w t F (fillA A fl at_ i).1 (fillA A fl at_ i).2 root many):=by
 unfold fillA;have u:=hs.len
 split
 · exact zpz w t A fl root many F h at_ i hs hA hi ‹_›
 rename_i hk4
 split
 · rename_i hl
   obtain ⟨j,rfl⟩:∃ j,i=j+1:=⟨i-1,by omega⟩;obtain ⟨l,k,f,no,cap,fv,Z,g,J,n,p,y⟩:=two_z h at_ j hs (by omega) hA;refine zph w t A fl root many F at_ j l k f no cap fv Z g J n p y ?_ ?_
   · rw [y.ek,<-y.hk];omega
   rw [y.el,<-y.hl];exact hl.2
 rename_i hl
 obtain ⟨nv,fv,Z,O,d,hF⟩:=id h;obtain ⟨g,s,a⟩:=zbk d hs.lt;obtain ⟨k,n,I,C,H,o,q,R,E⟩:=kid_z d hs hi;have K:at_<Z.length:=(List.getElem?_eq_some_iff.1 s).1;have G:Z.length<=109951162:=(by rw [<-zaw,d];exact hA);obtain ⟨f,no,cap,rfl,M⟩:=O.headLen (by omega)
 have D:zml w t A fl root many F at_ i k f no cap fv Z g n:=by
  refine ⟨⟨O,Fr.refl _ w,fun b hb=>.inl ((hF b).2 hb)⟩,d,s,H,a,by rw [a];exact I,by rw [o,<-C];omega,by rw [a];exact hs.hi,by rw [a];exact u,?_,G⟩
  cases i with
  | zero=>exact .inl rfl
  | succ m =>
    obtain ⟨l,J,c,B,z,v,Q,L,N⟩:=kid_z d hs (i:=m) (by omega);refine .inr ⟨m,l,J,rfl,by rw [a];exact c,z,?_⟩;rw [v,<-B];have:=Nat.not_lt.1 (fun x=>hl ⟨Nat.succ_pos m,x⟩);rw [Nat.add_sub_cancel] at this;omega
 split
 · rename_i hn
   obtain ⟨r,P,c,B,z,v,Q,L,N⟩:=kid_z d hs (i:=i+1) hn
   split
   · rename_i hr
     obtain ⟨p,S⟩:∃ p,(ndA A at_).pairs[i]?=some p:=⟨_,List.getElem?_eq_getElem (by omega)⟩;refine zpy w t A fl root many F at_ i k f no cap fv Z g n D r P p (by rw [a];exact c) z (by rw [v,<-B];exact hr) L (by rw [a];exact S) q Q ?_ E N ?_
     · intro e
       have:=hs.apart i (i+1) k I (by rw [e];exact c);omega
     rw [o,v];exact hs.both k (List.mem_of_getElem? I) r (List.mem_of_getElem? c)
   rename_i hr
   exact zpx w t A fl root many F at_ i k f no cap fv Z g n D r P (by rw [a];exact c) z (by rw [v,<-B];omega) hs
 rename_i hn
 obtain ⟨m,rfl⟩:∃ m,i=m+1:=⟨i-1,by omega⟩;exact zpw w t A fl root many F at_ (m+1) k f no cap fv Z g n D m rfl (by rw [a];omega) hs
open Go Go.RowKit Go.WideElems Go.ChangeMaps
def MapAt (w:World) (b:Nat) (f:Int->Option Value):Prop :=
 ∃ es clock,w.heap[b]?=some (.map es clock)/\MapKept.Stamped es clock/\(∀ e∈es.toList,∃ n,e.key=.int .i64 n/\(Lit.int .i64 n).wf=true/\f n=some e.val) ∧
  ∀ n v,f n=some v->∃ e∈es.toList,e.key=.int .i64 n/\e.val=v
theorem Fr.setAt {b:Nat} {a w:World} (h:Fr (fun x=>x=b) a w) (i:Nat) (u:Value):Fr (fun x=>x=b) a (w.setCell ⟨b,i,none⟩ u):=h.setCell (p:=⟨b,i,none⟩) (.inl rfl) u
theorem MapAt.lt {w:World} {b:Nat} {f:Int->Option Value} (h:MapAt w b f):b<w.heap.size:=by
 obtain ⟨d,a,c,_⟩:=h;exact zaa c
theorem MapAt.keep {w w':World} {b:Nat} {f:Int->Option Value} (h:MapAt w b f) (hk:w'.heap[b]?=w.heap[b]?):MapAt w' b f:=by
 obtain ⟨c,a,d,h⟩:=h;exact ⟨c,a,hk.trans d,h⟩
theorem MapAt.fr {w w':World} {b:Nat} {f:Int->Option Value} {S:Nat->Prop} (h:MapAt w b f) (hf:Fr S w w') (hn:¬ S b):MapAt w' b f:=h.keep (hf.block b h.lt hn)
theorem MapAt.alloc {w:World} {b:Nat} {f:Int->Option Value} (h:MapAt w b f) (o:Obj):MapAt (w.alloc o) b f:=h.keep (Below.heap_alloc w o b h.lt)
theorem MapAt.made (w:World):MapAt (w.alloc (.map #[] 0)) w.heap.size fun _=>none :=
 ⟨#[],0,heap_alloc_new w _,MapKept.stamped_empty 0,by simp,by simp⟩
theorem MapAt.apart {w:World} {b:Nat} {f:Int->Option Value} (h:MapAt w b f) {cs:List Value} {c:Nat} (hc:Has w c cs):b≠c:=by
 rintro rfl;obtain ⟨g,a,d,_⟩:=h;obtain ⟨e,hc⟩:=hc;rw [d] at hc;cases hc
section
variable {P:Program} {w:World} {b:Nat} {f:Int->Option Value} {t k e:TypeId}
theorem zpk (hk:P.underlying k=some (.int .i64)) {es:List MapEntry} (h:∀ e∈es,∃ n,e.key=.int .i64 n/\(Lit.int .i64 n).wf=true/\f n=some e.val):∀ e∈es,∃ l,keyOf P k e.key=some l:=by
 intro e b;obtain ⟨n,c,a,_⟩:=h e b;exact ⟨_,by rw [c];exact Maps.keyOf_int_mk hk a⟩
theorem MapAt.look (h:MapAt w b f) (ht:P.underlying t=some (.map k e)) (hk:P.underlying k=some (.int .i64)) {n:Int} (hn:(Lit.int .i64 n).wf=true) {z:Value} (hz:(zeroValue e).run P w=.ok z w) :
 (Instr.lookup t (.map (some b)) (.int .i64 n) false).run P w=.ok ((f n).getD z) w:=by
 obtain ⟨s,c,p,y,q,A⟩:=h;have K:=Maps.int_keyed hk;have a:=Maps.keyOf_int_mk hk hn;rcases K.find w a s.toList (zpk hk q) with ⟨g,d⟩ | ⟨j,u,g,d,B⟩
 · have:f n=none:=by
    cases hf:f n with
    | none=>rfl
    | some v =>
      obtain ⟨x,i,l,_⟩:=A n v hf;exact absurd l (d x i)
   simp [Instr.lookup,run_underlying ht,MapKept.run_getObj_map p,K.check w _ a,g,hz,Result.andThen,this]
 obtain ⟨m,r,_,o⟩:=q u (List.mem_of_getElem? d)
 rw [B] at r;cases r;simp [Instr.lookup,run_underlying ht,MapKept.run_getObj_map p,K.check w _ a,g,Result.andThen,o]
theorem MapAt.store (h:MapAt w b f) (ht:P.underlying t=some (.map k e)) (hk:P.underlying k=some (.int .i64)) {n:Int} (hn:(Lit.int .i64 n).wf=true) (v:Value) :
 ∃ w',(Instr.mapUpdate t (.map (some b)) (.int .i64 n) v).run P w=.ok () w'/\MapAt w' b (fun m=>if m=n then some v else f m)/\Fr (fun x=>x=b) w w'/\w'.heap.size=w.heap.size:=by
 obtain ⟨d,c,z,A,Q,W⟩:=h;have K:=Maps.int_keyed hk;have g:=Maps.keyOf_int_mk hk hn;have I:∀ o,Fr (fun x=>x=b) w (setBlock w b o):=fun o=>⟨rfl,rfl,rfl,by simp [setBlock],fun i _ F=>heap_setBlock_other z _ F⟩;rcases K.find w g d.toList (zpk hk Q) with ⟨S,N⟩ | ⟨j,M,S,N,J⟩
 · refine ⟨setBlock w b (.map (d.push ⟨.int .i64 n,v,c⟩) (c+1)),?_,⟨_,_,heap_setBlock_same z _,MapKept.stamped_push A N,?_,?_⟩,I _,by simp [setBlock]⟩
   · simp [Instr.mapUpdate,run_underlying ht,MapKept.run_getObj_map z,K.check w false g,S,MapKept.run_setObj_map _ z,Result.andThen,setBlock]
   · intro x l
     simp only [Array.toList_push,List.mem_append,List.mem_singleton] at l;rcases l with l | rfl
     · obtain ⟨m,r,U,T⟩:=Q x l
       refine ⟨m,r,U,?_⟩;dsimp only;rw [if_neg (fun e=>N x l (by rw [r,e]))];exact T
     exact ⟨n,rfl,hn,by simp⟩
   intro m u p
   simp only [Array.toList_push,List.mem_append,List.mem_singleton];by_cases hmn:m=n
   · subst hmn
     simp at p;subst p;exact ⟨_,.inr rfl,rfl,rfl⟩
   dsimp only at p
   rw [if_neg hmn] at p;obtain ⟨x,l,R⟩:=W m u p;exact ⟨x,.inl l,R⟩
 have E:d[j]?=some M:=by simpa using N
 have L:j<d.size:=(Array.getElem?_eq_some_iff.1 E).1;have D:∀ e',d[j]?=some e'->({ e' with key:=.int .i64 n,val:=v }:MapEntry).key=e'.key:=fun e' he'=>by rw [E] at he';cases he';exact J.symm
 have C:d.toList.Pairwise (fun x y=>x.key≠y.key):=((MapKept.stamped_iff _ _).1 A).2.2
 have q:∀ i x,d[i]?=some x->i≠j->x.key ≠ .int .i64 n:=by
  intro i x l s r;have G:=(Array.getElem?_eq_some_iff.1 l).1;rw [List.pairwise_iff_getElem] at C;have V:d[i]=x:=(Array.getElem?_eq_some_iff.1 l).2;have H:d[j]=M:=(Array.getElem?_eq_some_iff.1 E).2;rcases Nat.lt_or_gt_of_ne s with h | h
  · exact C i j (by simpa using G) (by simpa using L) h (by simp [V,H,r,J])
  exact C j i (by simpa using L) (by simpa using G) h (by simp [V,H,r,J])
 refine ⟨setBlock w b (.map (d.modify j (fun e'=>{ e' with key:=.int .i64 n,val:=v })) c),?_,
  ⟨_,_,heap_setBlock_same z _,MapKept.stamped_modify A _ _ (fun _ _=>rfl) (fun e' _ he'=>D e' he'),?_,?_⟩,I _,by simp [setBlock]⟩
 · simp [Instr.mapUpdate,run_underlying ht,MapKept.run_getObj_map z,K.check w false g,S,E,J,K.stays w g,MapKept.run_setObj_map _ z,Result.andThen,setBlock]
 · intro x l
   obtain ⟨i,F⟩:=List.getElem?_of_mem l;have a:(d.modify j (fun e'=>{ e' with key:=.int .i64 n,val:=v }))[i]?=some x:=(by rw [Array.getElem?_toList] at F;exact F);rw [Array.getElem?_modify] at a;by_cases hji:j=i
   · rw [if_pos hji] at a
     obtain ⟨y,X,rfl⟩:=Option.map_eq_some_iff.1 a;exact ⟨n,rfl,hn,by simp⟩
   rw [if_neg hji] at a
   obtain ⟨m,r,U,T⟩:=Q x (List.mem_of_getElem? (by simpa using a));refine ⟨m,r,U,?_⟩;dsimp only;rw [if_neg (fun e=>q i x a (fun e'=>hji e'.symm) (by rw [r,e]))];exact T
 intro m u p
 by_cases hmn:m=n
 · subst hmn
   simp at p;subst p;refine ⟨{ M with key:=.int .i64 m,val:=v },?_,rfl,rfl⟩;refine List.mem_of_getElem? (i:=j) ?_;have:(d.modify j (fun e'=>{ e' with key:=.int .i64 m,val:=v }))[j]?=some { M with key:=.int .i64 m,val:=v }:=(by rw [Array.getElem?_modify,if_pos rfl,E];rfl);rw [Array.getElem?_toList];exact this
 dsimp only at p
 rw [if_neg hmn] at p;obtain ⟨x,l,B,O⟩:=W m u p;obtain ⟨i,F⟩:=List.getElem?_of_mem l;have a:d[i]?=some x:=(by simpa using F)
 have s:j≠i:=by
  rintro rfl;rw [E] at a;cases a;rw [J] at B;cases B;exact hmn rfl
 refine ⟨x,List.mem_of_getElem? (i:=i) ?_,B,O⟩;have:(d.modify j (fun e'=>{ e' with key:=.int .i64 n,val:=v }))[i]?=some x:=(by rw [Array.getElem?_modify,if_neg s];exact a);rw [Array.getElem?_toList];exact this
theorem MapAt.drop (h:MapAt w b f) (ht:P.underlying t=some (.map k e)) (hk:P.underlying k=some (.int .i64)) {n:Int} (hn:(Lit.int .i64 n).wf=true) (ty:TypeId) :
 ∃ w',(Builtin.delete_ #[t,k] ty #[.map (some b),.int .i64 n]).run P w=.ok (.tuple #[]) w'/\MapAt w' b (fun m=>if m=n then none else f m)/\Fr (fun x=>x=b) w w'/\w'.heap.size=w.heap.size:=by
 obtain ⟨d,a,r,z,N,Q⟩:=h;have K:=Maps.int_keyed hk;have c:=Maps.keyOf_int_mk hk hn;have E:∀ o,Fr (fun x=>x=b) w (setBlock w b o):=fun o=>⟨rfl,rfl,rfl,by simp [setBlock],fun i _ g=>heap_setBlock_other r _ g⟩;rcases K.find w c d.toList (zpk hk N) with ⟨J,G⟩ | ⟨j,H,J,G,M⟩
 · refine ⟨setBlock w b (.map d a),?_,⟨_,_,heap_setBlock_same r _,z,?_,?_⟩,E _,by simp [setBlock]⟩
   · simp [Builtin.delete_,run_underlying ht,MapKept.run_getObj_map r,K.check w _ c,J,MapKept.run_setObj_map _ r,Result.andThen,setBlock]
   · intro x q
     obtain ⟨m,D,O,L⟩:=N x q;refine ⟨m,D,O,?_⟩;dsimp only;rw [if_neg (fun e=>G x q (by rw [D,e]))];exact L
   intro m u l
   dsimp only at l
   split at l
   · cases l
   exact Q m u l
 have R:d[j]?=some H:=by simpa using G
 have B:j<d.size:=(Array.getElem?_eq_some_iff.1 R).1
 have p:(d.eraseIdxIfInBounds j).toList=d.toList.eraseIdx j:=by
  unfold Array.eraseIdxIfInBounds;rw [dif_pos B];simp
 have v:d.toList.Pairwise (fun x y=>x.key≠y.key):=((MapKept.stamped_iff _ _).1 z).2.2;refine ⟨setBlock w b (.map (d.eraseIdxIfInBounds j) a),?_,⟨_,_,heap_setBlock_same r _,MapKept.stamped_erase z j,?_,?_⟩,E _,by simp [setBlock]⟩
 · simp [Builtin.delete_,run_underlying ht,MapKept.run_getObj_map r,K.check w _ c,J,MapKept.run_setObj_map _ r,Result.andThen,setBlock]
 · intro x q
   rw [p] at q;obtain ⟨m,D,O,L⟩:=N x ((List.eraseIdx_sublist _ _).subset q);refine ⟨m,D,O,?_⟩;dsimp only;rw [if_neg ?_];exact L;rintro rfl;obtain ⟨i,g⟩:=List.mem_iff_getElem?.1 q;rw [List.pairwise_iff_getElem] at v;rw [List.getElem?_eraseIdx] at g;have F:d[j]=H:=(Array.getElem?_eq_some_iff.1 R).2
   split at g
   · rename_i hlt
     obtain ⟨s,C⟩:=List.getElem?_eq_some_iff.1 g;exact v i j s (by simpa using B) hlt (by rw [C,D];simp [F,M])
   rename_i hge
   obtain ⟨s,C⟩:=List.getElem?_eq_some_iff.1 g;exact v j (i+1) (by simpa using B) s (by omega) (by rw [C,D];simp [F,M])
 intro m u l
 dsimp only at l
 split at l
 · cases l
 rename_i hmn
 obtain ⟨x,q,A,I⟩:=Q m u l;refine ⟨x,?_,A,I⟩;rw [p];obtain ⟨i,g⟩:=List.mem_iff_getElem?.1 q;refine List.mem_iff_getElem?.2 ?_
 have S:i≠j:=by
  rintro rfl;have:d.toList[i]?=some H:=G;rw [g] at this;cases this;rw [M] at A;cases A;exact hmn rfl
 by_cases hlt:i<j
 · exact ⟨i,by rw [List.getElem?_eraseIdx,if_pos hlt];exact g⟩
 exact ⟨i-1,by rw [List.getElem?_eraseIdx,if_neg (by omega),show i-1+1=i from by omega];exact g⟩
def mapUpW (P:Program) (t:TypeId) (b:Nat) (n:Int) (v:Value) (w:World):World:=match (Instr.mapUpdate t (.map (some b)) (.int .i64 n) v).run P w with
 | .ok _ w'=>w'
 | .halt _ w'=>w'
theorem MapAt.up (h:MapAt w b f) (ht:P.underlying t=some (.map k e)) (hk:P.underlying k=some (.int .i64)) {n:Int} (hn:(Lit.int .i64 n).wf=true) (v:Value) :
 (Instr.mapUpdate t (.map (some b)) (.int .i64 n) v).run P w=.ok () (mapUpW P t b n v w)/\MapAt (mapUpW P t b n v w) b (fun m=>if m=n then some v else f m)/\Fr (fun x=>x=b) w (mapUpW P t b n v w)/\(mapUpW P t b n v w).heap.size=w.heap.size:=by
 obtain ⟨w',a,i,c,d⟩:=h.store ht hk hn v;have g:mapUpW P t b n v w=w':=by unfold mapUpW;rw [a]
 rw [g];exact ⟨a,i,c,d⟩
end
theorem zgm {P:Program} {w:World} {ops:Array Oper} {rest:List Oper} {o:Oper} {a:Act} {Q:Exit->Act->World->Prop} (hg:o.guard=none) (m x:Operand) (t:TypeId) (hop:o.op=Op.lookup t m x false)
 (k e:TypeId) (ht:P.underlying t=some (.map k e)) (hk:P.underlying k=some (.int .i64)) (b:Nat) (f:Int->Option Value) (hm:a.eval m=.map (some b)) (h:MapAt w b f) (n:Int) (hx:a.eval x=.int .i64 n)
 (hn:(Lit.int .i64 n).wf=true) (z:Value) (hz:(zeroValue e).run P w=.ok z w) (v:Value) (hv:(f n).getD z=v) (hK:wpList P ops Q rest (a.put o.dst v) w):wpList P ops Q (o :: rest) a w:=by
 refine wpList_plain hg fun K' hK'=>?_;have c:=h.look ht hk hn hz;rw [hv] at c;unfold Oper.wp;simp [execOp,hop,hm,hx,c,Result.andThen];exact hK' _ _ hK
theorem zmm {P:Program} {w:World} {ops:Array Oper} {rest:List Oper} {o:Oper} {a:Act} {Q:Exit->Act->World->Prop} (hg:o.guard=none) (m x v:Operand) (t:TypeId) (hop:o.op=Op.mapUpdate t m x v)
 (k e:TypeId) (ht:P.underlying t=some (.map k e)) (hk:P.underlying k=some (.int .i64)) (b:Nat) (f:Int->Option Value) (hm:a.eval m=.map (some b)) (h:MapAt w b f) (n:Int) (hx:a.eval x=.int .i64 n)
 (hn:(Lit.int .i64 n).wf=true) (u:Value) (hv:a.eval v=u)
 (hK:∀ w',MapAt w' b (fun m=>if m=n then some u else f m)->Fr (fun x=>x=b) w w'->w'.heap.size=w.heap.size->wpList P ops Q rest (a.put o.dst undef) w'):wpList P ops Q (o :: rest) a w:=by
 refine wpList_plain hg fun K' hK'=>?_;obtain ⟨w',c,d,g,i⟩:=h.store ht hk hn u;unfold Oper.wp;simp [execOp,hop,hm,hx,hv,c,Result.andThen];exact hK' _ _ (hK w' d g i)
theorem Pt.splitSafe {A:Arr} {fr:List Nat} {d at_ i kid:Nat} (h:Pt A fr (d+1) at_) (h9:(ndA A at_).pairs.length<=9) (hi:(ndA A at_).kids[i]?=some kid) (hk:(ndA A kid).pairs.length=9):splitSafe A fr at_ i:=by
 have r:(ndA A at_).kids.length=(ndA A at_).pairs.length+1:=h.wf.1;have k:=(List.getElem?_eq_some_iff.1 hi).1;have c:kidA A at_ i=kid:=by unfold kidA;simp [List.getD,hi]
 have a:=List.mem_of_getElem? hi;obtain ⟨n,q,s,m⟩:=h.wf.2 kid a
 have b:kid≠at_:=by
  intro e;have g:=h.one at_;have p:0<(nidx A (d+1) (ndA A at_)).count at_:=List.count_pos_iff.2 (List.mem_flatMap.2 ⟨kid,a,by simp [e]⟩);unfold own at g;simp only [List.count_cons,beq_self_eq_true,if_true] at g;omega
 unfold Go.Proofs.YthljnnjpmdgkoaaGreat.splitSafe;rw [c];refine ⟨h.lt,h9,by omega,by omega,hi,n,b,hk,?_,fun f hf=>⟨(h.free f hf).1,fun e=>?_,fun e=>?_,(h.free f hf).2⟩⟩
 · rcases zpf d _ m with e | e
   · exact .inl e
   exact .inr (by omega)
 · have j:=h.one f
   have l:0<fr.count f:=List.count_pos_iff.2 hf;have o:0<(own A (d+1) at_).count f:=List.count_pos_iff.2 (by rw [e];unfold own;simp);omega
 have j:=(h.kid a).one f
 have l:0<fr.count f:=List.count_pos_iff.2 hf;have o:0<(own A d kid).count f:=List.count_pos_iff.2 (by rw [e];unfold own;simp);omega
theorem zsa (A:Arr) (fr:List Nat) (at_ i:Nat):A.length<=(splitA A fr at_ i).length:=by
 unfold splitA takeA
 split <;> simp
theorem zit (key:ByteArray) (n:Int):∀ (g:Nat) (A:Arr) (fr:List Nat) (at_:Nat),A.length<=(setA g A fr at_ key n).1.length
 | 0,_,_,_=>Nat.le_refl _
 | g+1,A,fr,at_=>by
   unfold setA
   split
   · simp
   split
   · simp
   split
   · exact Nat.le_trans (zsa A fr at_ _) (zit key n g _ _ _)
   exact zit key n g _ _ _
theorem TreeR.of_eq {w:World} {t:Nat} {nv fv:Value} {Z:List Nz} {fl fl':List Nat} {root:Nat} {many many':Int} (h:TreeR w t nv fv Z fl root many) (h1:fl'=fl) (h2:many'=many):TreeR w t nv fv Z fl' root many':=by
 subst h1;subst h2;exact h
def SetEnd (w:World) (t:Nat) (F:Nat->Prop) (r:Arr×List Nat×Bool) (root:Nat) (many:Int) (e:Ending) (w':World):Prop :=
 (∃ v,e=.returned v)/\∃ F',TreeZ w' t r.1 r.2.1 root (many+if r.2.2 then 1 else 0) F'/\Fr F w w'/\(∀ b,F' b->F b\/w.heap.size<=b)
structure GrownZ (w wx:World) (t:Nat) (A:Arr) (fl:List Nat) (root:Nat) (many:Int) (F F1:Nat->Prop):Prop where
 z:TreeZ wx t A fl root many F1
 fr:Fr F w wx
 new:∀ b,F1 b->F b\/w.heap.size<=b
set_option maxHeartbeats 4000000 in
theorem ztl (w:World) (t:Nat) (A:Arr) (fl:List Nat) (root:Nat) (many:Int) (F:Nat->Prop) (T:Pairs) (key:ByteArray) (n:Int) (h:TreeZ w t A fl root many F) (hg:GoodT A fl root T) (N:Nat) (hN:N<=1000000) (hA:A.length<=N+2) (_hT:T.length<N)
 (hm:0<=many/\many<=1000000) (g:Nat) (hsafe:zhl g (growA A fl root).1 (growA A fl root).2.1 (growA A fl root).2.2 key) (hlen:(setA g (growA A fl root).1 (growA A fl root).2.1 (growA A fl root).2.2 key n).1.length<=N+2) :
 Calls Tryz.prog 116 #[.pointer (some ⟨t,0,none⟩),.string key,.int .i64 n] w (SetEnd w t F (setA g (growA A fl root).1 (growA A fl root).2.1 (growA A fl root).2.2 key n) (growA A fl root).2.2 many):=by
 obtain ⟨D,hD⟩:=hg;have a8:fl.length<=A.length:=by have:=hD.cover;omega
 have ba:(growA A fl root).2.1.length<=fl.length:=by unfold growA;split <;> simp;omega
 have be:=H_ h;obtain ⟨nv,fv,Z,hR,hZ,hF⟩:=h;subst hZ;have dy:Z.length<=N+2:=by rw [<-zaw];exact hA
 obtain ⟨z,hz,bQ⟩:=zdb hD.pt.lt;have dx:root<Z.length:=(List.getElem?_eq_some_iff.1 hz).1;obtain ⟨nb,no,cap,rfl,d7⟩:=hR.headLen (by omega);have c0:=hR.obj.cell 0 rfl;have c2:=hR.obj.cell 2 rfl;obtain ⟨a1,a2,a3,a4⟩:=hR.look root z hz;obtain ⟨pa,d9,bl,dL,dG,ct⟩:=(hR.pairs root z hz).shape;rw [bl] at a1;have dz:t<w.heap.size:=hR.obj.lt;have dh:nb<w.heap.size:=hR.nodes.lt nb rfl;have dM:(root:Int)<(Z.length:Int):=by omega
 have aP:=H_ hD;have HR:=H_ hR;have aV:=H_ bQ;have HF:=H_ hF;have ad:=H_ hsafe;have ax:=H_ hlen;have bo:=H_ ba;clear hR hF hz bQ bl ct hD hsafe hlen ba a2 a3 a4;go_enter Tryz.func116,Tryz.ntmps116;go_upto_region 3 with fail
 go_quiet (fail)
 have E:=Fr.drewN No w nq;have u:=be.out.fr0 E;generalize w.drewN nq=W at E u ⊢
 have HQ:=H_ E;have S:=H_ u;clear E u;go_upto_if 28 with fail
 go_cut [8] (fun _ wx=>∃ F1,Hid (GrownZ w wx t (growA (ndsZ Z) fl root).1 (growA (ndsZ Z) fl root).2.1 (growA (ndsZ Z) fl root).2.2 many F F1))
 case first =>
  by_cases h9:z.nd.pairs.length=9
  · have am:(ndA (ndsZ Z) root).pairs.length=9:=by rw [aV.out];exact h9
    obtain ⟨t1,t2,t3,t4,t5,t6⟩:=top_ok aP.out am;have a7:growA (ndsZ Z) fl root=(splitA (topA (ndsZ Z) fl root) fl.dropLast (takeI (ndsZ Z) fl) 0,fl.dropLast.dropLast,takeI (ndsZ Z) fl):=(by unfold growA;rw [if_pos am]);have bH:=t1.splitSafe (i:=0) (kid:=root) (by rw [t2];simp) (by rw [t2];rfl) (by rw [t3];exact am);have aO:=took aP.out.pt.free;have bb:=aO.lt;have aN:=aO.new;have bc:(takeA (ndsZ Z) fl).length<=1000003:=(by unfold takeA;split <;> simp [zaw] <;> omega);have aX:((z.nd.pairs.length:Int)==9)=true:=(by simp;omega);have aY:=H_ a7;have cc:=H_ bH;have cF:=H_ bb;have cD:=H_ aN;have cg:=H_ bc;have cu:Hid (topA (ndsZ Z) fl root=(takeA (ndsZ Z) fl).set (takeI (ndsZ Z) fl) ⟨[],[root]⟩):=H_ rfl;have ca:=H_ t6;clear t1 t2 t3 t4 t5 t6 a7 bH aO bb aN h9 am bc
    have co:fl.length<=1099511627:=(by rw [zaw] at a8;omega);generalize aC:takeI (ndsZ Z) fl=top at *;have bv:=H_ aC;clear aC
    go_upto_region 5 with (first
     | (go_at_call 155;refine (zkt _ t (ndsZ Z) fl root many F S.out (by rw [zaw];omega) co).mono ?_;rintro e w1 ⟨rfl,F1,cy,y,bq⟩;rw [bv.out]))
    obtain ⟨dO,al,Z1,H,aS,bD⟩:=cy;obtain ⟨zt,a5,bk⟩:=zbk aS cF.out;have di:top<Z1.length:=(List.getElem?_eq_some_iff.1 a5).1;obtain ⟨C,Y,X,rfl,cz⟩:=H.headLen (by omega);obtain ⟨_,e2,_,e4⟩:=H.look top zt a5;have d0:=H.obj.cell 0 rfl;have d2:=H.obj.cell 2 rfl;have cW:t<w1.heap.size:=H.obj.lt;have aE:C<w1.heap.size:=H.nodes.lt C rfl;have dZ:(top:Int)<(Z1.length:Int):=(by omega)
    have bL:=H.setKids (w1:=(w1.alloc (.cells #[.int .i64 (root:Int)] 3))) (kv':=.slice (some ⟨w1.heap.size,0,none⟩) 1 1) (K':=[root]) top zt a5 ((Fr.refl _ w1).alloc _)
     ⟨rfl,.inr ⟨_,_,_,_,rfl,zad _ _ _ rfl,by simp,by unfold maxLen;omega,by simp,rfl⟩⟩ (fun b e=>by
       obtain rfl:w1.heap.size=b:=by simpa [Value.ownBlock] using e
       exact .inr (Nat.le_refl _))
    obtain ⟨q1,q2,q3⟩:=bL
    have bn:ndsZ (Z1.set top ⟨⟨zt.nd.pairs,[root]⟩,zt.pv,.slice (some ⟨w1.heap.size,0,none⟩) 1 1⟩)=topA (ndsZ Z) fl root:=by
     rw [zay,aS,cu.out,bk,cD.out];rfl
    have ar:=zbf (t:=t) (nv:=.slice (some ⟨C,Y,none⟩) Z1.length X) (fv:=al) a5 q3;have cj:=H_ q1;have cn:=H_ q2;have cB:=H_ bn;have bz:=H_ ar;have cA:=H_ bD;have aB:=H_ y;have cP:=H_ bq;have cx:=H_ a5;clear q1 q2 q3 bn ar bD y bq H aS bk a5 c0 c2 a1
    go_region
    rw [<-World.setCell_alloc_past _ _ _ _ aE];have U:=cj.out.fr0 ((Fr.refl No _).drew);have aT:Fr (fun b=>b=C\/zt.kv.ownBlock=some b) w1 (((w1.alloc (.cells #[.int .i64 (root:Int)] 3)).setCell ⟨C,Y+top * 2+1,none⟩ (.slice (some ⟨w1.heap.size,0,none⟩) 1 1)).drew):=cn.out.drew;generalize (((w1.alloc (.cells #[.int .i64 (root:Int)] 3)).setCell ⟨C,Y+top * 2+1,none⟩ (.slice (some ⟨w1.heap.size,0,none⟩) 1 1)).drew)=W2 at U aT ⊢
    have r2:=U.obj.cell 2 rfl;have dV:=U.obj.free 2;have cV:t<W2.heap.size:=U.obj.lt;have ho:=U.obj.set 2 (.int .i64 (top:Int));have b7:=U.setObj ((Fr.refl (fun b=>b=t) W2).setAt 2 (.int .i64 (top:Int))) top many ho;have J:Fr (fun b=>b=t) W2 (W2.setCell ⟨t,2,none⟩ (.int .i64 (top:Int))):=(Fr.refl _ W2).setAt 2 _;have bj:=H_ b7;have bs:=H_ aT;have aL:=H_ J;clear U aT ho b7 J d0 d2 e2 e4;go_wp2_with fail;generalize W2.setCell ⟨t,2,none⟩ (.int .i64 (top:Int))=W3 at bj aL ⊢
    have P:TreeZ W3 t (topA (ndsZ Z) fl root) fl.dropLast top many (treeF t (.slice (some ⟨C,Y,none⟩) Z1.length X) al (Z1.set top ⟨⟨zt.nd.pairs,[root]⟩,zt.pv,.slice (some ⟨w1.heap.size,0,none⟩) 1 1⟩)):=⟨_,_,_,bj.out,cB.out,fun b=>Iff.rfl⟩;have ch:=H_ P;clear P;have bw:fl.dropLast.length<=1099511627:=(by simp;omega)
    go_wp2_with (first
     | (go_at_call 156;refine (zis _ t (topA (ndsZ Z) fl root) fl.dropLast top many _ ch.out top 0 cc.out (by rw [ca.out];have:=cg.out;omega) bw).mono ?_;rintro e w4 ⟨rfl,F4,aa,ah,ab⟩))
    have aR:=H_ aa;have aW:=H_ ah;have b0:=H_ ab;clear aa ah ab;go_meet
    case rel =>
     have d6:=aB.out.size;have bN:=HQ.out.size;have cM:=bs.out.size;have cX:=aL.out.size
     have v:∀ b,treeF t (.slice (some ⟨C,Y,none⟩) Z1.length X) al Z1 b->F b\/w.heap.size<=b:=by
      intro b k;rcases cP.out b ((cA.out b).2 k) with e | e
      · exact .inl e
      exact .inr (by omega)
     have az:∀ b,treeF t (.slice (some ⟨C,Y,none⟩) Z1.length X) al (Z1.set top ⟨⟨zt.nd.pairs,[root]⟩,zt.pv,.slice (some ⟨w1.heap.size,0,none⟩) 1 1⟩) b->F b\/w.heap.size<=b:=by
      intro b k;rcases bz.out b k with e | e
      · exact v b e
      exact .inr (by omega)
     refine ⟨F4,H_ ⟨?_,?_,fun b k=>?_⟩⟩
     · rw [aY.out];exact aR.out
     · have f1:Fr F w w1:=(HQ.out.mono fun _ _ s=>s.elim).trans aB.out fun _ _ e=>e
       have f2:=f1.trans bs.out fun b k e=>by
        rcases v b (by
         rcases e with rfl | e
         · exact .inr (.inl rfl)
         exact .inr (.inr (.inr ⟨top,zt,cx.out,.inr e⟩))) with e | e
        · exact e
        omega
       have f3:=f2.trans aL.out fun b k e=>by
        rcases v b (.inl e) with e | e
        · exact e
        omega
       exact f3.trans aW.out fun b k e=>by
        rcases az b e with e | e
        · exact e
        omega
     rcases b0.out b k with e | e
     · exact az b e
     exact .inr (by omega)
  have aX:((z.nd.pairs.length:Int)==9)=false:=by simp;omega
  have a7:growA (ndsZ Z) fl root=(ndsZ Z,fl,root):=(by unfold growA;rw [if_neg (by rw [aV.out];exact h9)]);have aY:=H_ a7;clear a7 h9;go_wp2_with fail;go_meet
  case rel=>exact ⟨F,H_ ⟨by rw [aY.out];exact S.out,HQ.out.mono fun _ _ s=>s.elim,fun b k=>.inl k⟩⟩
 case rest =>
  obtain ⟨F1,aI⟩:=hcut;have aD:Hid ((growA (ndsZ Z) fl root).2.1.length<=1099511627):=H_ (by have:=bo.out;rw [zaw] at a8;omega);have aw:Hid (many<=1000000/\0<=many):=H_ ⟨hm.2,hm.1⟩;generalize growA (ndsZ Z) fl root=G at *;obtain ⟨A1,bE,l⟩:=G;dsimp only at aI ad ax aD ⊢
  generalize av:setA g A1 bE l key n=a0 at *;have bC:=H_ av
  have dX:wc.cell? ⟨t,2,none⟩=some (.int .i64 (l:Int)):=by
   obtain ⟨_,_,_,h1,_⟩:=aI.out.z;exact h1.obj.cell 2 rfl
  clear av HQ S be HR aV HF c0 c2 a1 bo aP a8;go_wp2_with fail
  go_loopg [9] g (fun gg s9 wr=>∃ (A2:Arr) (o:List Nat) (a:Nat) (F2:Nat->Prop),s9=.int .i64 a/\Hid (GrownZ w wr t A2 o l many F F2)/\Hid (zhl gg A2 o a key)/\Hid (setA gg A2 o a key n=a0)/\Hid (o.length<=1099511627))
  case atStart=>exact ⟨A1,bE,l,F1,rfl,aI,ad,bC,aD⟩
  case round =>
   obtain ⟨A2,o,a,F2,rfl,j,HS,bh,bM⟩:=hrel
   cases gk with
   | zero=>exact absurd HS.out id
   | succ q =>
     obtain ⟨s1,s2,s3⟩:=HS.out
     have cK:A2.length<=N+2:=by
      have h1:=zit key n (q+1) A2 o a;rw [bh.out] at h1;exact Nat.le_trans h1 ax.out
     have b6:=H_ j.out.z;obtain ⟨dR,cH,Z2,f,L,af⟩:=j.out.z;obtain ⟨d,p,I⟩:=zbk L s1;have dc:Z2.length<=N+2:=(by rw [<-zaw,L];exact cK);have de:a<Z2.length:=(List.getElem?_eq_some_iff.1 p).1;obtain ⟨O,aZ,bx,rfl,cf⟩:=f.headLen (by omega);have r:=spotZ f a d p (by rw [I];exact s2) (by omega) key;unfold zbv at r;obtain ⟨b1,b2,b3,b4⟩:=f.look a d p;have d0:=f.obj.cell 0 rfl;have d3:=f.obj.cell 3 rfl;have aU:=f.obj.free 3;have hP:=f.pairs a d p;have hK:=f.kids a d p;obtain ⟨dW,cd,K,cS,cT,V⟩:=hP.shape;obtain ⟨dI,cm,M,d1,dm,ae⟩:=hK.shape;have dU:(a:Int)<(Z2.length:Int):=(by omega);have c:setA (q+1) A2 o a key n=a0:=bh.out;unfold setA at c;rw [<-I] at c s2 s3
     have cs:O<wr.heap.size:=f.nodes.lt O rfl;have cQ:t<wr.heap.size:=f.obj.lt;have b9:¬ d.pv.ownBlock=some O:=fun e=>(f.a2 a _ O p (.inl e)).2.1 rfl;have bi:¬ d.pv.ownBlock=some t:=fun e=>(f.a2 a _ t p (.inl e)).1 rfl;have aN:t≠O:=fun e=>f.a1.1 (by rw [e];rfl)
     cases hh:hitOf d.nd.pairs key with
     | true =>
       obtain ⟨m,hm⟩:=hit_at hh;have bf:=(List.getElem?_eq_some_iff.1 hm).1;obtain ⟨pb,po,rfl⟩:=V (by omega);rw [K] at b1 hP;have hc:=hP.cell zag _ 1 hm rfl;have dH:=hP.free (po+spotOf d.nd.pairs key * 2+1);rw [hh,if_pos rfl] at c;rw [hh] at r;have au:=hP.set zag (spotOf d.nd.pairs key) 1 (by omega) (key,m) (key,n) (.int .i64 n) hm rfl;have cL:=H_ au;have x:=H_ c;have dd:(spotOf d.nd.pairs key:Int)<(d.nd.pairs.length:Int):=(by omega);have dl:pb<wr.heap.size:=hP.lt pb rfl;have aJ:=H_ f;have aM:=H_ L;have ap:=H_ af;have Q:=H_ p;have a9:=H_ K;clear c hh hm K M hP hK f p I V ae au L af b2 b3 b4 d3 aU s1 s2 s3 HS;generalize spotOf d.nd.pairs key=i at *;go_wp2_with (go_at_call 157;refine r.mono ?_;clear r;rintro e w' ⟨rfl,rfl⟩)
       go_ret2
       have J:Fr (fun b=>b=pb) wr (wr.setCell ⟨pb,po+i * 2+1,none⟩ (.int .i64 n)):=(Fr.refl _ wr).setAt _ _
       have E:=aJ.out.setPair (w1:=wr.setCell ⟨pb,po+i * 2+1,none⟩ (.int .i64 n)) (P':=d.nd.pairs.set i (key,n)) a d Q.out a9.out J (by
        rw [a9.out];have:=cL.out;unfold SlF at this ⊢
        rw [List.length_set] at this ⊢
        exact this)
       have cC:zown d pb:=.inl (by rw [a9.out];rfl);have k:a0.2.1=o/\(many+if a0.2.2 then 1 else 0)=many:=(by rw [<-x.out];simp);refine ⟨⟨_,rfl⟩,_,⟨_,_,_,E.of_eq k.1 k.2,?_,fun b=>Iff.rfl⟩,?_,?_⟩
       · rw [<-x.out,zay,aM.out]
       · exact j.out.fr.trans J fun b k e=>by
          have e':b=pb:=e;rcases j.out.new b ((ap.out b).2 (.inr (.inr (.inr ⟨a,d,Q.out,e'▸cC⟩)))) with e | e
          · exact e
          omega
       intro b k
       rcases zbf (z':=⟨⟨d.nd.pairs.set i (key,n),d.nd.kids⟩,d.pv,d.kv⟩) Q.out (B:=w.heap.size) (fun b e=>.inl e) b k with e | e
       · exact j.out.new b ((ap.out b).2 e)
       exact .inr e
     | false =>
       rw [hh] at r c;simp only [Bool.false_eq_true,if_false] at c;by_cases hk0:d.nd.kids = []
       · rw [if_pos hk0] at c
         have bP:d.nd.kids.length=0:=(by rw [hk0];rfl);rw [M,bP] at b2;have ay:=zel wr d.pv d.nd.pairs (spotOf d.nd.pairs key) (key,n) hP (zbq _ _) (by omega);have x:=H_ c;have aJ:=H_ f;have aM:=H_ L;have ap:=H_ af;have Q:=H_ p;have cw:=H_ hk0;clear c hh K M hP hK f p I V ae L af b4 s1 s3 HS hk0 bP;have dB:=aw.out.1;have dt:=aw.out.2;generalize spotOf d.nd.pairs key=i at *
         go_wp2_with (first
          | (go_at_call 157;refine r.mono ?_;clear r;rintro e w' ⟨rfl,rfl⟩)
          | (go_at_call 158;refine ay.mono ?_;clear ay;rintro e w1 ⟨g1,o1,c1,rfl,br,y,bK⟩
             have y1:=y.cell b1 b9;have y2:=y.free b1 b3 b9;have y3:=y.cell d3 bi;have y4:=y.free d3 aU bi;have cG:=H_ br;have bt:=H_ bK;have bI:=H_ y;clear br bK y))
         go_ret2
         have cv:∀ b,(Value.slice (some ⟨g1,o1,none⟩) (d.nd.pairs.length+1) c1).ownBlock=some b->d.pv.ownBlock=some b\/wr.heap.size<=b:=fun b e=>by
          obtain rfl:g1=b:=by simpa [Value.ownBlock] using e
          exact bt.out
         obtain ⟨q1,q2,q3⟩:=aJ.out.setPairs (w1:=w1) (pv':=.slice (some ⟨g1,o1,none⟩) (d.nd.pairs.length+1) c1) (P':=d.nd.pairs.take i++(key,n) :: d.nd.pairs.drop i) a d Q.out bI.out cG.out cv;have J:Fr (fun b=>b=t) (w1.setCell ⟨O,aZ+a * 2,none⟩ (.slice (some ⟨g1,o1,none⟩) (d.nd.pairs.length+1) c1)) ((w1.setCell ⟨O,aZ+a * 2,none⟩ (.slice (some ⟨g1,o1,none⟩) (d.nd.pairs.length+1) c1)).setCell ⟨t,3,none⟩ (.int .i64 (many+1))):=(Fr.refl _ _).setAt _ _;have ho:=q1.obj.set 3 (.int .i64 (many+1));have q4:=q1.setObj J l (many+1) ho;have bJ:=j.out.fr.size;have v:∀ b,treeF t (.slice (some ⟨O,aZ,none⟩) Z2.length bx) cH Z2 b->F b\/w.heap.size<=b:=fun b k=>j.out.new b ((ap.out b).2 k)
         have k:a0.2.1=o/\(many+if a0.2.2 then 1 else 0)=many+1:=(by rw [<-x.out];simp);refine ⟨⟨_,rfl⟩,_,⟨_,_,_,q4.of_eq k.1 k.2,?_,fun b=>Iff.rfl⟩,?_,?_⟩
         · rw [<-x.out,zay,aM.out,cw.out]
         · refine (j.out.fr.trans q2 fun b k e=>?_).trans J fun b k e=>?_
           · rcases v b (by
              rcases e with rfl | e
              · exact .inr (.inl rfl)
              exact .inr (.inr (.inr ⟨a,d,Q.out,.inl e⟩))) with e | e
             · exact e
             omega
           rcases v b (.inl e) with e | e
           · exact e
           omega
         intro b k
         rcases zbf Q.out q3 b k with e | e
         · exact v b e
         exact .inr (by omega)
       rw [if_neg hk0] at c
       obtain ⟨k1,k2,k3,k4,k5⟩:=s3 hh hk0;obtain ⟨z3,P,aq⟩:=zbk L k2;have cN:kidA A2 a (spotOf d.nd.pairs key)<Z2.length:=(List.getElem?_eq_some_iff.1 P).1;obtain ⟨e1,_,_,_⟩:=f.look _ z3 P;obtain ⟨dA,ci,aA,_,_,_⟩:=(f.pairs _ z3 P).shape;rw [aA] at e1;have bf:=(List.getElem?_eq_some_iff.1 k1).1;obtain ⟨kb,ko,rfl⟩:=ae (by omega);rw [M] at b2 hK;have cl:=hK.cell1 zah _ k1 rfl;have cU:(spotOf d.nd.pairs key:Int)<(d.nd.kids.length:Int):=(by omega);have dg:((d.nd.kids.length:Int)==0)=false:=(by simp;omega);have df:kb<wr.heap.size:=hK.lt kb rfl;have dN:=zbq d.nd.pairs key;rw [<-aq] at c k4 k5;have aF:=H_ k4;have aG:=H_ k5;have x:=H_ c
       clear c hh K M hP hK f p I V L af b1 b3 b4 s1 s3 HS hk0 k1 k2 k3 k4 k5 P aq aA bf d3 aU;generalize bu:kidA A2 a (spotOf d.nd.pairs key)=kid at *;have dP:=H_ bu;have dT:(kid:Int)<(Z2.length:Int):=(by omega);clear bu;by_cases h9:z3.nd.pairs.length=9
       · have aX:((z3.nd.pairs.length:Int)==9)=true:=by simp;omega
         have R:=x.out;rw [if_pos h9] at R;obtain ⟨bO,bm⟩:=aF.out h9;have ag:=H_ R;have bd:=H_ bO;have bp:=H_ bm;clear R bO bm x aF aG h9;generalize spotOf d.nd.pairs key=i at *
         go_upto_region 19 with (first
          | (go_at_call 157;refine r.mono ?_;clear r;rintro e w' ⟨rfl,rfl⟩))
         go_quiet (fail)
         have E:=Fr.drewN No wr nq;have u:=b6.out.fr0 E;generalize wr.drewN nq=W at E u ⊢
         have HQ:=H_ E;have S:=H_ u;clear E u;have ce:=bM.out
         go_wp2_with (first
          | (go_at_call 156;refine (zis _ t A2 o l many F2 S.out a i bd.out (by omega) ce).mono ?_;rintro e w4 ⟨rfl,F4,aa,ah,ab⟩))
         have aR:=H_ aa;have aW:=H_ ah;have b0:=H_ ab;clear aa ah ab;go_roundg q
         case rel =>
          have bN:=HQ.out.size;have bJ:=j.out.fr.size;refine ⟨splitA A2 o a i,o.dropLast,a,F4,rfl,H_ ⟨aR.out,(j.out.fr.trans0 HQ.out).trans aW.out fun b k e=>?_,fun b k=>?_⟩,bp,ag,H_ (by simp;omega)⟩
          · rcases j.out.new b e with e | e
            · exact e
            omega
          rcases b0.out b k with e | e
          · exact j.out.new b e
          exact .inr (by omega)
         case measure=>omega
       have aX:((z3.nd.pairs.length:Int)==9)=false:=by simp;omega
       have R:=x.out;rw [if_neg h9] at R;have ks:=aG.out h9;have ag:=H_ R;have c8:=H_ ks;clear R ks x aF aG h9;generalize spotOf d.nd.pairs key=i at *
       go_upto_region 19 with (first
        | (go_at_call 157;refine r.mono ?_;clear r;rintro e w' ⟨rfl,rfl⟩))
       go_quiet (fail)
       have E:=Fr.drewN No wr nq;have u:=b6.out.fr0 E;have c9:=E.cell0 b2;have bS:=E.cell0 cl;generalize wr.drewN nq=W at E u c9 bS ⊢
       have HQ:=H_ E;have S:=H_ u;clear E u;go_wp2_with fail;go_roundg q
       case rel =>
        exact ⟨A2,o,kid,F2,rfl,H_ ⟨S.out,j.out.fr.trans0 HQ.out,j.out.new⟩,c8,ag,bM⟩
       case measure=>omega
end Go.Proofs.YthljnnjpmdgkoaaGreat