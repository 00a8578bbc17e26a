/- Own lemmas. -/
import Derived.Test.YthljnnjpmdgkoaaGreatI02
namespace Go.Proofs.YthljnnjpmdgkoaaGreat
open Go Go.RowKit
def lendL (A:Arr) (at_ i:Nat):Arr :=
 ((A.set (kidA A at_ i) ⟨(ndA A at_).pairs.getD (i-1) default :: (ndA A (kidA A at_ i)).pairs,(ndA A (kidA A at_ (i-1))).kids.drop (ndA A (kidA A at_ (i-1))).pairs.length++(ndA A (kidA A at_ i)).kids⟩).set at_
   ⟨(ndA A at_).pairs.set (i-1) ((ndA A (kidA A at_ (i-1))).pairs.getD ((ndA A (kidA A at_ (i-1))).pairs.length-1) default),(ndA A at_).kids⟩).set (kidA A at_ (i-1))
   ⟨(ndA A (kidA A at_ (i-1))).pairs.take ((ndA A (kidA A at_ (i-1))).pairs.length-1),(ndA A (kidA A at_ (i-1))).kids.take (ndA A (kidA A at_ (i-1))).pairs.length⟩
def lendR (A:Arr) (at_ i:Nat):Arr :=
 ((A.set (kidA A at_ i) ⟨(ndA A (kidA A at_ i)).pairs++[(ndA A at_).pairs.getD i default],(ndA A (kidA A at_ i)).kids++(ndA A (kidA A at_ (i+1))).kids.take 1⟩).set at_
   ⟨(ndA A at_).pairs.set i ((ndA A (kidA A at_ (i+1))).pairs.getD 0 default),(ndA A at_).kids⟩).set (kidA A at_ (i+1))
   ⟨(ndA A (kidA A at_ (i+1))).pairs.drop 1,(ndA A (kidA A at_ (i+1))).kids.drop 1⟩
theorem zoo {A:Arr} {fr:List Nat} {d at_ a b:Nat} {P:Pairs} {K1 K2:List Nat} (h:Pt A fr (d+1) at_) (hn:ndA A at_=⟨P,K1++[a,b]++K2⟩):a≠at_/\b≠at_/\a≠b:=by
 have c:∀ j,(if at_=j then 1 else 0)+(if a=j then 1 else 0)+(if b=j then 1 else 0)<=1:=by
  intro j;have:=h.one j;rw [zcf hn] at this;simp only [List.count_cons,List.count_append,List.flatMap_cons,List.flatMap_nil,List.append_nil,beq_iff_eq] at this;have f:(own A d a).count j=(if a=j then 1 else 0)+(nidx A d (ndA A a)).count j:=(by unfold own;rw [List.count_cons];simp only [beq_iff_eq];omega);have g:(own A d b).count j=(if b=j then 1 else 0)+(nidx A d (ndA A b)).count j:=(by unfold own;rw [List.count_cons];simp only [beq_iff_eq];omega);omega
 refine ⟨fun e=>?_,fun e=>?_,fun e=>?_⟩
 · have:=c a;rw [if_pos e.symm,if_pos rfl] at this;omega
 · have:=c b;rw [if_pos e.symm,if_pos rfl] at this;omega
 have:=c b;rw [if_pos e,if_pos rfl] at this;omega
theorem zze {A:Arr} {fr:List Nat} {d at_ l k:Nat} {P1 P2:Pairs} {K1 K2:List Nat} {p:ByteArray×Int} (h:Pt A fr (d+1) at_) (hn:ndA A at_=⟨P1++[p]++P2,K1++[l,k]++K2⟩) (h1:K1.length=P1.length) (h2:K2.length=P2.length)
 (h5:5<=(ndA A l).pairs.length) (h8:(ndA A k).pairs.length<=8):∃ x,(ndA A l).pairs[(ndA A l).pairs.length-1]?=some x/\Step A fr (lendL A at_ (P1.length+1)) fr (d+1) at_/\trav (lendL A at_ (P1.length+1)) (d+1) at_=trav A (d+1) at_ ∧
   ndA (lendL A at_ (P1.length+1)) at_=⟨P1++[x]++P2,K1++[l,k]++K2⟩/\(ndA (lendL A at_ (P1.length+1)) k).pairs.length=(ndA A k).pairs.length+1/\(lendL A at_ (P1.length+1)).length=A.length ∧
   kidA A at_ P1.length=l/\kidA A at_ (P1.length+1)=k:=by
 obtain ⟨x,z⟩:∃ x,(ndA A l).pairs[(ndA A l).pairs.length-1]?=some x:=⟨_,List.getElem?_eq_getElem (by omega)⟩;have n:ndA A at_=⟨P1++[p]++P2,K1++l :: k :: K2⟩:=by rw [hn];simp
 have C:kidA A at_ P1.length=l:=by rw [<-h1];exact zfy n
 have D:kidA A at_ (P1.length+1)=k:=by rw [<-h1];exact zhs n
 obtain ⟨u,s,v⟩:=zoo h hn
 have m:∀ c,c=l\/c=k->c∈(ndA A at_).kids:=by
  intro c I;rw [hn];rcases I with rfl | rfl <;> simp
 obtain ⟨L,M,N,w⟩:=h.wf.2 l (m l (.inl rfl));obtain ⟨r,J,K,t⟩:=h.wf.2 k (m k (.inr rfl));have H:=h.lt
 have i:lendL A at_ (P1.length+1)=((A.set k ⟨p :: (ndA A k).pairs,(ndA A l).kids.drop (ndA A l).pairs.length++(ndA A k).kids⟩).set at_ ⟨P1++[x]++P2,K1++[l,k]++K2⟩).set l ⟨(ndA A l).pairs.take ((ndA A l).pairs.length-1),(ndA A l).kids.take (ndA A l).pairs.length⟩:=by
  unfold lendL;rw [Nat.add_sub_cancel,C,D,hn]
  congr 2
  · simp [List.getD]
  simp [List.getD,z]
 have E:ndA (lendL A at_ (P1.length+1)) at_=⟨P1++[x]++P2,K1++[l,k]++K2⟩:=by rw [i,zah _ u];exact zau _ (by simp;omega)
 have F:ndA (lendL A at_ (P1.length+1)) k=⟨p :: (ndA A k).pairs,(ndA A l).kids.drop (ndA A l).pairs.length++(ndA A k).kids⟩:=by
  rw [i,zah _ v,zah _ s.symm];exact zau _ r
 have O:ndA (lendL A at_ (P1.length+1)) l=⟨(ndA A l).pairs.take ((ndA A l).pairs.length-1),(ndA A l).kids.take (ndA A l).pairs.length⟩:=by rw [i];exact zau _ (by simp;omega)
 have P:∀ j,j≠at_->j≠l->j≠k->ndA (lendL A at_ (P1.length+1)) j=ndA A j:=by
  intro j a b c;rw [i,zah _ (Ne.symm b),zah _ (Ne.symm a),zah _ (Ne.symm c)]
 have G:(lendL A at_ (P1.length+1)).length=A.length:=by rw [i];simp
 generalize lendL A at_ (P1.length+1)=A' at *;have f:nWf A d ⟨(ndA A l).pairs,(ndA A l).kids⟩:=w;obtain ⟨w1,o⟩:=zfw d _ _ ((ndA A l).pairs.length-1) f (by omega);have e:=zej d _ _ _ x f z;rw [show (ndA A l).pairs.length-1+1=(ndA A l).pairs.length by omega] at w1 o e;rw [List.drop_length] at o e;have y:ntrav A d (ndA A l)=_:=e;have B:=Step.two (x:=x) h hn h1 h2 G E O F P w1 (zqv d [] _ p _ _ o t) (by simp;omega) (by simp;omega) (by simp;omega) (by simp;omega) (fun j=>?c1) ?c2 ?c3
 case c1 =>
  have g:nidx A d ⟨p :: (ndA A k).pairs,(ndA A l).kids.drop (ndA A l).pairs.length++(ndA A k).kids⟩=nidx A d ⟨[],(ndA A l).kids.drop (ndA A l).pairs.length⟩++nidx A d (ndA A k):=zdz d _ _ _ _ _
  have q:nidx A d (ndA A l)=nidx A d ⟨(ndA A l).pairs.take ((ndA A l).pairs.length-1),(ndA A l).kids.take (ndA A l).pairs.length⟩++nidx A d ⟨[],(ndA A l).kids.drop (ndA A l).pairs.length⟩:=by
   rw [<-zdz d _ _ (ndA A l).pairs,List.take_append_drop]
  rw [g,q,List.count_append,List.count_append];omega
 case c2 =>
  have g:nidx A d ⟨p :: (ndA A k).pairs,(ndA A l).kids.drop (ndA A l).pairs.length++(ndA A k).kids⟩=nidx A d ⟨[],(ndA A l).kids.drop (ndA A l).pairs.length⟩++nidx A d (ndA A k):=zdz d _ _ _ _ _
  have q:nidx A d (ndA A l)=nidx A d ⟨(ndA A l).pairs.take ((ndA A l).pairs.length-1),(ndA A l).kids.take (ndA A l).pairs.length⟩++nidx A d ⟨[],(ndA A l).kids.drop (ndA A l).pairs.length⟩:=by
   rw [<-zdz d _ _ (ndA A l).pairs,List.take_append_drop]
  rw [g,q,List.length_append,List.length_append];omega
 case c3 =>
  have g:ntrav A d ⟨p :: (ndA A k).pairs,(ndA A l).kids.drop (ndA A l).pairs.length++(ndA A k).kids⟩=ntrav A d ⟨[],(ndA A l).kids.drop (ndA A l).pairs.length⟩++p :: ntrav A d (ndA A k):=zfv d [] _ p _ _ o;rw [g,y];simp
 exact ⟨x,z,B.1,B.2,E,by rw [F];simp,G,C,D⟩
theorem zzd {A:Arr} {fr:List Nat} {d at_ k r:Nat} {P1 P2:Pairs} {K1 K2:List Nat} {p:ByteArray×Int} (h:Pt A fr (d+1) at_) (hn:ndA A at_=⟨P1++[p]++P2,K1++[k,r]++K2⟩) (h1:K1.length=P1.length) (h2:K2.length=P2.length)
 (h5:5<=(ndA A r).pairs.length) (h8:(ndA A k).pairs.length<=8):∃ x,(ndA A r).pairs[0]?=some x/\Step A fr (lendR A at_ P1.length) fr (d+1) at_/\trav (lendR A at_ P1.length) (d+1) at_=trav A (d+1) at_ ∧
   ndA (lendR A at_ P1.length) at_=⟨P1++[x]++P2,K1++[k,r]++K2⟩/\(ndA (lendR A at_ P1.length) k).pairs.length=(ndA A k).pairs.length+1/\(lendR A at_ P1.length).length=A.length ∧
   kidA A at_ P1.length=k/\kidA A at_ (P1.length+1)=r:=by
 obtain ⟨x,v⟩:∃ x,(ndA A r).pairs[0]?=some x:=⟨_,List.getElem?_eq_getElem (by omega)⟩;have m:ndA A at_=⟨P1++[p]++P2,K1++k :: r :: K2⟩:=by rw [hn];simp
 have B:kidA A at_ P1.length=k:=by rw [<-h1];exact zfy m
 have C:kidA A at_ (P1.length+1)=r:=by rw [<-h1];exact zhs m
 obtain ⟨o,s,q⟩:=zoo h hn
 have i:∀ c,c=k\/c=r->c∈(ndA A at_).kids:=by
  intro c J;rw [hn];rcases J with rfl | rfl <;> simp
 obtain ⟨n,K,L,l⟩:=h.wf.2 k (i k (.inl rfl));obtain ⟨M,N,O,t⟩:=h.wf.2 r (i r (.inr rfl));have I:=h.lt
 have g:lendR A at_ P1.length=((A.set k ⟨(ndA A k).pairs++[p],(ndA A k).kids++(ndA A r).kids.take 1⟩).set at_ ⟨P1++[x]++P2,K1++[k,r]++K2⟩).set r ⟨(ndA A r).pairs.drop 1,(ndA A r).kids.drop 1⟩:=by
  unfold lendR;rw [B,C,hn]
  congr 2
  · simp [List.getD]
  simp [List.getD,v]
 have D:ndA (lendR A at_ P1.length) at_=⟨P1++[x]++P2,K1++[k,r]++K2⟩:=by rw [g,zah _ s];exact zau _ (by simp;omega)
 have E:ndA (lendR A at_ P1.length) k=⟨(ndA A k).pairs++[p],(ndA A k).kids++(ndA A r).kids.take 1⟩:=by
  rw [g,zah _ q.symm,zah _ o.symm];exact zau _ n
 have P:ndA (lendR A at_ P1.length) r=⟨(ndA A r).pairs.drop 1,(ndA A r).kids.drop 1⟩:=by rw [g];exact zau _ (by simp;omega)
 have Q:∀ j,j≠at_->j≠k->j≠r->ndA (lendR A at_ P1.length) j=ndA A j:=by
  intro j a b c;rw [g,zah _ (Ne.symm c),zah _ (Ne.symm a),zah _ (Ne.symm b)]
 have F:(lendR A at_ P1.length).length=A.length:=by rw [g];simp
 generalize lendR A at_ P1.length=A' at *;have f:nWf A d ⟨(ndA A r).pairs,(ndA A r).kids⟩:=t;obtain ⟨w1,G⟩:=zfw d _ _ 0 f (by omega);have e:=zej d _ _ _ x f v;rw [Nat.zero_add] at w1 G e;rw [List.take_zero] at w1 e;have u:ntrav A d (ndA A r)=_:=e;have w:nidx A d ⟨(ndA A k).pairs++[p],(ndA A k).kids++(ndA A r).kids.take 1⟩=nidx A d (ndA A k)++nidx A d ⟨[],(ndA A r).kids.take 1⟩:=zdz d _ _ _ _ _
 have y:nidx A d (ndA A r)=nidx A d ⟨[],(ndA A r).kids.take 1⟩++nidx A d ⟨(ndA A r).pairs.drop 1,(ndA A r).kids.drop 1⟩:=by
  rw [<-zdz d _ _ (ndA A r).pairs,List.take_append_drop]
 have z:=Step.two (x:=x) h hn h1 h2 F D E P Q (zqv d _ _ p [] _ l w1) G (by simp;omega) (by simp;omega) (by simp;omega) (by simp;omega) (fun j=>?c1) ?c2 ?c3
 case c1 =>
  rw [w,y,List.count_append,List.count_append];omega
 case c2 =>
  rw [w,y,List.length_append,List.length_append];omega
 case c3 =>
  have H:ntrav A d ⟨(ndA A k).pairs++[p],(ndA A k).kids++(ndA A r).kids.take 1⟩=ntrav A d (ndA A k)++p :: ntrav A d ⟨[],(ndA A r).kids.take 1⟩:=zfv d _ _ p [] _ l;rw [H,u];simp
 exact ⟨x,v,z.1,z.2,D,by rw [E];simp,F,B,C⟩
def fillA (A:Arr) (fr:List Nat) (at_ i:Nat):Arr×List Nat :=
 if 4<(ndA A (kidA A at_ i)).pairs.length then (A,fr)
 else if 0<i/\4<(ndA A (kidA A at_ (i-1))).pairs.length then (lendL A at_ i,fr)
 else if i+1<(ndA A at_).kids.length then if 4<(ndA A (kidA A at_ (i+1))).pairs.length then (lendR A at_ i,fr) else (joinA A at_ i,fr++[kidA A at_ (i+1)])
 else (joinA A at_ (i-1),fr++[kidA A at_ i])
structure FillOk (A:Arr) (fr:List Nat) (d at_:Nat) (key:ByteArray) (r:Arr×List Nat):Prop where
 step:Step A fr r.1 r.2 (d+1) at_
 trav:trav r.1 (d+1) at_=trav A (d+1) at_
 lo:(ndA A at_).pairs.length<=(ndA r.1 at_).pairs.length+1
 hi:(ndA r.1 at_).pairs.length<=(ndA A at_).pairs.length
 kid:∃ k Q1 Q2 L1 L2,ndA r.1 at_=⟨Q1++[]++Q2,L1++[k]++L2⟩/\L1.length=Q1.length/\L2.length=Q2.length/\(∀ p∈Q1,klt p.1 key=true)/\(∀ p∈Q2,klt key p.1=true)/\5<=(ndA r.1 k).pairs.length
theorem zyl {Q1 Q2:Pairs} {key:ByteArray} (h1:∀ p∈Q1,klt p.1 key=true) (h2:∀ p∈Q2,klt key p.1=true):spotOf (Q1++Q2) key=Q1.length/\hitOf (Q1++Q2) key=false:=by
 have a:spotOf (Q1++Q2) key=Q1.length:=by
  unfold spotOf
  induction Q1 with
  | nil =>
    cases Q2 with
    | nil=>rfl
    | cons q Q2=>simp [List.findIdx_cons,zds (h2 q (by simp))]
  | cons q Q1 ih =>
    rw [List.cons_append,List.findIdx_cons,h1 q (by simp)];simp [ih fun p hp=>h1 p (by simp [hp])]
 refine ⟨a,?_⟩;unfold hitOf;rw [a];rw [List.getElem?_append_right (Nat.le_refl _),Nat.sub_self]
 cases Q2 with
 | nil=>rfl
 | cons q Q2 =>
   have:=klt_ne (h2 q (by simp));rw [zda] at this;exact this
theorem zcx {α:Type} {l:List α} (h:0<l.length):∃ (l':List α) (x:α),l=l'++[x]:=by
 have a:l≠[]:=by rintro rfl;simp at h
 exact ⟨l.dropLast,l.getLast a,(List.dropLast_concat_getLast a).symm⟩
theorem zzat {A:Arr} {fr:List Nat} {d at_ k:Nat} {P1 P2:Pairs} {K1 K2:List Nat} {key:ByteArray} (h:Pt A fr (d+1) at_) (hs:Sorted (trav A (d+1) at_)) (hn:ndA A at_=⟨P1++[]++P2,K1++[k]++K2⟩) (h1:K1.length=P1.length) (h2:K2.length=P2.length)
 (hb:∀ p∈P1,klt p.1 key=true) (ha:∀ p∈P2,klt key p.1=true) (hpos:1<=(ndA A at_).pairs.length):FillOk A fr d at_ key (fillA A fr at_ P1.length):=by
 have I:ndA A at_=⟨P1++P2,K1++k :: K2⟩:=by rw [hn];simp
 have q:kidA A at_ P1.length=k:=by rw [<-h1];exact zfy I
 have H:k∈(ndA A at_).kids:=by rw [hn];simp
 obtain ⟨R,S,T,U⟩:=h.wf.2 k H;by_cases c1:4<(ndA A k).pairs.length
 · have e:fillA A fr at_ P1.length=(A,fr):=by unfold fillA;rw [q,if_pos c1]
   rw [e];exact ⟨Step.refl h,rfl,by dsimp only;omega,Nat.le_refl _,k,P1,P2,K1,K2,hn,h1,h2,hb,ha,by dsimp only;omega⟩
 have Q:(ndA A k).pairs.length=4:=by omega
 by_cases c2:0<P1.length/\4<(ndA A (kidA A at_ (P1.length-1))).pairs.length
 · obtain ⟨C,D⟩:=c2
   have e:fillA A fr at_ P1.length=(lendL A at_ P1.length,fr):=(by unfold fillA;rw [q,if_neg c1,if_pos ⟨C,D⟩]);obtain ⟨b,p,rfl⟩:=zcx C;obtain ⟨g,l,rfl⟩:=zcx (l:=K1) (by simp at h1;omega);have a:ndA A at_=⟨b++[p]++P2,g++[l,k]++K2⟩:=(by rw [hn];simp);have c:g.length=b.length:=(by simpa using h1);have t:kidA A at_ b.length=l:=(by rw [<-c];exact zfy (P:=b++[p]++P2) (K2:=k :: K2) (by rw [a];simp));have f:(b++[p]).length=b.length+1:=(by simp);rw [f,Nat.add_sub_cancel,t] at D;obtain ⟨x,N,w,z,m,B,_⟩:=zze h a c h2 (by omega) (by omega);rw [e,f]
   have O:klt x.1 p.1=true:=by
    have M:=zbj (d:=d) a c h2 rfl;rw [M] at hs;have s:=hs.left.right;simp only [weave] at s;have u:l∈(ndA A at_).kids:=(by rw [a];simp);have v:x∈trav A d l:=(zhq d _ (h.wf.2 l u).2.2.2).subset (List.mem_of_getElem? N);exact s.cross x v p (by simp)
   refine ⟨w,z,by rw [m,a];simp,by rw [m,a];simp,k,b++[x],P2,g++[l],K2,by rw [m];simp,by simpa using c,h2,fun y n=>?_,ha,by rw [B];omega⟩;rcases List.mem_append.1 n with n | n
   · exact hb y (by simp [n])
   obtain rfl:y=x:=by simpa using n
   exact zcj O (hb p (by simp))
 have G:(ndA A at_).kids.length=P1.length+1+P2.length:=by rw [hn];simp;omega
 by_cases c3:P1.length+1<(ndA A at_).kids.length
 · obtain ⟨p,j,rfl⟩:∃ p j,P2=p :: j:=by
    cases P2 with
    | nil=>simp at G;omega
    | cons p P2=>exact ⟨p,P2,rfl⟩
   obtain ⟨r,i,rfl⟩:∃ r i,K2=r :: i:=by
    cases K2 with
    | nil=>simp at h2
    | cons r K2=>exact ⟨r,K2,rfl⟩
   have o:i.length=j.length:=(by simpa using h2);have a:ndA A at_=⟨P1++[p]++j,K1++[k,r]++i⟩:=(by rw [hn];simp);have E:kidA A at_ (P1.length+1)=r:=(by rw [<-h1];exact zhs (P:=P1++[p]++j) (K2:=i) (k:=k) (by rw [a];simp));have K:r∈(ndA A at_).kids:=(by rw [a];simp);obtain ⟨Z,a0,a1,L⟩:=h.wf.2 r K;by_cases c4:4<(ndA A r).pairs.length
   · have e:fillA A fr at_ P1.length=(lendR A at_ P1.length,fr):=by unfold fillA;rw [q,E,if_neg c1,if_neg c2,if_pos c3,if_pos c4]
     obtain ⟨x,N,w,z,m,B,_⟩:=zzd h a h1 o (by omega) (by omega);rw [e]
     have J:klt p.1 x.1=true:=by
      have M:=zbj (d:=d) a h1 o rfl;rw [M] at hs;have s:=hs.left.right;simp only [weave] at s;have v:x∈trav A d r:=(zhq d _ L).subset (List.mem_of_getElem? N);exact (List.pairwise_cons.1 s.right).1 x v
     refine ⟨w,z,by rw [m,a];simp,by rw [m,a];simp,k,P1,x :: j,K1,r :: i,by rw [m];simp,h1,by simpa using o,hb,fun y n=>?_,by rw [B];omega⟩;rcases List.mem_cons.1 n with rfl | n
     · exact zcj (ha p (by simp)) J
     exact ha y (by simp [n])
   have e:fillA A fr at_ P1.length=(joinA A at_ P1.length,fr++[r]):=by unfold fillA;rw [q,E,if_neg c1,if_neg c2,if_pos c3,if_neg c4]
   obtain ⟨w,z,m,B,_⟩:=zrd h a h1 o (by omega);rw [e];exact ⟨w,z,by rw [m,a];simp;omega,by rw [m,a];simp,k,P1,j,K1,i,m,h1,o,hb,fun y n=>ha y (by simp [n]),by rw [B];simp;omega⟩
 obtain rfl:P2 = []:=List.eq_nil_of_length_eq_zero (by omega)
 obtain rfl:K2 = []:=List.eq_nil_of_length_eq_zero (by simpa using h2);have F:0<P1.length:=(by rw [hn] at hpos;simp at hpos;omega);have e:fillA A fr at_ P1.length=(joinA A at_ (P1.length-1),fr++[k]):=(by unfold fillA;rw [q,if_neg c1,if_neg c2,if_neg c3]);obtain ⟨b,p,rfl⟩:=zcx F;obtain ⟨g,l,rfl⟩:=zcx (l:=K1) (by simp at h1;omega);have a:ndA A at_=⟨b++[p]++[],g++[l,k]++[]⟩:=(by rw [hn];simp);have c:g.length=b.length:=(by simpa using h1);have t:kidA A at_ b.length=l:=(by rw [<-c];exact zfy (P:=b++[p]++[]) (K2:=[k]) (by rw [a];simp));have f:(b++[p]).length=b.length+1:=(by simp);rw [f,Nat.add_sub_cancel,t] at c2;have u:l∈(ndA A at_).kids:=(by rw [a];simp);obtain ⟨V,W,X,Y⟩:=h.wf.2 l u
 obtain ⟨w,z,m,B,_⟩:=zrd h a c rfl (by omega);rw [e,f,Nat.add_sub_cancel];exact ⟨w,z,by rw [m,a];simp,by rw [m,a];simp,l,b,[],g,[],m,c,rfl,fun y n=>hb y (by simp [n]),by simp,by rw [B];simp;omega⟩
def lastOf {α:Type} (l:List α) (x:α):α:=l.getD (l.length-1) x
def endA:Nat->Arr->Nat->Bool->ByteArray×Int
 | 0,_,_,_=>default
 | g+1,A,at_,last =>
   if (ndA A at_).kids = [] then (if last then lastOf (ndA A at_).pairs default else (ndA A at_).pairs.getD 0 default)
   else endA g A (if last then lastOf (ndA A at_).kids 0 else (ndA A at_).kids.getD 0 0) last
def zfe:Nat->Arr->Nat->Bool->Prop
 | 0,_,_,_=>False
 | g+1,A,at_,last=>at_<A.length/\1<=(ndA A at_).pairs.length/\(ndA A at_).pairs.length<=9/\(ndA A at_).kids.length<=10 ∧
   ((ndA A at_).kids≠[]->zfe g A (if last then lastOf (ndA A at_).kids 0 else (ndA A at_).kids.getD 0 0) last)
theorem zkl {α:Type} (l:List α) (x y:α):lastOf (l++[x]) y=x:=by unfold lastOf;simp [List.getD]
theorem zto {A:Arr}:∀ (d g at_:Nat),d+1<=g->at_<A.length->nWf A d (ndA A at_)->1<=(ndA A at_).pairs.length->(ndA A at_).pairs.length<=9->(∃ I,trav A d at_=I++[endA g A at_ true])/\zfe g A at_ true
 | d,0,_,h,_,_,_,_=>by omega
 | 0,g+1,at_,_,hl,hw,h1,h9=>by
   have hk:(ndA A at_).kids = []:=hw;refine ⟨?_,hl,h1,h9,by rw [hk];simp,fun e=>absurd hk e⟩;obtain ⟨I,x,hI⟩:=zcx h1;refine ⟨I,?_⟩
   show (ndA A at_).pairs=_
   unfold endA;rw [if_pos hk,if_pos rfl,hI,zkl]
 | d+1,g+1,at_,hg,hl,hw,h1,h9=>by
   have hlen:(ndA A at_).kids.length=(ndA A at_).pairs.length+1:=hw.1;have hne:(ndA A at_).kids≠[]:=fun e=>by rw [e] at hlen;simp at hlen
   obtain ⟨K,k,hK⟩:=zcx (l:=(ndA A at_).kids) (by omega);have hkm:k∈(ndA A at_).kids:=(by rw [hK];simp);obtain ⟨a1,a2,a3,a4⟩:=hw.2 k hkm;have hlast:lastOf (ndA A at_).kids 0=k:=(by rw [hK,zkl]);obtain ⟨⟨I,hI⟩,hsafe⟩:=zto d g k (by omega) a1 a4 (by omega) a3;refine ⟨?_,hl,h1,h9,by omega,fun _=>by rw [if_pos rfl,hlast];exact hsafe⟩;have hn:ndA A at_=⟨(ndA A at_).pairs++[]++[],K++[k]++[]⟩:=(by rw [List.append_nil,List.append_nil,List.append_nil,<-hK]);rw [hK] at hlen;have ht:=zbj (d:=d) hn (by simpa using hlen) rfl rfl;refine ⟨lw (trav A d) K (ndA A at_).pairs++I,?_⟩;rw [ht];unfold endA;rw [if_neg hne,if_pos rfl,hlast];simp [weave,rwv,hI]
theorem zpy {A:Arr}:∀ (d g at_:Nat),d+1<=g->at_<A.length->nWf A d (ndA A at_)->1<=(ndA A at_).pairs.length->(ndA A at_).pairs.length<=9->(∃ I,trav A d at_=endA g A at_ false :: I)/\zfe g A at_ false
 | d,0,_,h,_,_,_,_=>by omega
 | 0,g+1,at_,_,hl,hw,h1,h9=>by
   have hk:(ndA A at_).kids = []:=hw;refine ⟨?_,hl,h1,h9,by rw [hk];simp,fun e=>absurd hk e⟩
   cases hp:(ndA A at_).pairs with
   | nil=>rw [hp] at h1;simp at h1
   | cons x I =>
     refine ⟨I,?_⟩
     show (ndA A at_).pairs=_
     unfold endA;rw [if_pos hk,if_neg (by decide),hp]
     rfl
 | d+1,g+1,at_,hg,hl,hw,h1,h9=>by
   have hlen:(ndA A at_).kids.length=(ndA A at_).pairs.length+1:=hw.1;have hne:(ndA A at_).kids≠[]:=fun e=>by rw [e] at hlen;simp at hlen
   obtain ⟨k,K,hK⟩:∃ k K,(ndA A at_).kids=k :: K:=by
    cases hk:(ndA A at_).kids with
    | nil=>exact absurd hk hne
    | cons k K=>exact ⟨k,K,rfl⟩
   have c:k∈(ndA A at_).kids:=(by rw [hK];simp);obtain ⟨f,o,i,j⟩:=hw.2 k c;have a:(ndA A at_).kids.getD 0 0=k:=(by rw [hK];rfl);obtain ⟨⟨I,l⟩,b⟩:=zpy d g k (by omega) f j (by omega) i;refine ⟨?_,hl,h1,h9,by omega,fun _=>by rw [if_neg (by decide),a];exact b⟩;have m:ndA A at_=⟨[]++[]++(ndA A at_).pairs,[]++[k]++K⟩:=(by rw [List.append_nil,List.nil_append,List.nil_append,List.singleton_append,<-hK]);rw [hK] at hlen;have n:=zbj (d:=d) m rfl (by simpa using hlen) rfl;refine ⟨I++rwv (trav A d) (ndA A at_).pairs K,?_⟩;rw [n];unfold endA;rw [if_neg hne,if_neg (by decide),a];simp [weave,lw,l]
def delA:Nat->Arr->List Nat->Nat->ByteArray->Arr×List Nat
 | 0,A,fr,_,_=>(A,fr)
 | g+1,A,fr,at_,key =>
   if (ndA A at_).kids = [] then (A.set at_ ⟨(ndA A at_).pairs.take (spotOf (ndA A at_).pairs key)++(ndA A at_).pairs.drop (spotOf (ndA A at_).pairs key+1),[]⟩,fr)
   else if hitOf (ndA A at_).pairs key=false then
    delA g (fillA A fr at_ (spotOf (ndA A at_).pairs key)).1 (fillA A fr at_ (spotOf (ndA A at_).pairs key)).2
     (kidA (fillA A fr at_ (spotOf (ndA A at_).pairs key)).1 at_ (spotOf (ndA (fillA A fr at_ (spotOf (ndA A at_).pairs key)).1 at_).pairs key)) key
   else if 4<(ndA A (kidA A at_ (spotOf (ndA A at_).pairs key))).pairs.length then
    delA g (A.set at_ ⟨(ndA A at_).pairs.set (spotOf (ndA A at_).pairs key) (endA g A (kidA A at_ (spotOf (ndA A at_).pairs key)) true),(ndA A at_).kids⟩) fr (kidA A at_ (spotOf (ndA A at_).pairs key)) (endA g A (kidA A at_ (spotOf (ndA A at_).pairs key)) true).1
   else if 4<(ndA A (kidA A at_ (spotOf (ndA A at_).pairs key+1))).pairs.length then
    delA g (A.set at_ ⟨(ndA A at_).pairs.set (spotOf (ndA A at_).pairs key) (endA g A (kidA A at_ (spotOf (ndA A at_).pairs key+1)) false),(ndA A at_).kids⟩) fr (kidA A at_ (spotOf (ndA A at_).pairs key+1)) (endA g A (kidA A at_ (spotOf (ndA A at_).pairs key+1)) false).1
   else delA g (joinA A at_ (spotOf (ndA A at_).pairs key)) (fr++[kidA A at_ (spotOf (ndA A at_).pairs key+1)]) (kidA A at_ (spotOf (ndA A at_).pairs key)) key
def zfh:Nat->Arr->List Nat->Nat->ByteArray->Prop
 | 0,_,_,_,_=>False
 | g+1,A,fr,at_,key =>
   at_<A.length/\(ndA A at_).pairs.length<=9 ∧
   ((ndA A at_).kids = []->spotOf (ndA A at_).pairs key<(ndA A at_).pairs.length) ∧
   ((ndA A at_).kids≠[]->zbw A fr at_/\1<=(ndA A at_).pairs.length ∧
     (hitOf (ndA A at_).pairs key=false →
       zbw (fillA A fr at_ (spotOf (ndA A at_).pairs key)).1 (fillA A fr at_ (spotOf (ndA A at_).pairs key)).2 at_ ∧
       hitOf (ndA (fillA A fr at_ (spotOf (ndA A at_).pairs key)).1 at_).pairs key=false ∧
       zfh g (fillA A fr at_ (spotOf (ndA A at_).pairs key)).1 (fillA A fr at_ (spotOf (ndA A at_).pairs key)).2
        (kidA (fillA A fr at_ (spotOf (ndA A at_).pairs key)).1 at_ (spotOf (ndA (fillA A fr at_ (spotOf (ndA A at_).pairs key)).1 at_).pairs key)) key) ∧
     (hitOf (ndA A at_).pairs key=true->4<(ndA A (kidA A at_ (spotOf (ndA A at_).pairs key))).pairs.length →
       zfe g A (kidA A at_ (spotOf (ndA A at_).pairs key)) true ∧
       zfh g (A.set at_ ⟨(ndA A at_).pairs.set (spotOf (ndA A at_).pairs key) (endA g A (kidA A at_ (spotOf (ndA A at_).pairs key)) true),(ndA A at_).kids⟩) fr (kidA A at_ (spotOf (ndA A at_).pairs key)) (endA g A (kidA A at_ (spotOf (ndA A at_).pairs key)) true).1) ∧
     (hitOf (ndA A at_).pairs key=true->¬ 4<(ndA A (kidA A at_ (spotOf (ndA A at_).pairs key))).pairs.length->4<(ndA A (kidA A at_ (spotOf (ndA A at_).pairs key+1))).pairs.length →
       zfe g A (kidA A at_ (spotOf (ndA A at_).pairs key+1)) false ∧
       zfh g (A.set at_ ⟨(ndA A at_).pairs.set (spotOf (ndA A at_).pairs key) (endA g A (kidA A at_ (spotOf (ndA A at_).pairs key+1)) false),(ndA A at_).kids⟩) fr (kidA A at_ (spotOf (ndA A at_).pairs key+1)) (endA g A (kidA A at_ (spotOf (ndA A at_).pairs key+1)) false).1) ∧
     (hitOf (ndA A at_).pairs key=true->¬ 4<(ndA A (kidA A at_ (spotOf (ndA A at_).pairs key))).pairs.length->¬ 4<(ndA A (kidA A at_ (spotOf (ndA A at_).pairs key+1))).pairs.length →
       zfh g (joinA A at_ (spotOf (ndA A at_).pairs key)) (fr++[kidA A at_ (spotOf (ndA A at_).pairs key+1)]) (kidA A at_ (spotOf (ndA A at_).pairs key)) key))
structure DelOk (g:Nat) (A:Arr) (fr:List Nat) (d at_:Nat) (key:ByteArray):Prop where
 step:Step A fr (delA g A fr at_ key).1 (delA g A fr at_ key).2 d at_
 trav:trav (delA g A fr at_ key).1 d at_=delT (trav A d at_) key
 lo:(ndA A at_).pairs.length<=(ndA (delA g A fr at_ key).1 at_).pairs.length+1
 hi:(ndA (delA g A fr at_ key).1 at_).pairs.length<=9
 safe:zfh g A fr at_ key
theorem ztq (key:ByteArray) (L M R:Pairs) (hL:∀ q∈L,klt q.1 key=true) (hR:∀ q∈R,klt key q.1=true):delT (L++M++R) key=L++delT M key++R:=by
 unfold delT;have a:L.filter (fun p=>!keq p.1 key)=L:=List.filter_eq_self.2 fun q hq=>by rw [klt_ne (hL q hq)];rfl
 have b:R.filter (fun p=>!keq p.1 key)=R:=List.filter_eq_self.2 fun q hq=>by rw [zda,klt_ne (hR q hq)];rfl
 rw [List.filter_append,List.filter_append,a,b]
theorem zgl (key:ByteArray) (m:Int) (L R:Pairs) (hL:∀ q∈L,klt q.1 key=true) (hR:∀ q∈R,klt key q.1=true):delT (L++(key,m) :: R) key=L++R:=by
 have:=ztq key L [(key,m)] R hL hR;rw [List.append_assoc,List.singleton_append] at this;rw [this];simp [delT,zas.2 rfl]
theorem zmk {T:Pairs} (hT:Sorted T) {key:ByteArray} (h:(getT T key).2=true):hitOf T key=true:=by
 rw [znr T hT] at h
 cases hh:hitOf T key with
 | true=>rfl
 | false=>rw [hh] at h;simp at h
theorem zex {A:Arr} {d at_ k:Nat} {P:Pairs} {K1 K2:List Nat} (hn:ndA A at_=⟨P,K1++[k]++K2⟩):(own A d k).length<(own A (d+1) at_).length:=by
 rw [zcf hn];simp;omega
theorem zwz (f:Nat->Pairs):∀ (K:List Nat) (P:Pairs) (l:Nat) (x:ByteArray×Int),K.length=P.length->lw f (K++[l]) (P++[x])=lw f K P++f l++[x]
 | [],[],l,x,_=>by simp [lw]
 | [],_ :: _,_,_,h=>by simp at h
 | _ :: _,[],_,_,h=>by simp at h
 | k :: K,p :: P,l,x,h=>by simp [lw,zwz f K P l x (by simpa using h)]
theorem zld:∀ (d g:Nat) (A:Arr) (fr:List Nat) (at_:Nat) (key:ByteArray),d+1<=g->Pt A fr d at_->Sorted (trav A d at_)->(getT (trav A d at_) key).2=true->(d=0\/1<=(ndA A at_).pairs.length)->(ndA A at_).pairs.length<=9 →
 (own A d at_).length+fr.length<=A.length->DelOk g A fr d at_ key
 | d,0,_,_,_,_,h,_,_,_,_,_,_=>by omega
 | 0,g+1,A,fr,at_,key,_,h,hs,hget,_,h9,hc=>by
   have hk:(ndA A at_).kids = []:=h.wf;have hs':Sorted (ndA A at_).pairs:=hs;have hhit:hitOf (ndA A at_).pairs key=true:=zmk hs' hget;obtain ⟨m,hm⟩:=hit_at hhit;have hil:=(List.getElem?_eq_some_iff.1 hm).1;have hset:delA (g+1) A fr at_ key=(A.set at_ ⟨(ndA A at_).pairs.take (spotOf (ndA A at_).pairs key)++(ndA A at_).pairs.drop (spotOf (ndA A at_).pairs key+1),(ndA A at_).kids⟩,fr):=(by simp [delA,hk]);obtain ⟨hst,htr⟩:=zef h ((ndA A at_).pairs.take (spotOf (ndA A at_).pairs key)++(ndA A at_).pairs.drop (spotOf (ndA A at_).pairs key+1)) (.inl rfl);refine ⟨by rw [hset];exact hst,?_,?_,?_,h.lt,h9,fun _=>hil,fun e=>absurd hk e⟩
   · rw [hset]
     dsimp only;rw [htr]
     show (ndA A at_).pairs.take _++(ndA A at_).pairs.drop _=delT (ndA A at_).pairs key
     have e:(ndA A at_).pairs=(ndA A at_).pairs.take (spotOf (ndA A at_).pairs key)++(key,m) :: (ndA A at_).pairs.drop (spotOf (ndA A at_).pairs key+1):=by
      have:=List.take_append_drop (spotOf (ndA A at_).pairs key) (ndA A at_).pairs;rw [List.drop_eq_getElem_cons hil,(List.getElem?_eq_some_iff.1 hm).2] at this;exact this.symm
     have hb:=zer (T:=(ndA A at_).pairs) (key:=key);generalize spotOf (ndA A at_).pairs key=i at *;have F:Sorted ((ndA A at_).pairs.take i++(key,m) :: (ndA A at_).pairs.drop (i+1)):=(by rw [<-e];exact hs')
     conv=>rhs;rw [e]
     rw [zgl key m _ _ hb fun q hq=>(List.pairwise_cons.1 F.right).1 q hq]
   · rw [hset];dsimp only;rw [zau _ h.lt];simp;omega
   rw [hset];dsimp only;rw [zau _ h.lt];simp;omega
 | d+1,g+1,A,fr,at_,key,hg,h,hs,hget,h01,h9,hc=>by
   have y:1<=(ndA A at_).pairs.length:=(by rcases h01 with e | e <;> omega);have hl:(ndA A at_).kids.length=(ndA A at_).pairs.length+1:=h.wf.1;have w:(ndA A at_).kids≠[]:=fun e=>by rw [e] at hl;simp at hl
   have n:=h.safe h9 hc
   cases hh:hitOf (ndA A at_).pairs key with
   | false =>
     obtain ⟨k,K1,K2,P1,P2,o,M,h2,aJ,b3,b0,hb,ha⟩:=down h.wf hs hh;have hF:=zzat h hs o M h2 hb ha y;rw [aJ] at hF
     have hset:delA (g+1) A fr at_ key=delA g (fillA A fr at_ (spotOf (ndA A at_).pairs key)).1 (fillA A fr at_ (spotOf (ndA A at_).pairs key)).2
      (kidA (fillA A fr at_ (spotOf (ndA A at_).pairs key)).1 at_ (spotOf (ndA (fillA A fr at_ (spotOf (ndA A at_).pairs key)).1 at_).pairs key)) key:=by
      show delA (g+1) A fr at_ key=_
      rw [delA,if_neg w,if_pos hh]
     have O:=hF.step.cover;generalize hr:fillA A fr at_ (spotOf (ndA A at_).pairs key)=r at *;obtain ⟨f,ay⟩:=r;dsimp only at *;obtain ⟨k',Q1,Q2,L1,L2,B,g1,g2,ak,aj,h5⟩:=hF.kid;dsimp only at B h5;have J:=hF.step;have X:=hF.trav;have a2:=hF.lo;have al:=hF.hi;dsimp only at J X a2 al;obtain ⟨e1,e2⟩:=zyl ak aj;have aq:(ndA f at_).pairs=Q1++Q2:=(by rw [B];simp)
     have s:kidA f at_ (spotOf (ndA f at_).pairs key)=k':=by
      rw [aq,e1,<-g1];exact zfy (P:=Q1++[]++Q2) (K2:=L2) (by rw [B];simp)
     have L:Sorted (trav f (d+1) at_):=(by rw [X];exact hs);obtain ⟨ht,aI,ap,au⟩:=zgx B g1 g2 L ak aj;have an:k'∈(ndA f at_).kids:=(by rw [B];simp);obtain ⟨aY,aZ,aD,b4⟩:=J.pt.wf.2 k' an;have V:(own f d k').length<(own f (d+1) at_).length:=zex B;have p:=zld d g f ay k' key (by omega) (J.pt.kid an) aI (by rw [<-X,ht,znq key _ _ _ ap au] at hget;exact hget) (.inr (by omega)) aD (by omega);obtain ⟨s1,W,s3⟩:=Step.kid J.pt B g1 g2 p.step (by have:=p.lo;omega) p.hi;refine ⟨by rw [hset,s];exact J.trans s1,?_,?_,?_,h.lt,h9,fun e=>absurd e w,fun _=>⟨n,y,fun _=>?_,fun e=>?_,fun e=>?_,fun e=>?_⟩⟩
     · rw [hset,s,s3,p.trav,<-X,ht,ztq key _ _ _ ap au]
     · rw [hset,s,W];exact a2
     · rw [hset,s,W];omega
     · rw [hr]
       dsimp only;refine ⟨J.pt.safe (by omega) (by omega),by rw [aq];exact e2,by rw [s];exact p.safe⟩
     all_goals rw [hh] at e;cases e
   | true =>
     obtain ⟨m,hm⟩:=hit_at hh;have hil:=(List.getElem?_eq_some_iff.1 hm).1
     -- the node parted at the key
     obtain ⟨P1,P2,K1,K2,l,r,o,M,h2,hi⟩:∃ P1 P2 K1 K2 l r,ndA A at_=⟨P1++[(key,m)]++P2,K1++[l,r]++K2⟩/\K1.length=P1.length/\K2.length=P2.length/\spotOf (ndA A at_).pairs key=P1.length:=by
      generalize b6:ndA A at_=nd at *;obtain ⟨P,K⟩:=nd;dsimp only at *;generalize spotOf P key=i at *;refine ⟨P.take i,P.drop (i+1),K.take i,K.drop (i+2),K[i],K[i+1],?_,by simp;omega,by simp;omega,by simp;omega⟩
      have e1:P.take i++[(key,m)]++P.drop (i+1)=P:=by
       have:=List.take_append_drop i P;rw [List.drop_eq_getElem_cons hil,(List.getElem?_eq_some_iff.1 hm).2] at this;simpa using this
      have e2:K.take i++[K[i],K[i+1]]++K.drop (i+2)=K:=by
       have:=List.take_append_drop i K;rw [List.drop_eq_getElem_cons (by omega),List.drop_eq_getElem_cons (by omega)] at this;simp
      rw [e1,e2]
     have t:kidA A at_ (spotOf (ndA A at_).pairs key)=l:=(by rw [hi,<-M];exact zfy (P:=P1++[(key,m)]++P2) (K2:=r :: K2) (by rw [o];simp));have D:kidA A at_ (spotOf (ndA A at_).pairs key+1)=r:=(by rw [hi,<-M];exact zhs (P:=P1++[(key,m)]++P2) (K2:=K2) (k:=l) (by rw [o];simp));have z:l∈(ndA A at_).kids:=(by rw [o];simp);have E:r∈(ndA A at_).kids:=(by rw [o];simp);obtain ⟨aE,b5,ao,aF⟩:=h.wf.2 l z;obtain ⟨aG,ba,ar,aH⟩:=h.wf.2 r E;have ht:=zbj (d:=d) o M h2 rfl;have a9:trav A (d+1) at_=(lw (trav A d) K1 P1++trav A d l)++(key,m) :: (trav A d r++rwv (trav A d) P2 K2):=(by rw [ht];simp [weave]);have F:=hs;rw [a9] at F;have N:∀ q∈lw (trav A d) K1 P1++trav A d l,klt q.1 key=true:=fun q hq=>F.cross q hq (key,m) (by simp)
     have a1:∀ q∈trav A d r++rwv (trav A d) P2 K2,klt key q.1=true:=fun q hq=>(List.pairwise_cons.1 F.right).1 q hq;have Q:delT (trav A (d+1) at_) key=(lw (trav A d) K1 P1++trav A d l)++(trav A d r++rwv (trav A d) P2 K2):=(by rw [a9,zgl key m _ _ N a1]);have a7:Sorted (trav A d l):=F.left.right;have a8:Sorted (trav A d r):=(F.right.sub (List.sublist_cons_self _ _)).left;have b7:ndA A at_=⟨P1++[]++((key,m) :: P2),K1++[l]++(r :: K2)⟩:=(by rw [o];simp);have b8:ndA A at_=⟨(P1++[(key,m)])++[]++P2,(K1++[l])++[r]++K2⟩:=(by rw [o];simp);have v:∀ x,(ndA A at_).pairs.set (spotOf (ndA A at_).pairs key) x=P1++[x]++P2:=(by intro x;rw [hi,o];simp);have S:(ndA A at_).kids=K1++[l,r]++K2:=(by rw [o]);by_cases c1:4<(ndA A l).pairs.length
     · obtain ⟨⟨I,hI⟩,a5⟩:=zto d g l (by omega) aE aF (by omega) ao
       have hset:delA (g+1) A fr at_ key=delA g (A.set at_ ⟨P1++[endA g A l true]++P2,(ndA A at_).kids⟩) fr l (endA g A l true).1:=by
        rw [delA,if_neg w,if_neg (by rw [hh];simp),t,if_pos c1,v]
       obtain ⟨hst,htr⟩:=zef h (P1++[endA g A l true]++P2) (.inr (by rw [o];simp));have u:ndA (A.set at_ ⟨P1++[endA g A l true]++P2,(ndA A at_).kids⟩) at_=⟨P1++[endA g A l true]++P2,(ndA A at_).kids⟩:=zau _ h.lt;have a:∀ c,c∈(ndA A at_).kids->ndA (A.set at_ ⟨P1++[endA g A l true]++P2,(ndA A at_).kids⟩) c=ndA A c:=fun c hc=>zah _ (n.kid c hc).2.1.symm
       have b:∀ c,c∈(ndA A at_).kids->trav (A.set at_ ⟨P1++[endA g A l true]++P2,(ndA A at_).kids⟩) d c=trav A d c:=by
        intro c hc;refine (zei (by simp) fun j hj=>zah _ fun e=>?_).2.2.1;have h3:=h.one at_;have h4:0<(nidx A (d+1) (ndA A at_)).count at_:=List.count_pos_iff.2 (List.mem_flatMap.2 ⟨c,hc,by rw [e];exact hj⟩);unfold own at h3;simp only [List.count_cons,beq_self_eq_true,if_true] at h3;omega
       have O:=hst.cover;generalize aa:endA g A l true=x at *;generalize H:A.set at_ ⟨P1++[x]++P2,(ndA A at_).kids⟩=f at *;rw [S] at u;have C:ndA f at_=⟨P1++[]++(x :: P2),K1++[l]++(r :: K2)⟩:=(by rw [u];simp);have G:l∈(ndA f at_).kids:=(by rw [C];simp);have V:(own f d l).length<(own f (d+1) at_).length:=zex C;have Z:∀ q∈I,klt q.1 x.1=true:=by rw [hI] at a7;exact fun q hq=>a7.cross q hq x (by simp)
       have R:getT (trav A d l) x.1=(x.2,true):=(by rw [hI];exact zht x.1 x.2 I [] Z);have p:=zld d g f fr l x.1 (by omega) (hst.pt.kid G) (by rw [b l z];exact a7) (by rw [b l z,R]) (.inr (by rw [a l z];omega)) (by rw [a l z];exact ao) (by omega);obtain ⟨s1,W,s3⟩:=Step.kid hst.pt C M (by simpa using h2) p.step (by have:=p.lo;rw [a l z] at this;omega) p.hi;refine ⟨by rw [hset];exact hst.trans s1,?_,?_,?_,h.lt,h9,fun e=>absurd e w,fun _=>⟨n,y,fun e=>?_,fun _ _=>?_,fun _ e=>?_,fun _ e=>?_⟩⟩
       · have a4:delT (I++[x]) x.1=I:=by have:=zgl x.1 x.2 I [] Z (by simp);rwa [List.append_nil] at this
         rw [hset,s3,p.trav,b l z,Q,hI,a4];rw [zgi K1 P1 fun c hc=>b c (by rw [o];simp [hc]),zeh (x :: P2) (r :: K2) (g:=trav A d) fun c hc=>b c (by rw [o];simp at hc ⊢;rcases hc with hc | hc <;> simp [hc])];simp [rwv]
       · rw [hset,W,u,o];simp
       · rw [hset,W,u];have:=h9;rw [o] at this;simpa using this
       · rw [hh] at e;cases e
       · rw [t,aa,v,H];exact ⟨a5,p.safe⟩
       · rw [t] at e;exact absurd c1 e
       rw [t] at e;exact absurd c1 e
     by_cases c2:4<(ndA A r).pairs.length
     · obtain ⟨⟨I,hI⟩,a5⟩:=zpy d g r (by omega) aG aH (by omega) ar
       have hset:delA (g+1) A fr at_ key=delA g (A.set at_ ⟨P1++[endA g A r false]++P2,(ndA A at_).kids⟩) fr r (endA g A r false).1:=by
        rw [delA,if_neg w,if_neg (by rw [hh];simp),t,D,if_neg c1,if_pos c2,v]
       obtain ⟨hst,htr⟩:=zef h (P1++[endA g A r false]++P2) (.inr (by rw [o];simp));have u:ndA (A.set at_ ⟨P1++[endA g A r false]++P2,(ndA A at_).kids⟩) at_=⟨P1++[endA g A r false]++P2,(ndA A at_).kids⟩:=zau _ h.lt;have a:∀ c,c∈(ndA A at_).kids->ndA (A.set at_ ⟨P1++[endA g A r false]++P2,(ndA A at_).kids⟩) c=ndA A c:=fun c hc=>zah _ (n.kid c hc).2.1.symm
       have b:∀ c,c∈(ndA A at_).kids->trav (A.set at_ ⟨P1++[endA g A r false]++P2,(ndA A at_).kids⟩) d c=trav A d c:=by
        intro c hc;refine (zei (by simp) fun j hj=>zah _ fun e=>?_).2.2.1;have h3:=h.one at_;have h4:0<(nidx A (d+1) (ndA A at_)).count at_:=List.count_pos_iff.2 (List.mem_flatMap.2 ⟨c,hc,by rw [e];exact hj⟩);unfold own at h3;simp only [List.count_cons,beq_self_eq_true,if_true] at h3;omega
       have O:=hst.cover;generalize aa:endA g A r false=x at *;generalize H:A.set at_ ⟨P1++[x]++P2,(ndA A at_).kids⟩=f at *;rw [S] at u;have C:ndA f at_=⟨(P1++[x])++[]++P2,(K1++[l])++[r]++K2⟩:=(by rw [u];simp);have av:r∈(ndA f at_).kids:=(by rw [C];simp);have V:(own f d r).length<(own f (d+1) at_).length:=zex C;have Z:∀ q∈I,klt x.1 q.1=true:=by rw [hI] at a8;exact fun q hq=>(List.pairwise_cons.1 a8).1 q hq
       have R:getT (trav A d r) x.1=(x.2,true):=(by rw [hI];exact zht x.1 x.2 [] I (by simp));have p:=zld d g f fr r x.1 (by omega) (hst.pt.kid av) (by rw [b r E];exact a8) (by rw [b r E,R]) (.inr (by rw [a r E];omega)) (by rw [a r E];exact ar) (by omega);obtain ⟨s1,W,s3⟩:=Step.kid hst.pt C (by simpa using M) h2 p.step (by have:=p.lo;rw [a r E] at this;omega) p.hi;refine ⟨by rw [hset];exact hst.trans s1,?_,?_,?_,h.lt,h9,fun e=>absurd e w,fun _=>⟨n,y,fun e=>?_,fun _ e=>?_,fun _ _ _=>?_,fun _ _ e=>?_⟩⟩
       · have a4:delT (x :: I) x.1=I:=zgl x.1 x.2 [] I (by simp) Z
         rw [hset,s3,p.trav,b r E,Q,hI,a4];rw [zgi (g:=trav A d) (K1++[l]) (P1++[x]) fun c hc=>b c (by rw [o];simp at hc ⊢;rcases hc with hc | hc <;> simp [hc]),zeh P2 K2 fun c hc=>b c (by rw [o];simp [hc])];rw [zwz _ K1 P1 l x M];simp
       · rw [hset,W,u,o];simp
       · rw [hset,W,u];have:=h9;rw [o] at this;simpa using this
       · rw [hh] at e;cases e
       · rw [t] at e;exact absurd e c1
       · rw [D,aa,v,H];exact ⟨a5,p.safe⟩
       rw [D] at e;exact absurd c2 e
     obtain ⟨q1,q2,q3,q4,_⟩:=zrd h o M h2 (by omega)
     have hset:delA (g+1) A fr at_ key=delA g (joinA A at_ P1.length) (fr++[r]) l key:=by
      rw [delA,if_neg w,if_neg (by rw [hh];simp),t,D,if_neg c1,if_neg c2,hi]
     have O:=q1.cover;generalize H:joinA A at_ P1.length=f at *;have G:l∈(ndA f at_).kids:=(by rw [q3];simp);have V:(own f d l).length<(own f (d+1) at_).length:=zex q3;have Y:=zbj (d:=d) q3 M h2 rfl;have L:Sorted (trav f (d+1) at_):=(by rw [q2];exact hs);rw [Y] at L;simp only [weave] at L Y;obtain ⟨bb,bc,aK,_⟩:=q1.pt.wf.2 l G
     have b:∀ c,c∈K1\/c∈K2->trav f d c=trav A d c:=by
      intro c hc;have aW:c∈(ndA A at_).kids:=(by rw [o];rcases hc with hc | hc <;> simp [hc]);refine (zei (by have:=q1.len;omega) fun j hj=>?_).2.2.1;have U:=h.one j;rw [zcf o] at U;simp only [List.count_cons,List.count_append,List.flatMap_cons,List.flatMap_nil,List.append_nil,beq_iff_eq] at U
      have aX:0<(K1.flatMap (own A d)).count j\/0<(K2.flatMap (own A d)).count j:=by
       rcases hc with hc | hc
       · exact .inl (List.count_pos_iff.2 (List.mem_flatMap.2 ⟨c,hc,hj⟩))
       exact .inr (List.count_pos_iff.2 (List.mem_flatMap.2 ⟨c,hc,hj⟩))
      have e1:(own A d l).count j=(if l=j then 1 else 0)+(nidx A d (ndA A l)).count j:=(by unfold own;rw [List.count_cons];simp only [beq_iff_eq];omega);have e2:(own A d r).count j=(if r=j then 1 else 0)+(nidx A d (ndA A r)).count j:=(by unfold own;rw [List.count_cons];simp only [beq_iff_eq];omega);have am:at_≠j:=fun e=>by rw [if_pos e] at U;omega
      have aB:l≠j:=fun e=>by rw [if_pos e] at e1;omega
      have aC:r≠j:=fun e=>by rw [if_pos e] at e2;omega
      rw [<-H];have k1:kidA A at_ P1.length=l:=(by rw [<-hi];exact t);have k2:kidA A at_ (P1.length+1)=r:=(by rw [<-hi];exact D);unfold joinA;rw [k1,k2,zah _ aC,zah _ am,zah _ aB]
     rw [zgi K1 P1 fun c hc=>b c (.inl hc),zeh P2 K2 fun c hc=>b c (.inr hc)] at Y L
     have hM:trav f d l=trav A d l++(key,m) :: trav A d r:=by
      have e:=Y.symm.trans (q2.trans a9);have e':lw (trav A d) K1 P1++(trav f d l++rwv (trav A d) P2 K2)=lw (trav A d) K1 P1++((trav A d l++(key,m) :: trav A d r)++rwv (trav A d) P2 K2):=(by simpa using e);exact List.append_cancel_right (List.append_cancel_left e')
     have R:getT (trav f d l) key=(m,true):=by rw [hM];exact zht key m _ _ fun q hq=>N q (by simp [hq])
     have p:=zld d g f (fr++[r]) l key (by omega) (q1.pt.kid G) L.left.right (by rw [R]) (.inr (by omega)) aK (by omega);obtain ⟨s1,W,s3⟩:=Step.kid q1.pt q3 M h2 p.step (by have:=p.lo;rw [q4] at this;simp at this;omega) p.hi;refine ⟨by rw [hset];exact q1.trans s1,?_,?_,?_,h.lt,h9,fun e=>absurd e w,fun _=>⟨n,y,fun e=>?_,fun _ e=>?_,fun _ _ e=>?_,fun _ _ _=>?_⟩⟩
     · rw [hset,s3,p.trav,hM,zgl key m _ _ (fun q hq=>N q (by simp [hq])) (fun q hq=>a1 q (by simp [hq])),Q]
       rw [zgi K1 P1 fun c hc=>b c (.inl hc),zeh P2 K2 fun c hc=>b c (.inr hc)];simp
     · rw [hset,W,q3,o];simp;omega
     · rw [hset,W,q3];have:=h9;rw [o] at this;simp at this;simp;omega
     · rw [hh] at e;cases e
     · rw [t] at e;exact absurd e c1
     · rw [D] at e;exact absurd e c2
     rw [t,D,hi,H];exact p.safe
end Go.Proofs.YthljnnjpmdgkoaaGreat