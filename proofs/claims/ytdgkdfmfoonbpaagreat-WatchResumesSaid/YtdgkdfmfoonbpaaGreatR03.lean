/- Own lemmas. -/
import Derived.Test.YtdgkdfmfoonbpaaGreatR02
namespace Go.Proofs.YtdgkdfmfoonbpaaGreat
open Go Go.RowKit
def lendL (A:Arr) (at_ i:Nat):Arr :=
 ((A.set (kidA A at_ i) ⟨(ndA A at_).pairs.getD (i-1) default :: (ndA A (kidA A at_ i)).pairs,(ndA A (kidA A at_ (i-1))).kids.drop (ndA A (kidA A at_ (i-1))).pairs.length++(ndA A (kidA A at_ i)).kids⟩).set at_
   ⟨(ndA A at_).pairs.set (i-1) ((ndA A (kidA A at_ (i-1))).pairs.getD ((ndA A (kidA A at_ (i-1))).pairs.length-1) default),(ndA A at_).kids⟩).set (kidA A at_ (i-1))
   ⟨(ndA A (kidA A at_ (i-1))).pairs.take ((ndA A (kidA A at_ (i-1))).pairs.length-1),(ndA A (kidA A at_ (i-1))).kids.take (ndA A (kidA A at_ (i-1))).pairs.length⟩
def lendR (A:Arr) (at_ i:Nat):Arr :=
 ((A.set (kidA A at_ i) ⟨(ndA A (kidA A at_ i)).pairs++[(ndA A at_).pairs.getD i default],(ndA A (kidA A at_ i)).kids++(ndA A (kidA A at_ (i+1))).kids.take 1⟩).set at_
   ⟨(ndA A at_).pairs.set i ((ndA A (kidA A at_ (i+1))).pairs.getD 0 default),(ndA A at_).kids⟩).set (kidA A at_ (i+1))
   ⟨(ndA A (kidA A at_ (i+1))).pairs.drop 1,(ndA A (kidA A at_ (i+1))).kids.drop 1⟩
theorem zle {A:Arr} {fr:List Nat} {d at_ a b:Nat} {P:Pairs} {K1 K2:List Nat} (h:Pt A fr (d+1) at_) (hn:ndA A at_=⟨P,K1++[a,b]++K2⟩):a≠at_/\b≠at_/\a≠b:=by
 have c:∀ j,(if at_=j then 1 else 0)+(if a=j then 1 else 0)+(if b=j then 1 else 0)<=1:=by
  intro j;have:=h.one j;rw [zbr hn] at this;simp only [List.count_cons,List.count_append,List.flatMap_cons,List.flatMap_nil,List.append_nil,beq_iff_eq] at this;have f:(own A d a).count j=(if a=j then 1 else 0)+(nidx A d (ndA A a)).count j:=(by unfold own;rw [List.count_cons];simp only [beq_iff_eq];omega);have g:(own A d b).count j=(if b=j then 1 else 0)+(nidx A d (ndA A b)).count j:=(by unfold own;rw [List.count_cons];simp only [beq_iff_eq];omega);omega
 refine ⟨fun e=>?_,fun e=>?_,fun e=>?_⟩
 · have:=c a;rw [if_pos e.symm,if_pos rfl] at this;omega
 · have:=c b;rw [if_pos e.symm,if_pos rfl] at this;omega
 have:=c b;rw [if_pos e,if_pos rfl] at this;omega
theorem zuv {A:Arr} {fr:List Nat} {d at_ l k:Nat} {P1 P2:Pairs} {K1 K2:List Nat} {p:ByteArray×Int} (h:Pt A fr (d+1) at_) (hn:ndA A at_=⟨P1++[p]++P2,K1++[l,k]++K2⟩) (h1:K1.length=P1.length) (h2:K2.length=P2.length)
 (h5:5<=(ndA A l).pairs.length) (h8:(ndA A k).pairs.length<=8):∃ x,(ndA A l).pairs[(ndA A l).pairs.length-1]?=some x/\Step A fr (lendL A at_ (P1.length+1)) fr (d+1) at_/\trav (lendL A at_ (P1.length+1)) (d+1) at_=trav A (d+1) at_ ∧
   ndA (lendL A at_ (P1.length+1)) at_=⟨P1++[x]++P2,K1++[l,k]++K2⟩/\(ndA (lendL A at_ (P1.length+1)) k).pairs.length=(ndA A k).pairs.length+1/\(lendL A at_ (P1.length+1)).length=A.length ∧
   kidA A at_ P1.length=l/\kidA A at_ (P1.length+1)=k:=by
 obtain ⟨x,z⟩:∃ x,(ndA A l).pairs[(ndA A l).pairs.length-1]?=some x:=⟨_,List.getElem?_eq_getElem (by omega)⟩;have n:ndA A at_=⟨P1++[p]++P2,K1++l :: k :: K2⟩:=by rw [hn];simp
 have C:kidA A at_ P1.length=l:=by rw [<-h1];exact zex n
 have D:kidA A at_ (P1.length+1)=k:=by rw [<-h1];exact zfy n
 obtain ⟨u,s,v⟩:=zle h hn
 have m:∀ c,c=l\/c=k->c∈(ndA A at_).kids:=by
  intro c I;rw [hn];rcases I with rfl | rfl <;> simp
 obtain ⟨L,M,N,w⟩:=h.wf.2 l (m l (.inl rfl));obtain ⟨r,J,K,t⟩:=h.wf.2 k (m k (.inr rfl));have H:=h.lt
 have i:lendL A at_ (P1.length+1)=((A.set k ⟨p :: (ndA A k).pairs,(ndA A l).kids.drop (ndA A l).pairs.length++(ndA A k).kids⟩).set at_ ⟨P1++[x]++P2,K1++[l,k]++K2⟩).set l ⟨(ndA A l).pairs.take ((ndA A l).pairs.length-1),(ndA A l).kids.take (ndA A l).pairs.length⟩:=by
  unfold lendL;rw [Nat.add_sub_cancel,C,D,hn]
  congr 2
  · simp [List.getD]
  simp [List.getD,z]
 have E:ndA (lendL A at_ (P1.length+1)) at_=⟨P1++[x]++P2,K1++[l,k]++K2⟩:=by rw [i,zah _ u];exact zap _ (by simp;omega)
 have F:ndA (lendL A at_ (P1.length+1)) k=⟨p :: (ndA A k).pairs,(ndA A l).kids.drop (ndA A l).pairs.length++(ndA A k).kids⟩:=by
  rw [i,zah _ v,zah _ s.symm];exact zap _ r
 have O:ndA (lendL A at_ (P1.length+1)) l=⟨(ndA A l).pairs.take ((ndA A l).pairs.length-1),(ndA A l).kids.take (ndA A l).pairs.length⟩:=by rw [i];exact zap _ (by simp;omega)
 have P:∀ j,j≠at_->j≠l->j≠k->ndA (lendL A at_ (P1.length+1)) j=ndA A j:=by
  intro j a b c;rw [i,zah _ (Ne.symm b),zah _ (Ne.symm a),zah _ (Ne.symm c)]
 have G:(lendL A at_ (P1.length+1)).length=A.length:=by rw [i];simp
 generalize lendL A at_ (P1.length+1)=A' at *;have f:nWf A d ⟨(ndA A l).pairs,(ndA A l).kids⟩:=w;obtain ⟨w1,o⟩:=zet d _ _ ((ndA A l).pairs.length-1) f (by omega);have e:=zdk d _ _ _ x f z;rw [show (ndA A l).pairs.length-1+1=(ndA A l).pairs.length by omega] at w1 o e;rw [List.drop_length] at o e;have y:ntrav A d (ndA A l)=_:=e;have B:=Step.two (x:=x) h hn h1 h2 G E O F P w1 (znf d [] _ p _ _ o t) (by simp;omega) (by simp;omega) (by simp;omega) (by simp;omega) (fun j=>?c1) ?c2 ?c3
 case c1 =>
  have g:nidx A d ⟨p :: (ndA A k).pairs,(ndA A l).kids.drop (ndA A l).pairs.length++(ndA A k).kids⟩=nidx A d ⟨[],(ndA A l).kids.drop (ndA A l).pairs.length⟩++nidx A d (ndA A k):=zcv d _ _ _ _ _
  have q:nidx A d (ndA A l)=nidx A d ⟨(ndA A l).pairs.take ((ndA A l).pairs.length-1),(ndA A l).kids.take (ndA A l).pairs.length⟩++nidx A d ⟨[],(ndA A l).kids.drop (ndA A l).pairs.length⟩:=by
   rw [<-zcv d _ _ (ndA A l).pairs,List.take_append_drop]
  rw [g,q,List.count_append,List.count_append];omega
 case c2 =>
  have g:nidx A d ⟨p :: (ndA A k).pairs,(ndA A l).kids.drop (ndA A l).pairs.length++(ndA A k).kids⟩=nidx A d ⟨[],(ndA A l).kids.drop (ndA A l).pairs.length⟩++nidx A d (ndA A k):=zcv d _ _ _ _ _
  have q:nidx A d (ndA A l)=nidx A d ⟨(ndA A l).pairs.take ((ndA A l).pairs.length-1),(ndA A l).kids.take (ndA A l).pairs.length⟩++nidx A d ⟨[],(ndA A l).kids.drop (ndA A l).pairs.length⟩:=by
   rw [<-zcv d _ _ (ndA A l).pairs,List.take_append_drop]
  rw [g,q,List.length_append,List.length_append];omega
 case c3 =>
  have g:ntrav A d ⟨p :: (ndA A k).pairs,(ndA A l).kids.drop (ndA A l).pairs.length++(ndA A k).kids⟩=ntrav A d ⟨[],(ndA A l).kids.drop (ndA A l).pairs.length⟩++p :: ntrav A d (ndA A k):=zes d [] _ p _ _ o;rw [g,y];simp
 exact ⟨x,z,B.1,B.2,E,by rw [F];simp,G,C,D⟩
theorem zuu {A:Arr} {fr:List Nat} {d at_ k r:Nat} {P1 P2:Pairs} {K1 K2:List Nat} {p:ByteArray×Int} (h:Pt A fr (d+1) at_) (hn:ndA A at_=⟨P1++[p]++P2,K1++[k,r]++K2⟩) (h1:K1.length=P1.length) (h2:K2.length=P2.length)
 (h5:5<=(ndA A r).pairs.length) (h8:(ndA A k).pairs.length<=8):∃ x,(ndA A r).pairs[0]?=some x/\Step A fr (lendR A at_ P1.length) fr (d+1) at_/\trav (lendR A at_ P1.length) (d+1) at_=trav A (d+1) at_ ∧
   ndA (lendR A at_ P1.length) at_=⟨P1++[x]++P2,K1++[k,r]++K2⟩/\(ndA (lendR A at_ P1.length) k).pairs.length=(ndA A k).pairs.length+1/\(lendR A at_ P1.length).length=A.length ∧
   kidA A at_ P1.length=k/\kidA A at_ (P1.length+1)=r:=by
 obtain ⟨x,v⟩:∃ x,(ndA A r).pairs[0]?=some x:=⟨_,List.getElem?_eq_getElem (by omega)⟩;have m:ndA A at_=⟨P1++[p]++P2,K1++k :: r :: K2⟩:=by rw [hn];simp
 have B:kidA A at_ P1.length=k:=by rw [<-h1];exact zex m
 have C:kidA A at_ (P1.length+1)=r:=by rw [<-h1];exact zfy m
 obtain ⟨o,s,q⟩:=zle h hn
 have i:∀ c,c=k\/c=r->c∈(ndA A at_).kids:=by
  intro c J;rw [hn];rcases J with rfl | rfl <;> simp
 obtain ⟨n,K,L,l⟩:=h.wf.2 k (i k (.inl rfl));obtain ⟨M,N,O,t⟩:=h.wf.2 r (i r (.inr rfl));have I:=h.lt
 have g:lendR A at_ P1.length=((A.set k ⟨(ndA A k).pairs++[p],(ndA A k).kids++(ndA A r).kids.take 1⟩).set at_ ⟨P1++[x]++P2,K1++[k,r]++K2⟩).set r ⟨(ndA A r).pairs.drop 1,(ndA A r).kids.drop 1⟩:=by
  unfold lendR;rw [B,C,hn]
  congr 2
  · simp [List.getD]
  simp [List.getD,v]
 have D:ndA (lendR A at_ P1.length) at_=⟨P1++[x]++P2,K1++[k,r]++K2⟩:=by rw [g,zah _ s];exact zap _ (by simp;omega)
 have E:ndA (lendR A at_ P1.length) k=⟨(ndA A k).pairs++[p],(ndA A k).kids++(ndA A r).kids.take 1⟩:=by
  rw [g,zah _ q.symm,zah _ o.symm];exact zap _ n
 have P:ndA (lendR A at_ P1.length) r=⟨(ndA A r).pairs.drop 1,(ndA A r).kids.drop 1⟩:=by rw [g];exact zap _ (by simp;omega)
 have Q:∀ j,j≠at_->j≠k->j≠r->ndA (lendR A at_ P1.length) j=ndA A j:=by
  intro j a b c;rw [g,zah _ (Ne.symm c),zah _ (Ne.symm a),zah _ (Ne.symm b)]
 have F:(lendR A at_ P1.length).length=A.length:=by rw [g];simp
 generalize lendR A at_ P1.length=A' at *;have f:nWf A d ⟨(ndA A r).pairs,(ndA A r).kids⟩:=t;obtain ⟨w1,G⟩:=zet d _ _ 0 f (by omega);have e:=zdk d _ _ _ x f v;rw [Nat.zero_add] at w1 G e;rw [List.take_zero] at w1 e;have u:ntrav A d (ndA A r)=_:=e;have w:nidx A d ⟨(ndA A k).pairs++[p],(ndA A k).kids++(ndA A r).kids.take 1⟩=nidx A d (ndA A k)++nidx A d ⟨[],(ndA A r).kids.take 1⟩:=zcv d _ _ _ _ _
 have y:nidx A d (ndA A r)=nidx A d ⟨[],(ndA A r).kids.take 1⟩++nidx A d ⟨(ndA A r).pairs.drop 1,(ndA A r).kids.drop 1⟩:=by
  rw [<-zcv d _ _ (ndA A r).pairs,List.take_append_drop]
 have z:=Step.two (x:=x) h hn h1 h2 F D E P Q (znf d _ _ p [] _ l w1) G (by simp;omega) (by simp;omega) (by simp;omega) (by simp;omega) (fun j=>?c1) ?c2 ?c3
 case c1 =>
  rw [w,y,List.count_append,List.count_append];omega
 case c2 =>
  rw [w,y,List.length_append,List.length_append];omega
 case c3 =>
  have H:ntrav A d ⟨(ndA A k).pairs++[p],(ndA A k).kids++(ndA A r).kids.take 1⟩=ntrav A d (ndA A k)++p :: ntrav A d ⟨[],(ndA A r).kids.take 1⟩:=zes d _ _ p [] _ l;rw [H,u];simp
 exact ⟨x,v,z.1,z.2,D,by rw [E];simp,F,B,C⟩
def fillA (A:Arr) (fr:List Nat) (at_ i:Nat):Arr×List Nat :=
 if 4<(ndA A (kidA A at_ i)).pairs.length then (A,fr)
 else if 0<i/\4<(ndA A (kidA A at_ (i-1))).pairs.length then (lendL A at_ i,fr)
 else if i+1<(ndA A at_).kids.length then if 4<(ndA A (kidA A at_ (i+1))).pairs.length then (lendR A at_ i,fr) else (joinA A at_ i,fr++[kidA A at_ (i+1)])
 else (joinA A at_ (i-1),fr++[kidA A at_ i])
structure FillOk (A:Arr) (fr:List Nat) (d at_:Nat) (key:ByteArray) (r:Arr×List Nat):Prop where
 step:Step A fr r.1 r.2 (d+1) at_
 trav:trav r.1 (d+1) at_=trav A (d+1) at_
 lo:(ndA A at_).pairs.length<=(ndA r.1 at_).pairs.length+1
 hi:(ndA r.1 at_).pairs.length<=(ndA A at_).pairs.length
 kid:∃ k Q1 Q2 L1 L2,ndA r.1 at_=⟨Q1++[]++Q2,L1++[k]++L2⟩/\L1.length=Q1.length/\L2.length=Q2.length/\(∀ p∈Q1,klt p.1 key=true)/\(∀ p∈Q2,klt key p.1=true)/\5<=(ndA r.1 k).pairs.length
theorem zud {Q1 Q2:Pairs} {key:ByteArray} (h1:∀ p∈Q1,klt p.1 key=true) (h2:∀ p∈Q2,klt key p.1=true):spotOf (Q1++Q2) key=Q1.length/\hitOf (Q1++Q2) key=false:=by
 have a:spotOf (Q1++Q2) key=Q1.length:=by
  unfold spotOf
  induction Q1 with
  | nil =>
    cases Q2 with
    | nil=>rfl
    | cons q Q2=>simp [List.findIdx_cons,zev (h2 q (by simp))]
  | cons q Q1 ih =>
    rw [List.cons_append,List.findIdx_cons,h1 q (by simp)];simp [ih fun p hp=>h1 p (by simp [hp])]
 refine ⟨a,?_⟩;unfold hitOf;rw [a];rw [List.getElem?_append_right (Nat.le_refl _),Nat.sub_self]
 cases Q2 with
 | nil=>rfl
 | cons q Q2 =>
   have:=klt_ne (h2 q (by simp));rw [zcw] at this;exact this
theorem zce {α:Type} {l:List α} (h:0<l.length):∃ (l':List α) (x:α),l=l'++[x]:=by
 have a:l≠[]:=by rintro rfl;simp at h
 exact ⟨l.dropLast,l.getLast a,(List.dropLast_concat_getLast a).symm⟩
theorem zwl {A:Arr} {fr:List Nat} {d at_ k:Nat} {P1 P2:Pairs} {K1 K2:List Nat} {key:ByteArray} (h:Pt A fr (d+1) at_) (hs:Sorted (trav A (d+1) at_)) (hn:ndA A at_=⟨P1++[]++P2,K1++[k]++K2⟩) (h1:K1.length=P1.length) (h2:K2.length=P2.length)
 (hb:∀ p∈P1,klt p.1 key=true) (ha:∀ p∈P2,klt key p.1=true) (hpos:1<=(ndA A at_).pairs.length):FillOk A fr d at_ key (fillA A fr at_ P1.length):=by
 have I:ndA A at_=⟨P1++P2,K1++k :: K2⟩:=by rw [hn];simp
 have q:kidA A at_ P1.length=k:=by rw [<-h1];exact zex I
 have H:k∈(ndA A at_).kids:=by rw [hn];simp
 obtain ⟨R,S,T,U⟩:=h.wf.2 k H;by_cases c1:4<(ndA A k).pairs.length
 · have e:fillA A fr at_ P1.length=(A,fr):=by unfold fillA;rw [q,if_pos c1]
   rw [e];exact ⟨Step.refl h,rfl,by dsimp only;omega,Nat.le_refl _,k,P1,P2,K1,K2,hn,h1,h2,hb,ha,by dsimp only;omega⟩
 have Q:(ndA A k).pairs.length=4:=by omega
 by_cases c2:0<P1.length/\4<(ndA A (kidA A at_ (P1.length-1))).pairs.length
 · obtain ⟨C,D⟩:=c2
   have e:fillA A fr at_ P1.length=(lendL A at_ P1.length,fr):=(by unfold fillA;rw [q,if_neg c1,if_pos ⟨C,D⟩]);obtain ⟨b,p,rfl⟩:=zce C;obtain ⟨g,l,rfl⟩:=zce (l:=K1) (by simp at h1;omega);have a:ndA A at_=⟨b++[p]++P2,g++[l,k]++K2⟩:=(by rw [hn];simp);have c:g.length=b.length:=(by simpa using h1);have t:kidA A at_ b.length=l:=(by rw [<-c];exact zex (P:=b++[p]++P2) (K2:=k :: K2) (by rw [a];simp));have f:(b++[p]).length=b.length+1:=(by simp);rw [f,Nat.add_sub_cancel,t] at D;obtain ⟨x,N,w,z,m,B,_⟩:=zuv h a c h2 (by omega) (by omega);rw [e,f]
   have O:klt x.1 p.1=true:=by
    have M:=zbb (d:=d) a c h2 rfl;rw [M] at hs;have s:=hs.left.right;simp only [weave] at s;have u:l∈(ndA A at_).kids:=(by rw [a];simp);have v:x∈trav A d l:=(zfx d _ (h.wf.2 l u).2.2.2).subset (List.mem_of_getElem? N);exact s.cross x v p (by simp)
   refine ⟨w,z,by rw [m,a];simp,by rw [m,a];simp,k,b++[x],P2,g++[l],K2,by rw [m];simp,by simpa using c,h2,fun y n=>?_,ha,by rw [B];omega⟩;rcases List.mem_append.1 n with n | n
   · exact hb y (by simp [n])
   obtain rfl:y=x:=by simpa using n
   exact zbx O (hb p (by simp))
 have G:(ndA A at_).kids.length=P1.length+1+P2.length:=by rw [hn];simp;omega
 by_cases c3:P1.length+1<(ndA A at_).kids.length
 · obtain ⟨p,j,rfl⟩:∃ p j,P2=p :: j:=by
    cases P2 with
    | nil=>simp at G;omega
    | cons p P2=>exact ⟨p,P2,rfl⟩
   obtain ⟨r,i,rfl⟩:∃ r i,K2=r :: i:=by
    cases K2 with
    | nil=>simp at h2
    | cons r K2=>exact ⟨r,K2,rfl⟩
   have o:i.length=j.length:=(by simpa using h2);have a:ndA A at_=⟨P1++[p]++j,K1++[k,r]++i⟩:=(by rw [hn];simp);have E:kidA A at_ (P1.length+1)=r:=(by rw [<-h1];exact zfy (P:=P1++[p]++j) (K2:=i) (k:=k) (by rw [a];simp));have K:r∈(ndA A at_).kids:=(by rw [a];simp);obtain ⟨Z,a0,a1,L⟩:=h.wf.2 r K;by_cases c4:4<(ndA A r).pairs.length
   · have e:fillA A fr at_ P1.length=(lendR A at_ P1.length,fr):=by unfold fillA;rw [q,E,if_neg c1,if_neg c2,if_pos c3,if_pos c4]
     obtain ⟨x,N,w,z,m,B,_⟩:=zuu h a h1 o (by omega) (by omega);rw [e]
     have J:klt p.1 x.1=true:=by
      have M:=zbb (d:=d) a h1 o rfl;rw [M] at hs;have s:=hs.left.right;simp only [weave] at s;have v:x∈trav A d r:=(zfx d _ L).subset (List.mem_of_getElem? N);exact (List.pairwise_cons.1 s.right).1 x v
     refine ⟨w,z,by rw [m,a];simp,by rw [m,a];simp,k,P1,x :: j,K1,r :: i,by rw [m];simp,h1,by simpa using o,hb,fun y n=>?_,by rw [B];omega⟩;rcases List.mem_cons.1 n with rfl | n
     · exact zbx (ha p (by simp)) J
     exact ha y (by simp [n])
   have e:fillA A fr at_ P1.length=(joinA A at_ P1.length,fr++[r]):=by unfold fillA;rw [q,E,if_neg c1,if_neg c2,if_pos c3,if_neg c4]
   obtain ⟨w,z,m,B,_⟩:=znl h a h1 o (by omega);rw [e];exact ⟨w,z,by rw [m,a];simp;omega,by rw [m,a];simp,k,P1,j,K1,i,m,h1,o,hb,fun y n=>ha y (by simp [n]),by rw [B];simp;omega⟩
 obtain rfl:P2 = []:=List.eq_nil_of_length_eq_zero (by omega)
 obtain rfl:K2 = []:=List.eq_nil_of_length_eq_zero (by simpa using h2);have F:0<P1.length:=(by rw [hn] at hpos;simp at hpos;omega);have e:fillA A fr at_ P1.length=(joinA A at_ (P1.length-1),fr++[k]):=(by unfold fillA;rw [q,if_neg c1,if_neg c2,if_neg c3]);obtain ⟨b,p,rfl⟩:=zce F;obtain ⟨g,l,rfl⟩:=zce (l:=K1) (by simp at h1;omega);have a:ndA A at_=⟨b++[p]++[],g++[l,k]++[]⟩:=(by rw [hn];simp);have c:g.length=b.length:=(by simpa using h1);have t:kidA A at_ b.length=l:=(by rw [<-c];exact zex (P:=b++[p]++[]) (K2:=[k]) (by rw [a];simp));have f:(b++[p]).length=b.length+1:=(by simp);rw [f,Nat.add_sub_cancel,t] at c2;have u:l∈(ndA A at_).kids:=(by rw [a];simp);obtain ⟨V,W,X,Y⟩:=h.wf.2 l u
 obtain ⟨w,z,m,B,_⟩:=znl h a c rfl (by omega);rw [e,f,Nat.add_sub_cancel];exact ⟨w,z,by rw [m,a];simp,by rw [m,a];simp,l,b,[],g,[],m,c,rfl,fun y n=>hb y (by simp [n]),by simp,by rw [B];simp;omega⟩
def lastOf {α:Type} (l:List α) (x:α):α:=l.getD (l.length-1) x
def endA:Nat->Arr->Nat->Bool->ByteArray×Int
 | 0,_,_,_=>default
 | g+1,A,at_,last =>
   if (ndA A at_).kids = [] then (if last then lastOf (ndA A at_).pairs default else (ndA A at_).pairs.getD 0 default)
   else endA g A (if last then lastOf (ndA A at_).kids 0 else (ndA A at_).kids.getD 0 0) last
def zef:Nat->Arr->Nat->Bool->Prop
 | 0,_,_,_=>False
 | g+1,A,at_,last=>at_<A.length/\1<=(ndA A at_).pairs.length/\(ndA A at_).pairs.length<=9/\(ndA A at_).kids.length<=10 ∧
   ((ndA A at_).kids≠[]->zef g A (if last then lastOf (ndA A at_).kids 0 else (ndA A at_).kids.getD 0 0) last)
theorem zij {α:Type} (l:List α) (x y:α):lastOf (l++[x]) y=x:=by unfold lastOf;simp [List.getD]
theorem zph {A:Arr}:∀ (d g at_:Nat),d+1<=g->at_<A.length->nWf A d (ndA A at_)->1<=(ndA A at_).pairs.length->(ndA A at_).pairs.length<=9->(∃ I,trav A d at_=I++[endA g A at_ true])/\zef g A at_ true
 | d,0,_,h,_,_,_,_=>by omega
 | 0,g+1,at_,_,hl,hw,h1,h9=>by
   have hk:(ndA A at_).kids = []:=hw;refine ⟨?_,hl,h1,h9,by rw [hk];simp,fun e=>absurd hk e⟩;obtain ⟨I,x,hI⟩:=zce h1;refine ⟨I,?_⟩
   show (ndA A at_).pairs=_
   unfold endA;rw [if_pos hk,if_pos rfl,hI,zij]
 | d+1,g+1,at_,hg,hl,hw,h1,h9=>by
   have hlen:(ndA A at_).kids.length=(ndA A at_).pairs.length+1:=hw.1;have hne:(ndA A at_).kids≠[]:=fun e=>by rw [e] at hlen;simp at hlen
   obtain ⟨K,k,hK⟩:=zce (l:=(ndA A at_).kids) (by omega);have hkm:k∈(ndA A at_).kids:=(by rw [hK];simp);obtain ⟨a1,a2,a3,a4⟩:=hw.2 k hkm;have hlast:lastOf (ndA A at_).kids 0=k:=(by rw [hK,zij]);obtain ⟨⟨I,hI⟩,hsafe⟩:=zph d g k (by omega) a1 a4 (by omega) a3;refine ⟨?_,hl,h1,h9,by omega,fun _=>by rw [if_pos rfl,hlast];exact hsafe⟩;have hn:ndA A at_=⟨(ndA A at_).pairs++[]++[],K++[k]++[]⟩:=(by rw [List.append_nil,List.append_nil,List.append_nil,<-hK]);rw [hK] at hlen;have ht:=zbb (d:=d) hn (by simpa using hlen) rfl rfl;refine ⟨lw (trav A d) K (ndA A at_).pairs++I,?_⟩;rw [ht];unfold endA;rw [if_neg hne,if_pos rfl,hlast];simp [weave,rwv,hI]
theorem zmm {A:Arr}:∀ (d g at_:Nat),d+1<=g->at_<A.length->nWf A d (ndA A at_)->1<=(ndA A at_).pairs.length->(ndA A at_).pairs.length<=9->(∃ I,trav A d at_=endA g A at_ false :: I)/\zef g A at_ false
 | d,0,_,h,_,_,_,_=>by omega
 | 0,g+1,at_,_,hl,hw,h1,h9=>by
   have hk:(ndA A at_).kids = []:=hw;refine ⟨?_,hl,h1,h9,by rw [hk];simp,fun e=>absurd hk e⟩
   cases hp:(ndA A at_).pairs with
   | nil=>rw [hp] at h1;simp at h1
   | cons x I =>
     refine ⟨I,?_⟩
     show (ndA A at_).pairs=_
     unfold endA;rw [if_pos hk,if_neg (by decide),hp]
     rfl
 | d+1,g+1,at_,hg,hl,hw,h1,h9=>by
   have hlen:(ndA A at_).kids.length=(ndA A at_).pairs.length+1:=hw.1;have hne:(ndA A at_).kids≠[]:=fun e=>by rw [e] at hlen;simp at hlen
   obtain ⟨k,K,hK⟩:∃ k K,(ndA A at_).kids=k :: K:=by
    cases hk:(ndA A at_).kids with
    | nil=>exact absurd hk hne
    | cons k K=>exact ⟨k,K,rfl⟩
   have c:k∈(ndA A at_).kids:=(by rw [hK];simp);obtain ⟨f,o,i,j⟩:=hw.2 k c;have a:(ndA A at_).kids.getD 0 0=k:=(by rw [hK];rfl);obtain ⟨⟨I,l⟩,b⟩:=zmm d g k (by omega) f j (by omega) i;refine ⟨?_,hl,h1,h9,by omega,fun _=>by rw [if_neg (by decide),a];exact b⟩;have m:ndA A at_=⟨[]++[]++(ndA A at_).pairs,[]++[k]++K⟩:=(by rw [List.append_nil,List.nil_append,List.nil_append,List.singleton_append,<-hK]);rw [hK] at hlen;have n:=zbb (d:=d) m rfl (by simpa using hlen) rfl;refine ⟨I++rwv (trav A d) (ndA A at_).pairs K,?_⟩;rw [n];unfold endA;rw [if_neg hne,if_neg (by decide),a];simp [weave,lw,l]
def delA:Nat->Arr->List Nat->Nat->ByteArray->Arr×List Nat
 | 0,A,fr,_,_=>(A,fr)
 | g+1,A,fr,at_,key =>
   if (ndA A at_).kids = [] then (A.set at_ ⟨(ndA A at_).pairs.take (spotOf (ndA A at_).pairs key)++(ndA A at_).pairs.drop (spotOf (ndA A at_).pairs key+1),[]⟩,fr)
   else if hitOf (ndA A at_).pairs key=false then
    delA g (fillA A fr at_ (spotOf (ndA A at_).pairs key)).1 (fillA A fr at_ (spotOf (ndA A at_).pairs key)).2
     (kidA (fillA A fr at_ (spotOf (ndA A at_).pairs key)).1 at_ (spotOf (ndA (fillA A fr at_ (spotOf (ndA A at_).pairs key)).1 at_).pairs key)) key
   else if 4<(ndA A (kidA A at_ (spotOf (ndA A at_).pairs key))).pairs.length then
    delA g (A.set at_ ⟨(ndA A at_).pairs.set (spotOf (ndA A at_).pairs key) (endA g A (kidA A at_ (spotOf (ndA A at_).pairs key)) true),(ndA A at_).kids⟩) fr (kidA A at_ (spotOf (ndA A at_).pairs key)) (endA g A (kidA A at_ (spotOf (ndA A at_).pairs key)) true).1
   else if 4<(ndA A (kidA A at_ (spotOf (ndA A at_).pairs key+1))).pairs.length then
    delA g (A.set at_ ⟨(ndA A at_).pairs.set (spotOf (ndA A at_).pairs key) (endA g A (kidA A at_ (spotOf (ndA A at_).pairs key+1)) false),(ndA A at_).kids⟩) fr (kidA A at_ (spotOf (ndA A at_).pairs key+1)) (endA g A (kidA A at_ (spotOf (ndA A at_).pairs key+1)) false).1
   else delA g (joinA A at_ (spotOf (ndA A at_).pairs key)) (fr++[kidA A at_ (spotOf (ndA A at_).pairs key+1)]) (kidA A at_ (spotOf (ndA A at_).pairs key)) key
def zeg:Nat->Arr->List Nat->Nat->ByteArray->Prop
 | 0,_,_,_,_=>False
 | g+1,A,fr,at_,key =>
   at_<A.length/\(ndA A at_).pairs.length<=9 ∧
   ((ndA A at_).kids = []->spotOf (ndA A at_).pairs key<(ndA A at_).pairs.length) ∧
   ((ndA A at_).kids≠[]->zbk A fr at_/\1<=(ndA A at_).pairs.length ∧
     (hitOf (ndA A at_).pairs key=false →
       zbk (fillA A fr at_ (spotOf (ndA A at_).pairs key)).1 (fillA A fr at_ (spotOf (ndA A at_).pairs key)).2 at_ ∧
       hitOf (ndA (fillA A fr at_ (spotOf (ndA A at_).pairs key)).1 at_).pairs key=false ∧
       zeg g (fillA A fr at_ (spotOf (ndA A at_).pairs key)).1 (fillA A fr at_ (spotOf (ndA A at_).pairs key)).2
        (kidA (fillA A fr at_ (spotOf (ndA A at_).pairs key)).1 at_ (spotOf (ndA (fillA A fr at_ (spotOf (ndA A at_).pairs key)).1 at_).pairs key)) key) ∧
     (hitOf (ndA A at_).pairs key=true->4<(ndA A (kidA A at_ (spotOf (ndA A at_).pairs key))).pairs.length →
       zef g A (kidA A at_ (spotOf (ndA A at_).pairs key)) true ∧
       zeg g (A.set at_ ⟨(ndA A at_).pairs.set (spotOf (ndA A at_).pairs key) (endA g A (kidA A at_ (spotOf (ndA A at_).pairs key)) true),(ndA A at_).kids⟩) fr (kidA A at_ (spotOf (ndA A at_).pairs key)) (endA g A (kidA A at_ (spotOf (ndA A at_).pairs key)) true).1) ∧
     (hitOf (ndA A at_).pairs key=true->¬ 4<(ndA A (kidA A at_ (spotOf (ndA A at_).pairs key))).pairs.length->4<(ndA A (kidA A at_ (spotOf (ndA A at_).pairs key+1))).pairs.length →
       zef g A (kidA A at_ (spotOf (ndA A at_).pairs key+1)) false ∧
       zeg g (A.set at_ ⟨(ndA A at_).pairs.set (spotOf (ndA A at_).pairs key) (endA g A (kidA A at_ (spotOf (ndA A at_).pairs key+1)) false),(ndA A at_).kids⟩) fr (kidA A at_ (spotOf (ndA A at_).pairs key+1)) (endA g A (kidA A at_ (spotOf (ndA A at_).pairs key+1)) false).1) ∧
     (hitOf (ndA A at_).pairs key=true->¬ 4<(ndA A (kidA A at_ (spotOf (ndA A at_).pairs key))).pairs.length->¬ 4<(ndA A (kidA A at_ (spotOf (ndA A at_).pairs key+1))).pairs.length →
       zeg g (joinA A at_ (spotOf (ndA A at_).pairs key)) (fr++[kidA A at_ (spotOf (ndA A at_).pairs key+1)]) (kidA A at_ (spotOf (ndA A at_).pairs key)) key))
structure DelOk (g:Nat) (A:Arr) (fr:List Nat) (d at_:Nat) (key:ByteArray):Prop where
 step:Step A fr (delA g A fr at_ key).1 (delA g A fr at_ key).2 d at_
 trav:trav (delA g A fr at_ key).1 d at_=delT (trav A d at_) key
 lo:(ndA A at_).pairs.length<=(ndA (delA g A fr at_ key).1 at_).pairs.length+1
 hi:(ndA (delA g A fr at_ key).1 at_).pairs.length<=9
 safe:zeg g A fr at_ key
theorem zpj (key:ByteArray) (L M R:Pairs) (hL:∀ q∈L,klt q.1 key=true) (hR:∀ q∈R,klt key q.1=true):delT (L++M++R) key=L++delT M key++R:=by
 unfold delT;have a:L.filter (fun p=>!keq p.1 key)=L:=List.filter_eq_self.2 fun q hq=>by rw [klt_ne (hL q hq)];rfl
 have b:R.filter (fun p=>!keq p.1 key)=R:=List.filter_eq_self.2 fun q hq=>by rw [zcw,klt_ne (hR q hq)];rfl
 rw [List.filter_append,List.filter_append,a,b]
theorem zfj (key:ByteArray) (m:Int) (L R:Pairs) (hL:∀ q∈L,klt q.1 key=true) (hR:∀ q∈R,klt key q.1=true):delT (L++(key,m) :: R) key=L++R:=by
 have:=zpj key L [(key,m)] R hL hR;rw [List.append_assoc,List.singleton_append] at this;rw [this];simp [delT,zat.2 rfl]
theorem zjo {T:Pairs} (hT:Sorted T) {key:ByteArray} (h:(getT T key).2=true):hitOf T key=true:=by
 rw [zkk T hT] at h
 cases hh:hitOf T key with
 | true=>rfl
 | false=>rw [hh] at h;simp at h
theorem zdx {A:Arr} {d at_ k:Nat} {P:Pairs} {K1 K2:List Nat} (hn:ndA A at_=⟨P,K1++[k]++K2⟩):(own A d k).length<(own A (d+1) at_).length:=by
 rw [zbr hn];simp;omega
theorem zsu (f:Nat->Pairs):∀ (K:List Nat) (P:Pairs) (l:Nat) (x:ByteArray×Int),K.length=P.length->lw f (K++[l]) (P++[x])=lw f K P++f l++[x]
 | [],[],l,x,_=>by simp [lw]
 | [],_ :: _,_,_,h=>by simp at h
 | _ :: _,[],_,_,h=>by simp at h
 | k :: K,p :: P,l,x,h=>by simp [lw,zsu f K P l x (by simpa using h)]
theorem zir:∀ (d g:Nat) (A:Arr) (fr:List Nat) (at_:Nat) (key:ByteArray),d+1<=g->Pt A fr d at_->Sorted (trav A d at_)->(getT (trav A d at_) key).2=true->(d=0\/1<=(ndA A at_).pairs.length)->(ndA A at_).pairs.length<=9 →
 (own A d at_).length+fr.length<=A.length->DelOk g A fr d at_ key
 | d,0,_,_,_,_,h,_,_,_,_,_,_=>by omega
 | 0,g+1,A,fr,at_,key,_,h,hs,hget,_,h9,hc=>by
   have hk:(ndA A at_).kids = []:=h.wf;have hs':Sorted (ndA A at_).pairs:=hs;have hhit:hitOf (ndA A at_).pairs key=true:=zjo hs' hget;obtain ⟨m,hm⟩:=hit_at hhit;have hil:=(List.getElem?_eq_some_iff.1 hm).1;have hset:delA (g+1) A fr at_ key=(A.set at_ ⟨(ndA A at_).pairs.take (spotOf (ndA A at_).pairs key)++(ndA A at_).pairs.drop (spotOf (ndA A at_).pairs key+1),(ndA A at_).kids⟩,fr):=(by simp [delA,hk]);obtain ⟨hst,htr⟩:=zdg h ((ndA A at_).pairs.take (spotOf (ndA A at_).pairs key)++(ndA A at_).pairs.drop (spotOf (ndA A at_).pairs key+1)) (.inl rfl);refine ⟨by rw [hset];exact hst,?_,?_,?_,h.lt,h9,fun _=>hil,fun e=>absurd hk e⟩
   · rw [hset]
     dsimp only;rw [htr]
     show (ndA A at_).pairs.take _++(ndA A at_).pairs.drop _=delT (ndA A at_).pairs key
     have e:(ndA A at_).pairs=(ndA A at_).pairs.take (spotOf (ndA A at_).pairs key)++(key,m) :: (ndA A at_).pairs.drop (spotOf (ndA A at_).pairs key+1):=by
      have:=List.take_append_drop (spotOf (ndA A at_).pairs key) (ndA A at_).pairs;rw [List.drop_eq_getElem_cons hil,(List.getElem?_eq_some_iff.1 hm).2] at this;exact this.symm
     have hb:=zdu (T:=(ndA A at_).pairs) (key:=key);generalize spotOf (ndA A at_).pairs key=i at *;have G:Sorted ((ndA A at_).pairs.take i++(key,m) :: (ndA A at_).pairs.drop (i+1)):=(by rw [<-e];exact hs')
     conv=>rhs;rw [e]
     rw [zfj key m _ _ hb fun q hq=>(List.pairwise_cons.1 G.right).1 q hq]
   · rw [hset];dsimp only;rw [zap _ h.lt];simp;omega
   rw [hset];dsimp only;rw [zap _ h.lt];simp;omega
 | d+1,g+1,A,fr,at_,key,hg,h,hs,hget,h01,h9,hc=>by
   have z:1<=(ndA A at_).pairs.length:=(by rcases h01 with e | e <;> omega);have hl:(ndA A at_).kids.length=(ndA A at_).pairs.length+1:=h.wf.1;have y:(ndA A at_).kids≠[]:=fun e=>by rw [e] at hl;simp at hl
   have n:=h.safe h9 hc
   cases hh:hitOf (ndA A at_).pairs key with
   | false =>
     obtain ⟨k,K1,K2,P1,P2,o,N,h2,aK,b4,b3,hb,ha⟩:=down h.wf hs hh;have hF:=zwl h hs o N h2 hb ha z;rw [aK] at hF
     have hset:delA (g+1) A fr at_ key=delA g (fillA A fr at_ (spotOf (ndA A at_).pairs key)).1 (fillA A fr at_ (spotOf (ndA A at_).pairs key)).2
      (kidA (fillA A fr at_ (spotOf (ndA A at_).pairs key)).1 at_ (spotOf (ndA (fillA A fr at_ (spotOf (ndA A at_).pairs key)).1 at_).pairs key)) key:=by
      show delA (g+1) A fr at_ key=_
      rw [delA,if_neg y,if_pos hh]
     have Q:=hF.step.cover;generalize hr:fillA A fr at_ (spotOf (ndA A at_).pairs key)=r at *;obtain ⟨f,az⟩:=r;dsimp only at *;obtain ⟨k',Q1,Q2,L1,L2,C,g1,g2,al,ak,h5⟩:=hF.kid;dsimp only at C h5;have L:=hF.step;have Y:=hF.trav;have a3:=hF.lo;have am:=hF.hi;dsimp only at L Y a3 am;obtain ⟨e1,e2⟩:=zud al ak;have ar:(ndA f at_).pairs=Q1++Q2:=(by rw [C];simp)
     have t:kidA f at_ (spotOf (ndA f at_).pairs key)=k':=by
      rw [ar,e1,<-g1];exact zex (P:=Q1++[]++Q2) (K2:=L2) (by rw [C];simp)
     have M:Sorted (trav f (d+1) at_):=(by rw [Y];exact hs);obtain ⟨ht,aJ,aq,av⟩:=zfp C g1 g2 M al ak;have ao:k'∈(ndA f at_).kids:=(by rw [C];simp);obtain ⟨aZ,b0,aE,b5⟩:=L.pt.wf.2 k' ao;have W:(own f d k').length<(own f (d+1) at_).length:=zdx C;have s:=zir d g f az k' key (by omega) (L.pt.kid ao) aJ (by rw [<-Y,ht,zkj key _ _ _ aq av] at hget;exact hget) (.inr (by omega)) aE (by omega);obtain ⟨s1,X,s3⟩:=Step.kid L.pt C g1 g2 s.step (by have:=s.lo;omega) s.hi;refine ⟨by rw [hset,t];exact L.trans s1,?_,?_,?_,h.lt,h9,fun e=>absurd e y,fun _=>⟨n,z,fun _=>?_,fun e=>?_,fun e=>?_,fun e=>?_⟩⟩
     · rw [hset,t,s3,s.trav,<-Y,ht,zpj key _ _ _ aq av]
     · rw [hset,t,X];exact a3
     · rw [hset,t,X];omega
     · rw [hr]
       dsimp only;refine ⟨L.pt.safe (by omega) (by omega),by rw [ar];exact e2,by rw [t];exact s.safe⟩
     all_goals rw [hh] at e;cases e
   | true =>
     obtain ⟨m,hm⟩:=hit_at hh;have hil:=(List.getElem?_eq_some_iff.1 hm).1
     -- the node parted at the key
     obtain ⟨P1,P2,K1,K2,l,r,o,N,h2,hi⟩:∃ P1 P2 K1 K2 l r,ndA A at_=⟨P1++[(key,m)]++P2,K1++[l,r]++K2⟩/\K1.length=P1.length/\K2.length=P2.length/\spotOf (ndA A at_).pairs key=P1.length:=by
      generalize b7:ndA A at_=nd at *;obtain ⟨P,K⟩:=nd;dsimp only at *;generalize spotOf P key=i at *;refine ⟨P.take i,P.drop (i+1),K.take i,K.drop (i+2),K[i],K[i+1],?_,by simp;omega,by simp;omega,by simp;omega⟩
      have e1:P.take i++[(key,m)]++P.drop (i+1)=P:=by
       have:=List.take_append_drop i P;rw [List.drop_eq_getElem_cons hil,(List.getElem?_eq_some_iff.1 hm).2] at this;simpa using this
      have e2:K.take i++[K[i],K[i+1]]++K.drop (i+2)=K:=by
       have:=List.take_append_drop i K;rw [List.drop_eq_getElem_cons (by omega),List.drop_eq_getElem_cons (by omega)] at this;simp
      rw [e1,e2]
     have u:kidA A at_ (spotOf (ndA A at_).pairs key)=l:=(by rw [hi,<-N];exact zex (P:=P1++[(key,m)]++P2) (K2:=r :: K2) (by rw [o];simp));have E:kidA A at_ (spotOf (ndA A at_).pairs key+1)=r:=(by rw [hi,<-N];exact zfy (P:=P1++[(key,m)]++P2) (K2:=K2) (k:=l) (by rw [o];simp));have B:l∈(ndA A at_).kids:=(by rw [o];simp);have F:r∈(ndA A at_).kids:=(by rw [o];simp);obtain ⟨aF,b6,ap,aG⟩:=h.wf.2 l B;obtain ⟨aH,bb,au,aI⟩:=h.wf.2 r F;have ht:=zbb (d:=d) o N h2 rfl;have aa:trav A (d+1) at_=(lw (trav A d) K1 P1++trav A d l)++(key,m) :: (trav A d r++rwv (trav A d) P2 K2):=(by rw [ht];simp [weave]);have G:=hs;rw [aa] at G;have O:∀ q∈lw (trav A d) K1 P1++trav A d l,klt q.1 key=true:=fun q hq=>G.cross q hq (key,m) (by simp)
     have a2:∀ q∈trav A d r++rwv (trav A d) P2 K2,klt key q.1=true:=fun q hq=>(List.pairwise_cons.1 G.right).1 q hq;have R:delT (trav A (d+1) at_) key=(lw (trav A d) K1 P1++trav A d l)++(trav A d r++rwv (trav A d) P2 K2):=(by rw [aa,zfj key m _ _ O a2]);have a8:Sorted (trav A d l):=G.left.right;have a9:Sorted (trav A d r):=(G.right.sub (List.sublist_cons_self _ _)).left;have b8:ndA A at_=⟨P1++[]++((key,m) :: P2),K1++[l]++(r :: K2)⟩:=(by rw [o];simp);have b9:ndA A at_=⟨(P1++[(key,m)])++[]++P2,(K1++[l])++[r]++K2⟩:=(by rw [o];simp);have w:∀ x,(ndA A at_).pairs.set (spotOf (ndA A at_).pairs key) x=P1++[x]++P2:=(by intro x;rw [hi,o];simp);have U:(ndA A at_).kids=K1++[l,r]++K2:=(by rw [o]);by_cases c1:4<(ndA A l).pairs.length
     · obtain ⟨⟨I,hI⟩,a6⟩:=zph d g l (by omega) aF aG (by omega) ap
       have hset:delA (g+1) A fr at_ key=delA g (A.set at_ ⟨P1++[endA g A l true]++P2,(ndA A at_).kids⟩) fr l (endA g A l true).1:=by
        rw [delA,if_neg y,if_neg (by rw [hh];simp),u,if_pos c1,w]
       obtain ⟨hst,htr⟩:=zdg h (P1++[endA g A l true]++P2) (.inr (by rw [o];simp));have v:ndA (A.set at_ ⟨P1++[endA g A l true]++P2,(ndA A at_).kids⟩) at_=⟨P1++[endA g A l true]++P2,(ndA A at_).kids⟩:=zap _ h.lt;have a:∀ c,c∈(ndA A at_).kids->ndA (A.set at_ ⟨P1++[endA g A l true]++P2,(ndA A at_).kids⟩) c=ndA A c:=fun c hc=>zah _ (n.kid c hc).2.1.symm
       have b:∀ c,c∈(ndA A at_).kids->trav (A.set at_ ⟨P1++[endA g A l true]++P2,(ndA A at_).kids⟩) d c=trav A d c:=by
        intro c hc;refine (zdj (by simp) fun j hj=>zah _ fun e=>?_).2.2.1;have h3:=h.one at_;have h4:0<(nidx A (d+1) (ndA A at_)).count at_:=List.count_pos_iff.2 (List.mem_flatMap.2 ⟨c,hc,by rw [e];exact hj⟩);unfold own at h3;simp only [List.count_cons,beq_self_eq_true,if_true] at h3;omega
       have Q:=hst.cover;generalize ab:endA g A l true=x at *;generalize J:A.set at_ ⟨P1++[x]++P2,(ndA A at_).kids⟩=f at *;rw [U] at v;have D:ndA f at_=⟨P1++[]++(x :: P2),K1++[l]++(r :: K2)⟩:=(by rw [v];simp);have H:l∈(ndA f at_).kids:=(by rw [D];simp);have W:(own f d l).length<(own f (d+1) at_).length:=zdx D;have a0:∀ q∈I,klt q.1 x.1=true:=by rw [hI] at a8;exact fun q hq=>a8.cross q hq x (by simp)
       have S:getT (trav A d l) x.1=(x.2,true):=(by rw [hI];exact zfz x.1 x.2 I [] a0);have s:=zir d g f fr l x.1 (by omega) (hst.pt.kid H) (by rw [b l B];exact a8) (by rw [b l B,S]) (.inr (by rw [a l B];omega)) (by rw [a l B];exact ap) (by omega);obtain ⟨s1,X,s3⟩:=Step.kid hst.pt D N (by simpa using h2) s.step (by have:=s.lo;rw [a l B] at this;omega) s.hi;refine ⟨by rw [hset];exact hst.trans s1,?_,?_,?_,h.lt,h9,fun e=>absurd e y,fun _=>⟨n,z,fun e=>?_,fun _ _=>?_,fun _ e=>?_,fun _ e=>?_⟩⟩
       · have a5:delT (I++[x]) x.1=I:=by have:=zfj x.1 x.2 I [] a0 (by simp);rwa [List.append_nil] at this
         rw [hset,s3,s.trav,b l B,R,hI,a5];rw [zfe K1 P1 fun c hc=>b c (by rw [o];simp [hc]),zdi (x :: P2) (r :: K2) (g:=trav A d) fun c hc=>b c (by rw [o];simp at hc ⊢;rcases hc with hc | hc <;> simp [hc])];simp [rwv]
       · rw [hset,X,v,o];simp
       · rw [hset,X,v];have:=h9;rw [o] at this;simpa using this
       · rw [hh] at e;cases e
       · rw [u,ab,w,J];exact ⟨a6,s.safe⟩
       · rw [u] at e;exact absurd c1 e
       rw [u] at e;exact absurd c1 e
     by_cases c2:4<(ndA A r).pairs.length
     · obtain ⟨⟨I,hI⟩,a6⟩:=zmm d g r (by omega) aH aI (by omega) au
       have hset:delA (g+1) A fr at_ key=delA g (A.set at_ ⟨P1++[endA g A r false]++P2,(ndA A at_).kids⟩) fr r (endA g A r false).1:=by
        rw [delA,if_neg y,if_neg (by rw [hh];simp),u,E,if_neg c1,if_pos c2,w]
       obtain ⟨hst,htr⟩:=zdg h (P1++[endA g A r false]++P2) (.inr (by rw [o];simp));have v:ndA (A.set at_ ⟨P1++[endA g A r false]++P2,(ndA A at_).kids⟩) at_=⟨P1++[endA g A r false]++P2,(ndA A at_).kids⟩:=zap _ h.lt;have a:∀ c,c∈(ndA A at_).kids->ndA (A.set at_ ⟨P1++[endA g A r false]++P2,(ndA A at_).kids⟩) c=ndA A c:=fun c hc=>zah _ (n.kid c hc).2.1.symm
       have b:∀ c,c∈(ndA A at_).kids->trav (A.set at_ ⟨P1++[endA g A r false]++P2,(ndA A at_).kids⟩) d c=trav A d c:=by
        intro c hc;refine (zdj (by simp) fun j hj=>zah _ fun e=>?_).2.2.1;have h3:=h.one at_;have h4:0<(nidx A (d+1) (ndA A at_)).count at_:=List.count_pos_iff.2 (List.mem_flatMap.2 ⟨c,hc,by rw [e];exact hj⟩);unfold own at h3;simp only [List.count_cons,beq_self_eq_true,if_true] at h3;omega
       have Q:=hst.cover;generalize ab:endA g A r false=x at *;generalize J:A.set at_ ⟨P1++[x]++P2,(ndA A at_).kids⟩=f at *;rw [U] at v;have D:ndA f at_=⟨(P1++[x])++[]++P2,(K1++[l])++[r]++K2⟩:=(by rw [v];simp);have aw:r∈(ndA f at_).kids:=(by rw [D];simp);have W:(own f d r).length<(own f (d+1) at_).length:=zdx D;have a0:∀ q∈I,klt x.1 q.1=true:=by rw [hI] at a9;exact fun q hq=>(List.pairwise_cons.1 a9).1 q hq
       have S:getT (trav A d r) x.1=(x.2,true):=(by rw [hI];exact zfz x.1 x.2 [] I (by simp));have s:=zir d g f fr r x.1 (by omega) (hst.pt.kid aw) (by rw [b r F];exact a9) (by rw [b r F,S]) (.inr (by rw [a r F];omega)) (by rw [a r F];exact au) (by omega);obtain ⟨s1,X,s3⟩:=Step.kid hst.pt D (by simpa using N) h2 s.step (by have:=s.lo;rw [a r F] at this;omega) s.hi;refine ⟨by rw [hset];exact hst.trans s1,?_,?_,?_,h.lt,h9,fun e=>absurd e y,fun _=>⟨n,z,fun e=>?_,fun _ e=>?_,fun _ _ _=>?_,fun _ _ e=>?_⟩⟩
       · have a5:delT (x :: I) x.1=I:=zfj x.1 x.2 [] I (by simp) a0
         rw [hset,s3,s.trav,b r F,R,hI,a5];rw [zfe (g:=trav A d) (K1++[l]) (P1++[x]) fun c hc=>b c (by rw [o];simp at hc ⊢;rcases hc with hc | hc <;> simp [hc]),zdi P2 K2 fun c hc=>b c (by rw [o];simp [hc])];rw [zsu _ K1 P1 l x N];simp
       · rw [hset,X,v,o];simp
       · rw [hset,X,v];have:=h9;rw [o] at this;simpa using this
       · rw [hh] at e;cases e
       · rw [u] at e;exact absurd e c1
       · rw [E,ab,w,J];exact ⟨a6,s.safe⟩
       rw [E] at e;exact absurd c2 e
     obtain ⟨q1,q2,q3,q4,_⟩:=znl h o N h2 (by omega)
     have hset:delA (g+1) A fr at_ key=delA g (joinA A at_ P1.length) (fr++[r]) l key:=by
      rw [delA,if_neg y,if_neg (by rw [hh];simp),u,E,if_neg c1,if_neg c2,hi]
     have Q:=q1.cover;generalize J:joinA A at_ P1.length=f at *;have H:l∈(ndA f at_).kids:=(by rw [q3];simp);have W:(own f d l).length<(own f (d+1) at_).length:=zdx q3;have Z:=zbb (d:=d) q3 N h2 rfl;have M:Sorted (trav f (d+1) at_):=(by rw [q2];exact hs);rw [Z] at M;simp only [weave] at M Z;obtain ⟨bc,bd,aL,_⟩:=q1.pt.wf.2 l H
     have b:∀ c,c∈K1\/c∈K2->trav f d c=trav A d c:=by
      intro c hc;have aX:c∈(ndA A at_).kids:=(by rw [o];rcases hc with hc | hc <;> simp [hc]);refine (zdj (by have:=q1.len;omega) fun j hj=>?_).2.2.1;have V:=h.one j;rw [zbr o] at V;simp only [List.count_cons,List.count_append,List.flatMap_cons,List.flatMap_nil,List.append_nil,beq_iff_eq] at V
      have aY:0<(K1.flatMap (own A d)).count j\/0<(K2.flatMap (own A d)).count j:=by
       rcases hc with hc | hc
       · exact .inl (List.count_pos_iff.2 (List.mem_flatMap.2 ⟨c,hc,hj⟩))
       exact .inr (List.count_pos_iff.2 (List.mem_flatMap.2 ⟨c,hc,hj⟩))
      have e1:(own A d l).count j=(if l=j then 1 else 0)+(nidx A d (ndA A l)).count j:=(by unfold own;rw [List.count_cons];simp only [beq_iff_eq];omega);have e2:(own A d r).count j=(if r=j then 1 else 0)+(nidx A d (ndA A r)).count j:=(by unfold own;rw [List.count_cons];simp only [beq_iff_eq];omega);have an:at_≠j:=fun e=>by rw [if_pos e] at V;omega
      have aC:l≠j:=fun e=>by rw [if_pos e] at e1;omega
      have aD:r≠j:=fun e=>by rw [if_pos e] at e2;omega
      rw [<-J];have k1:kidA A at_ P1.length=l:=(by rw [<-hi];exact u);have k2:kidA A at_ (P1.length+1)=r:=(by rw [<-hi];exact E);unfold joinA;rw [k1,k2,zah _ aD,zah _ an,zah _ aC]
     rw [zfe K1 P1 fun c hc=>b c (.inl hc),zdi P2 K2 fun c hc=>b c (.inr hc)] at Z M
     have hM:trav f d l=trav A d l++(key,m) :: trav A d r:=by
      have e:=Z.symm.trans (q2.trans aa);have e':lw (trav A d) K1 P1++(trav f d l++rwv (trav A d) P2 K2)=lw (trav A d) K1 P1++((trav A d l++(key,m) :: trav A d r)++rwv (trav A d) P2 K2):=(by simpa using e);exact List.append_cancel_right (List.append_cancel_left e')
     have S:getT (trav f d l) key=(m,true):=by rw [hM];exact zfz key m _ _ fun q hq=>O q (by simp [hq])
     have s:=zir d g f (fr++[r]) l key (by omega) (q1.pt.kid H) M.left.right (by rw [S]) (.inr (by omega)) aL (by omega);obtain ⟨s1,X,s3⟩:=Step.kid q1.pt q3 N h2 s.step (by have:=s.lo;rw [q4] at this;simp at this;omega) s.hi;refine ⟨by rw [hset];exact q1.trans s1,?_,?_,?_,h.lt,h9,fun e=>absurd e y,fun _=>⟨n,z,fun e=>?_,fun _ e=>?_,fun _ _ e=>?_,fun _ _ _=>?_⟩⟩
     · rw [hset,s3,s.trav,hM,zfj key m _ _ (fun q hq=>O q (by simp [hq])) (fun q hq=>a2 q (by simp [hq])),R]
       rw [zfe K1 P1 fun c hc=>b c (.inl hc),zdi P2 K2 fun c hc=>b c (.inr hc)];simp
     · rw [hset,X,q3,o];simp;omega
     · rw [hset,X,q3];have:=h9;rw [o] at this;simp at this;simp;omega
     · rw [hh] at e;cases e
     · rw [u] at e;exact absurd e c1
     · rw [E] at e;exact absurd e c2
     rw [u,E,hi,J];exact s.safe
end Go.Proofs.YtdgkdfmfoonbpaaGreat