/- Own lemmas. -/
import Derived.Test.YthljnnjpmdgkoaaGreatK02
namespace Go.Proofs.YthljnnjpmdgkoaaGreat
open Go Go.RowKit
def lendL (A:Arr) (at_ i:Nat):Arr :=
 ((A.set (kidA A at_ i) ⟨(ndA A at_).pairs.getD (i-1) default :: (ndA A (kidA A at_ i)).pairs,(ndA A (kidA A at_ (i-1))).kids.drop (ndA A (kidA A at_ (i-1))).pairs.length++(ndA A (kidA A at_ i)).kids⟩).set at_
   ⟨(ndA A at_).pairs.set (i-1) ((ndA A (kidA A at_ (i-1))).pairs.getD ((ndA A (kidA A at_ (i-1))).pairs.length-1) default),(ndA A at_).kids⟩).set (kidA A at_ (i-1))
   ⟨(ndA A (kidA A at_ (i-1))).pairs.take ((ndA A (kidA A at_ (i-1))).pairs.length-1),(ndA A (kidA A at_ (i-1))).kids.take (ndA A (kidA A at_ (i-1))).pairs.length⟩
def lendR (A:Arr) (at_ i:Nat):Arr :=
 ((A.set (kidA A at_ i) ⟨(ndA A (kidA A at_ i)).pairs++[(ndA A at_).pairs.getD i default],(ndA A (kidA A at_ i)).kids++(ndA A (kidA A at_ (i+1))).kids.take 1⟩).set at_
   ⟨(ndA A at_).pairs.set i ((ndA A (kidA A at_ (i+1))).pairs.getD 0 default),(ndA A at_).kids⟩).set (kidA A at_ (i+1))
   ⟨(ndA A (kidA A at_ (i+1))).pairs.drop 1,(ndA A (kidA A at_ (i+1))).kids.drop 1⟩
theorem zmw {A:Arr} {fr:List Nat} {d at_ a b:Nat} {P:Pairs} {K1 K2:List Nat} (h:Pt A fr (d+1) at_) (hn:ndA A at_=⟨P,K1++[a,b]++K2⟩):a≠at_/\b≠at_/\a≠b:=by
 have c:∀ j,(if at_=j then 1 else 0)+(if a=j then 1 else 0)+(if b=j then 1 else 0)<=1:=by
  intro j;have:=h.one j;rw [zbw hn] at this;simp only [List.count_cons,List.count_append,List.flatMap_cons,List.flatMap_nil,List.append_nil,beq_iff_eq] at this;have g:(own A d a).count j=(if a=j then 1 else 0)+(nidx A d (ndA A a)).count j:=(by unfold own;rw [List.count_cons];simp only [beq_iff_eq];omega);have f:(own A d b).count j=(if b=j then 1 else 0)+(nidx A d (ndA A b)).count j:=(by unfold own;rw [List.count_cons];simp only [beq_iff_eq];omega);omega
 refine ⟨fun e=>?_,fun e=>?_,fun e=>?_⟩
 · have:=c a;rw [if_pos e.symm,if_pos rfl] at this;omega
 · have:=c b;rw [if_pos e.symm,if_pos rfl] at this;omega
 have:=c b;rw [if_pos e,if_pos rfl] at this;omega
theorem zxh {A:Arr} {fr:List Nat} {d at_ l k:Nat} {P1 P2:Pairs} {K1 K2:List Nat} {p:ByteArray×Int} (h:Pt A fr (d+1) at_) (hn:ndA A at_=⟨P1++[p]++P2,K1++[l,k]++K2⟩) (h1:K1.length=P1.length) (h2:K2.length=P2.length)
 (h5:5<=(ndA A l).pairs.length) (h8:(ndA A k).pairs.length<=8):∃ x,(ndA A l).pairs[(ndA A l).pairs.length-1]?=some x/\Step A fr (lendL A at_ (P1.length+1)) fr (d+1) at_/\trav (lendL A at_ (P1.length+1)) (d+1) at_=trav A (d+1) at_ ∧
   ndA (lendL A at_ (P1.length+1)) at_=⟨P1++[x]++P2,K1++[l,k]++K2⟩/\(ndA (lendL A at_ (P1.length+1)) k).pairs.length=(ndA A k).pairs.length+1/\(lendL A at_ (P1.length+1)).length=A.length ∧
   kidA A at_ P1.length=l/\kidA A at_ (P1.length+1)=k:=by
 obtain ⟨x,w⟩:∃ x,(ndA A l).pairs[(ndA A l).pairs.length-1]?=some x:=⟨_,List.getElem?_eq_getElem (by omega)⟩;have i:ndA A at_=⟨P1++[p]++P2,K1++l :: k :: K2⟩:=by rw [hn];simp
 have E:kidA A at_ P1.length=l:=by rw [<-h1];exact zfs i
 have F:kidA A at_ (P1.length+1)=k:=by rw [<-h1];exact zhb i
 obtain ⟨s,t,v⟩:=zmw h hn
 have n:∀ c,c=l\/c=k->c∈(ndA A at_).kids:=by
  intro c J;rw [hn];rcases J with rfl | rfl <;> simp
 obtain ⟨O,H,I,u⟩:=h.wf.2 l (n l (.inl rfl));obtain ⟨q,N,P,r⟩:=h.wf.2 k (n k (.inr rfl));have K:=h.lt
 have m:lendL A at_ (P1.length+1)=((A.set k ⟨p :: (ndA A k).pairs,(ndA A l).kids.drop (ndA A l).pairs.length++(ndA A k).kids⟩).set at_ ⟨P1++[x]++P2,K1++[l,k]++K2⟩).set l ⟨(ndA A l).pairs.take ((ndA A l).pairs.length-1),(ndA A l).kids.take (ndA A l).pairs.length⟩:=by
  unfold lendL;rw [Nat.add_sub_cancel,E,F,hn]
  congr 2
  · simp [List.getD]
  simp [List.getD,w]
 have B:ndA (lendL A at_ (P1.length+1)) at_=⟨P1++[x]++P2,K1++[l,k]++K2⟩:=by rw [m,zai _ s];exact zap _ (by simp;omega)
 have D:ndA (lendL A at_ (P1.length+1)) k=⟨p :: (ndA A k).pairs,(ndA A l).kids.drop (ndA A l).pairs.length++(ndA A k).kids⟩:=by
  rw [m,zai _ v,zai _ t.symm];exact zap _ q
 have L:ndA (lendL A at_ (P1.length+1)) l=⟨(ndA A l).pairs.take ((ndA A l).pairs.length-1),(ndA A l).kids.take (ndA A l).pairs.length⟩:=by rw [m];exact zap _ (by simp;omega)
 have M:∀ j,j≠at_->j≠l->j≠k->ndA (lendL A at_ (P1.length+1)) j=ndA A j:=by
  intro j a b c;rw [m,zai _ (Ne.symm b),zai _ (Ne.symm a),zai _ (Ne.symm c)]
 have G:(lendL A at_ (P1.length+1)).length=A.length:=by rw [m];simp
 generalize lendL A at_ (P1.length+1)=A' at *;have f:nWf A d ⟨(ndA A l).pairs,(ndA A l).kids⟩:=u;obtain ⟨w1,o⟩:=zfo d _ _ ((ndA A l).pairs.length-1) f (by omega);have e:=zec d _ _ _ x f w;rw [show (ndA A l).pairs.length-1+1=(ndA A l).pairs.length by omega] at w1 o e;rw [List.drop_length] at o e;have y:ntrav A d (ndA A l)=_:=e;have C:=Step.two (x:=x) h hn h1 h2 G B L D M w1 (zpg d [] _ p _ _ o r) (by simp;omega) (by simp;omega) (by simp;omega) (by simp;omega) (fun j=>?c1) ?c2 ?c3
 case c1 =>
  have g:nidx A d ⟨p :: (ndA A k).pairs,(ndA A l).kids.drop (ndA A l).pairs.length++(ndA A k).kids⟩=nidx A d ⟨[],(ndA A l).kids.drop (ndA A l).pairs.length⟩++nidx A d (ndA A k):=zdo d _ _ _ _ _
  have z:nidx A d (ndA A l)=nidx A d ⟨(ndA A l).pairs.take ((ndA A l).pairs.length-1),(ndA A l).kids.take (ndA A l).pairs.length⟩++nidx A d ⟨[],(ndA A l).kids.drop (ndA A l).pairs.length⟩:=by
   rw [<-zdo d _ _ (ndA A l).pairs,List.take_append_drop]
  rw [g,z,List.count_append,List.count_append];omega
 case c2 =>
  have g:nidx A d ⟨p :: (ndA A k).pairs,(ndA A l).kids.drop (ndA A l).pairs.length++(ndA A k).kids⟩=nidx A d ⟨[],(ndA A l).kids.drop (ndA A l).pairs.length⟩++nidx A d (ndA A k):=zdo d _ _ _ _ _
  have z:nidx A d (ndA A l)=nidx A d ⟨(ndA A l).pairs.take ((ndA A l).pairs.length-1),(ndA A l).kids.take (ndA A l).pairs.length⟩++nidx A d ⟨[],(ndA A l).kids.drop (ndA A l).pairs.length⟩:=by
   rw [<-zdo d _ _ (ndA A l).pairs,List.take_append_drop]
  rw [g,z,List.length_append,List.length_append];omega
 case c3 =>
  have g:ntrav A d ⟨p :: (ndA A k).pairs,(ndA A l).kids.drop (ndA A l).pairs.length++(ndA A k).kids⟩=ntrav A d ⟨[],(ndA A l).kids.drop (ndA A l).pairs.length⟩++p :: ntrav A d (ndA A k):=zfn d [] _ p _ _ o;rw [g,y];simp
 exact ⟨x,w,C.1,C.2,B,by rw [D];simp,G,E,F⟩
theorem zxg {A:Arr} {fr:List Nat} {d at_ k r:Nat} {P1 P2:Pairs} {K1 K2:List Nat} {p:ByteArray×Int} (h:Pt A fr (d+1) at_) (hn:ndA A at_=⟨P1++[p]++P2,K1++[k,r]++K2⟩) (h1:K1.length=P1.length) (h2:K2.length=P2.length)
 (h5:5<=(ndA A r).pairs.length) (h8:(ndA A k).pairs.length<=8):∃ x,(ndA A r).pairs[0]?=some x/\Step A fr (lendR A at_ P1.length) fr (d+1) at_/\trav (lendR A at_ P1.length) (d+1) at_=trav A (d+1) at_ ∧
   ndA (lendR A at_ P1.length) at_=⟨P1++[x]++P2,K1++[k,r]++K2⟩/\(ndA (lendR A at_ P1.length) k).pairs.length=(ndA A k).pairs.length+1/\(lendR A at_ P1.length).length=A.length ∧
   kidA A at_ P1.length=k/\kidA A at_ (P1.length+1)=r:=by
 obtain ⟨x,t⟩:∃ x,(ndA A r).pairs[0]?=some x:=⟨_,List.getElem?_eq_getElem (by omega)⟩;have g:ndA A at_=⟨P1++[p]++P2,K1++k :: r :: K2⟩:=by rw [hn];simp
 have D:kidA A at_ P1.length=k:=by rw [<-h1];exact zfs g
 have E:kidA A at_ (P1.length+1)=r:=by rw [<-h1];exact zhb g
 obtain ⟨q,u,v⟩:=zmw h hn
 have l:∀ c,c=k\/c=r->c∈(ndA A at_).kids:=by
  intro c H;rw [hn];rcases H with rfl | rfl <;> simp
 obtain ⟨n,Q,I,m⟩:=h.wf.2 k (l k (.inl rfl));obtain ⟨O,K,P,o⟩:=h.wf.2 r (l r (.inr rfl));have J:=h.lt
 have i:lendR A at_ P1.length=((A.set k ⟨(ndA A k).pairs++[p],(ndA A k).kids++(ndA A r).kids.take 1⟩).set at_ ⟨P1++[x]++P2,K1++[k,r]++K2⟩).set r ⟨(ndA A r).pairs.drop 1,(ndA A r).kids.drop 1⟩:=by
  unfold lendR;rw [D,E,hn]
  congr 2
  · simp [List.getD]
  simp [List.getD,t]
 have y:ndA (lendR A at_ P1.length) at_=⟨P1++[x]++P2,K1++[k,r]++K2⟩:=by rw [i,zai _ u];exact zap _ (by simp;omega)
 have B:ndA (lendR A at_ P1.length) k=⟨(ndA A k).pairs++[p],(ndA A k).kids++(ndA A r).kids.take 1⟩:=by
  rw [i,zai _ v.symm,zai _ q.symm];exact zap _ n
 have L:ndA (lendR A at_ P1.length) r=⟨(ndA A r).pairs.drop 1,(ndA A r).kids.drop 1⟩:=by rw [i];exact zap _ (by simp;omega)
 have N:∀ j,j≠at_->j≠k->j≠r->ndA (lendR A at_ P1.length) j=ndA A j:=by
  intro j a b c;rw [i,zai _ (Ne.symm c),zai _ (Ne.symm a),zai _ (Ne.symm b)]
 have F:(lendR A at_ P1.length).length=A.length:=by rw [i];simp
 generalize lendR A at_ P1.length=A' at *;have f:nWf A d ⟨(ndA A r).pairs,(ndA A r).kids⟩:=o;obtain ⟨w1,C⟩:=zfo d _ _ 0 f (by omega);have e:=zec d _ _ _ x f t;rw [Nat.zero_add] at w1 C e;rw [List.take_zero] at w1 e;have s:ntrav A d (ndA A r)=_:=e;have w:nidx A d ⟨(ndA A k).pairs++[p],(ndA A k).kids++(ndA A r).kids.take 1⟩=nidx A d (ndA A k)++nidx A d ⟨[],(ndA A r).kids.take 1⟩:=zdo d _ _ _ _ _
 have G:nidx A d (ndA A r)=nidx A d ⟨[],(ndA A r).kids.take 1⟩++nidx A d ⟨(ndA A r).pairs.drop 1,(ndA A r).kids.drop 1⟩:=by
  rw [<-zdo d _ _ (ndA A r).pairs,List.take_append_drop]
 have z:=Step.two (x:=x) h hn h1 h2 F y B L N (zpg d _ _ p [] _ m w1) C (by simp;omega) (by simp;omega) (by simp;omega) (by simp;omega) (fun j=>?c1) ?c2 ?c3
 case c1 =>
  rw [w,G,List.count_append,List.count_append];omega
 case c2 =>
  rw [w,G,List.length_append,List.length_append];omega
 case c3 =>
  have M:ntrav A d ⟨(ndA A k).pairs++[p],(ndA A k).kids++(ndA A r).kids.take 1⟩=ntrav A d (ndA A k)++p :: ntrav A d ⟨[],(ndA A r).kids.take 1⟩:=zfn d _ _ p [] _ m;rw [M,s];simp
 exact ⟨x,t,z.1,z.2,y,by rw [B];simp,F,D,E⟩
def fillA (A:Arr) (fr:List Nat) (at_ i:Nat):Arr×List Nat :=
 if 4<(ndA A (kidA A at_ i)).pairs.length then (A,fr)
 else if 0<i/\4<(ndA A (kidA A at_ (i-1))).pairs.length then (lendL A at_ i,fr)
 else if i+1<(ndA A at_).kids.length then if 4<(ndA A (kidA A at_ (i+1))).pairs.length then (lendR A at_ i,fr) else (joinA A at_ i,fr++[kidA A at_ (i+1)])
 else (joinA A at_ (i-1),fr++[kidA A at_ i])
structure FillOk (A:Arr) (fr:List Nat) (d at_:Nat) (key:ByteArray) (r:Arr×List Nat):Prop where
 step:Step A fr r.1 r.2 (d+1) at_
 trav:trav r.1 (d+1) at_=trav A (d+1) at_
 lo:(ndA A at_).pairs.length<=(ndA r.1 at_).pairs.length+1
 hi:(ndA r.1 at_).pairs.length<=(ndA A at_).pairs.length
 kid:∃ k Q1 Q2 L1 L2,ndA r.1 at_=⟨Q1++[]++Q2,L1++[k]++L2⟩/\L1.length=Q1.length/\L2.length=Q2.length/\(∀ p∈Q1,klt p.1 key=true)/\(∀ p∈Q2,klt key p.1=true)/\5<=(ndA r.1 k).pairs.length
theorem zwo {Q1 Q2:Pairs} {key:ByteArray} (h1:∀ p∈Q1,klt p.1 key=true) (h2:∀ p∈Q2,klt key p.1=true):spotOf (Q1++Q2) key=Q1.length/\hitOf (Q1++Q2) key=false:=by
 have a:spotOf (Q1++Q2) key=Q1.length:=by
  unfold spotOf
  induction Q1 with
  | nil =>
    cases Q2 with
    | nil=>rfl
    | cons q Q2=>simp [List.findIdx_cons,zcp (h2 q (by simp))]
  | cons q Q1 ih =>
    rw [List.cons_append,List.findIdx_cons,h1 q (by simp)];simp [ih fun p hp=>h1 p (by simp [hp])]
 refine ⟨a,?_⟩;unfold hitOf;rw [a];rw [List.getElem?_append_right (Nat.le_refl _),Nat.sub_self]
 cases Q2 with
 | nil=>rfl
 | cons q Q2 =>
   have:=klt_ne (h2 q (by simp));rw [zca] at this;exact this
theorem zcs {α:Type} {l:List α} (h:0<l.length):∃ (l':List α) (x:α),l=l'++[x]:=by
 have a:l≠[]:=by rintro rfl;simp at h
 exact ⟨l.dropLast,l.getLast a,(List.dropLast_concat_getLast a).symm⟩
theorem zyx {A:Arr} {fr:List Nat} {d at_ k:Nat} {P1 P2:Pairs} {K1 K2:List Nat} {key:ByteArray} (h:Pt A fr (d+1) at_) (hs:Sorted (trav A (d+1) at_)) (hn:ndA A at_=⟨P1++[]++P2,K1++[k]++K2⟩) (h1:K1.length=P1.length) (h2:K2.length=P2.length)
 (hb:∀ p∈P1,klt p.1 key=true) (ha:∀ p∈P2,klt key p.1=true) (hpos:1<=(ndA A at_).pairs.length):FillOk A fr d at_ key (fillA A fr at_ P1.length):=by
 have N:ndA A at_=⟨P1++P2,K1++k :: K2⟩:=by rw [hn];simp
 have s:kidA A at_ P1.length=k:=by rw [<-h1];exact zfs N
 have H:k∈(ndA A at_).kids:=by rw [hn];simp
 obtain ⟨S,Z,a1,V⟩:=h.wf.2 k H;by_cases c1:4<(ndA A k).pairs.length
 · have e:fillA A fr at_ P1.length=(A,fr):=by unfold fillA;rw [s,if_pos c1]
   rw [e];exact ⟨Step.refl h,rfl,by dsimp only;omega,Nat.le_refl _,k,P1,P2,K1,K2,hn,h1,h2,hb,ha,by dsimp only;omega⟩
 have Q:(ndA A k).pairs.length=4:=by omega
 by_cases c2:0<P1.length/\4<(ndA A (kidA A at_ (P1.length-1))).pairs.length
 · obtain ⟨D,E⟩:=c2
   have e:fillA A fr at_ P1.length=(lendL A at_ P1.length,fr):=(by unfold fillA;rw [s,if_neg c1,if_pos ⟨D,E⟩]);obtain ⟨b,p,rfl⟩:=zcs D;obtain ⟨i,l,rfl⟩:=zcs (l:=K1) (by simp at h1;omega);have a:ndA A at_=⟨b++[p]++P2,i++[l,k]++K2⟩:=(by rw [hn];simp);have c:i.length=b.length:=(by simpa using h1);have u:kidA A at_ b.length=l:=(by rw [<-c];exact zfs (P:=b++[p]++P2) (K2:=k :: K2) (by rw [a];simp));have f:(b++[p]).length=b.length+1:=(by simp);rw [f,Nat.add_sub_cancel,u] at E;obtain ⟨x,M,w,v,m,B,_⟩:=zxh h a c h2 (by omega) (by omega);rw [e,f]
   have J:klt x.1 p.1=true:=by
    have K:=zbd (d:=d) a c h2 rfl;rw [K] at hs;have o:=hs.left.right;simp only [weave] at o;have z:l∈(ndA A at_).kids:=(by rw [a];simp);have t:x∈trav A d l:=(zha d _ (h.wf.2 l z).2.2.2).subset (List.mem_of_getElem? M);exact o.cross x t p (by simp)
   refine ⟨w,v,by rw [m,a];simp,by rw [m,a];simp,k,b++[x],P2,i++[l],K2,by rw [m];simp,by simpa using c,h2,fun y n=>?_,ha,by rw [B];omega⟩;rcases List.mem_append.1 n with n | n
   · exact hb y (by simp [n])
   obtain rfl:y=x:=by simpa using n
   exact zbz J (hb p (by simp))
 have L:(ndA A at_).kids.length=P1.length+1+P2.length:=by rw [hn];simp;omega
 by_cases c3:P1.length+1<(ndA A at_).kids.length
 · obtain ⟨p,g,rfl⟩:∃ p g,P2=p :: g:=by
    cases P2 with
    | nil=>simp at L;omega
    | cons p P2=>exact ⟨p,P2,rfl⟩
   obtain ⟨r,j,rfl⟩:∃ r j,K2=r :: j:=by
    cases K2 with
    | nil=>simp at h2
    | cons r K2=>exact ⟨r,K2,rfl⟩
   have q:j.length=g.length:=(by simpa using h2);have a:ndA A at_=⟨P1++[p]++g,K1++[k,r]++j⟩:=(by rw [hn];simp);have C:kidA A at_ (P1.length+1)=r:=(by rw [<-h1];exact zhb (P:=P1++[p]++g) (K2:=j) (k:=k) (by rw [a];simp));have F:r∈(ndA A at_).kids:=(by rw [a];simp);obtain ⟨X,U,Y,O⟩:=h.wf.2 r F;by_cases c4:4<(ndA A r).pairs.length
   · have e:fillA A fr at_ P1.length=(lendR A at_ P1.length,fr):=by unfold fillA;rw [s,C,if_neg c1,if_neg c2,if_pos c3,if_pos c4]
     obtain ⟨x,M,w,v,m,B,_⟩:=zxg h a h1 q (by omega) (by omega);rw [e]
     have G:klt p.1 x.1=true:=by
      have K:=zbd (d:=d) a h1 q rfl;rw [K] at hs;have o:=hs.left.right;simp only [weave] at o;have t:x∈trav A d r:=(zha d _ O).subset (List.mem_of_getElem? M);exact (List.pairwise_cons.1 o.right).1 x t
     refine ⟨w,v,by rw [m,a];simp,by rw [m,a];simp,k,P1,x :: g,K1,r :: j,by rw [m];simp,h1,by simpa using q,hb,fun y n=>?_,by rw [B];omega⟩;rcases List.mem_cons.1 n with rfl | n
     · exact zbz (ha p (by simp)) G
     exact ha y (by simp [n])
   have e:fillA A fr at_ P1.length=(joinA A at_ P1.length,fr++[r]):=by unfold fillA;rw [s,C,if_neg c1,if_neg c2,if_pos c3,if_neg c4]
   obtain ⟨w,v,m,B,_⟩:=zpl h a h1 q (by omega);rw [e];exact ⟨w,v,by rw [m,a];simp;omega,by rw [m,a];simp,k,P1,g,K1,j,m,h1,q,hb,fun y n=>ha y (by simp [n]),by rw [B];simp;omega⟩
 obtain rfl:P2 = []:=List.eq_nil_of_length_eq_zero (by omega)
 obtain rfl:K2 = []:=List.eq_nil_of_length_eq_zero (by simpa using h2);have I:0<P1.length:=(by rw [hn] at hpos;simp at hpos;omega);have e:fillA A fr at_ P1.length=(joinA A at_ (P1.length-1),fr++[k]):=(by unfold fillA;rw [s,if_neg c1,if_neg c2,if_neg c3]);obtain ⟨b,p,rfl⟩:=zcs I;obtain ⟨i,l,rfl⟩:=zcs (l:=K1) (by simp at h1;omega);have a:ndA A at_=⟨b++[p]++[],i++[l,k]++[]⟩:=(by rw [hn];simp);have c:i.length=b.length:=(by simpa using h1);have u:kidA A at_ b.length=l:=(by rw [<-c];exact zfs (P:=b++[p]++[]) (K2:=[k]) (by rw [a];simp));have f:(b++[p]).length=b.length+1:=(by simp);rw [f,Nat.add_sub_cancel,u] at c2;have z:l∈(ndA A at_).kids:=(by rw [a];simp);obtain ⟨a0,R,T,W⟩:=h.wf.2 l z
 obtain ⟨w,v,m,B,_⟩:=zpl h a c rfl (by omega);rw [e,f,Nat.add_sub_cancel];exact ⟨w,v,by rw [m,a];simp,by rw [m,a];simp,l,b,[],i,[],m,c,rfl,fun y n=>hb y (by simp [n]),by simp,by rw [B];simp;omega⟩
def lastOf {α:Type} (l:List α) (x:α):α:=l.getD (l.length-1) x
def endA:Nat->Arr->Nat->Bool->ByteArray×Int
 | 0,_,_,_=>default
 | g+1,A,at_,last =>
   if (ndA A at_).kids = [] then (if last then lastOf (ndA A at_).pairs default else (ndA A at_).pairs.getD 0 default)
   else endA g A (if last then lastOf (ndA A at_).kids 0 else (ndA A at_).kids.getD 0 0) last
def zes:Nat->Arr->Nat->Bool->Prop
 | 0,_,_,_=>False
 | g+1,A,at_,last=>at_<A.length/\1<=(ndA A at_).pairs.length/\(ndA A at_).pairs.length<=9/\(ndA A at_).kids.length<=10 ∧
   ((ndA A at_).kids≠[]->zes g A (if last then lastOf (ndA A at_).kids 0 else (ndA A at_).kids.getD 0 0) last)
theorem zjj {α:Type} (l:List α) (x y:α):lastOf (l++[x]) y=x:=by unfold lastOf;simp [List.getD]
theorem zro {A:Arr}:∀ (d g at_:Nat),d+1<=g->at_<A.length->nWf A d (ndA A at_)->1<=(ndA A at_).pairs.length->(ndA A at_).pairs.length<=9->(∃ I,trav A d at_=I++[endA g A at_ true])/\zes g A at_ true
 | d,0,_,h,_,_,_,_=>by omega
 | 0,g+1,at_,_,hl,hw,h1,h9=>by
   have hk:(ndA A at_).kids = []:=hw;refine ⟨?_,hl,h1,h9,by rw [hk];simp,fun e=>absurd hk e⟩;obtain ⟨I,x,hI⟩:=zcs h1;refine ⟨I,?_⟩
   show (ndA A at_).pairs=_
   unfold endA;rw [if_pos hk,if_pos rfl,hI,zjj]
 | d+1,g+1,at_,hg,hl,hw,h1,h9=>by
   have hlen:(ndA A at_).kids.length=(ndA A at_).pairs.length+1:=hw.1;have hne:(ndA A at_).kids≠[]:=fun e=>by rw [e] at hlen;simp at hlen
   obtain ⟨K,k,hK⟩:=zcs (l:=(ndA A at_).kids) (by omega);have hkm:k∈(ndA A at_).kids:=(by rw [hK];simp);obtain ⟨a1,a2,a3,a4⟩:=hw.2 k hkm;have hlast:lastOf (ndA A at_).kids 0=k:=(by rw [hK,zjj]);obtain ⟨⟨I,hI⟩,hsafe⟩:=zro d g k (by omega) a1 a4 (by omega) a3;refine ⟨?_,hl,h1,h9,by omega,fun _=>by rw [if_pos rfl,hlast];exact hsafe⟩;have hn:ndA A at_=⟨(ndA A at_).pairs++[]++[],K++[k]++[]⟩:=(by rw [List.append_nil,List.append_nil,List.append_nil,<-hK]);rw [hK] at hlen;have ht:=zbd (d:=d) hn (by simpa using hlen) rfl rfl;refine ⟨lw (trav A d) K (ndA A at_).pairs++I,?_⟩;rw [ht];unfold endA;rw [if_neg hne,if_pos rfl,hlast];simp [weave,rwv,hI]
theorem zog {A:Arr}:∀ (d g at_:Nat),d+1<=g->at_<A.length->nWf A d (ndA A at_)->1<=(ndA A at_).pairs.length->(ndA A at_).pairs.length<=9->(∃ I,trav A d at_=endA g A at_ false :: I)/\zes g A at_ false
 | d,0,_,h,_,_,_,_=>by omega
 | 0,g+1,at_,_,hl,hw,h1,h9=>by
   have hk:(ndA A at_).kids = []:=hw;refine ⟨?_,hl,h1,h9,by rw [hk];simp,fun e=>absurd hk e⟩
   cases hp:(ndA A at_).pairs with
   | nil=>rw [hp] at h1;simp at h1
   | cons x I =>
     refine ⟨I,?_⟩
     show (ndA A at_).pairs=_
     unfold endA;rw [if_pos hk,if_neg (by decide),hp]
     rfl
 | d+1,g+1,at_,hg,hl,hw,h1,h9=>by
   have hlen:(ndA A at_).kids.length=(ndA A at_).pairs.length+1:=hw.1;have hne:(ndA A at_).kids≠[]:=fun e=>by rw [e] at hlen;simp at hlen
   obtain ⟨k,K,hK⟩:∃ k K,(ndA A at_).kids=k :: K:=by
    cases hk:(ndA A at_).kids with
    | nil=>exact absurd hk hne
    | cons k K=>exact ⟨k,K,rfl⟩
   have c:k∈(ndA A at_).kids:=(by rw [hK];simp);obtain ⟨a1,a2,a3,l⟩:=hw.2 k c;have a:(ndA A at_).kids.getD 0 0=k:=(by rw [hK];rfl);obtain ⟨⟨I,j⟩,b⟩:=zog d g k (by omega) a1 l (by omega) a3;refine ⟨?_,hl,h1,h9,by omega,fun _=>by rw [if_neg (by decide),a];exact b⟩;have f:ndA A at_=⟨[]++[]++(ndA A at_).pairs,[]++[k]++K⟩:=(by rw [List.append_nil,List.nil_append,List.nil_append,List.singleton_append,<-hK]);rw [hK] at hlen;have i:=zbd (d:=d) f rfl (by simpa using hlen) rfl;refine ⟨I++rwv (trav A d) (ndA A at_).pairs K,?_⟩;rw [i];unfold endA;rw [if_neg hne,if_neg (by decide),a];simp [weave,lw,j]
def delA:Nat->Arr->List Nat->Nat->ByteArray->Arr×List Nat
 | 0,A,fr,_,_=>(A,fr)
 | g+1,A,fr,at_,key =>
   if (ndA A at_).kids = [] then (A.set at_ ⟨(ndA A at_).pairs.take (spotOf (ndA A at_).pairs key)++(ndA A at_).pairs.drop (spotOf (ndA A at_).pairs key+1),[]⟩,fr)
   else if hitOf (ndA A at_).pairs key=false then
    delA g (fillA A fr at_ (spotOf (ndA A at_).pairs key)).1 (fillA A fr at_ (spotOf (ndA A at_).pairs key)).2
     (kidA (fillA A fr at_ (spotOf (ndA A at_).pairs key)).1 at_ (spotOf (ndA (fillA A fr at_ (spotOf (ndA A at_).pairs key)).1 at_).pairs key)) key
   else if 4<(ndA A (kidA A at_ (spotOf (ndA A at_).pairs key))).pairs.length then
    delA g (A.set at_ ⟨(ndA A at_).pairs.set (spotOf (ndA A at_).pairs key) (endA g A (kidA A at_ (spotOf (ndA A at_).pairs key)) true),(ndA A at_).kids⟩) fr (kidA A at_ (spotOf (ndA A at_).pairs key)) (endA g A (kidA A at_ (spotOf (ndA A at_).pairs key)) true).1
   else if 4<(ndA A (kidA A at_ (spotOf (ndA A at_).pairs key+1))).pairs.length then
    delA g (A.set at_ ⟨(ndA A at_).pairs.set (spotOf (ndA A at_).pairs key) (endA g A (kidA A at_ (spotOf (ndA A at_).pairs key+1)) false),(ndA A at_).kids⟩) fr (kidA A at_ (spotOf (ndA A at_).pairs key+1)) (endA g A (kidA A at_ (spotOf (ndA A at_).pairs key+1)) false).1
   else delA g (joinA A at_ (spotOf (ndA A at_).pairs key)) (fr++[kidA A at_ (spotOf (ndA A at_).pairs key+1)]) (kidA A at_ (spotOf (ndA A at_).pairs key)) key
def zeu:Nat->Arr->List Nat->Nat->ByteArray->Prop
 | 0,_,_,_,_=>False
 | g+1,A,fr,at_,key =>
   at_<A.length/\(ndA A at_).pairs.length<=9 ∧
   ((ndA A at_).kids = []->spotOf (ndA A at_).pairs key<(ndA A at_).pairs.length) ∧
   ((ndA A at_).kids≠[]->zbo A fr at_/\1<=(ndA A at_).pairs.length ∧
     (hitOf (ndA A at_).pairs key=false →
       zbo (fillA A fr at_ (spotOf (ndA A at_).pairs key)).1 (fillA A fr at_ (spotOf (ndA A at_).pairs key)).2 at_ ∧
       hitOf (ndA (fillA A fr at_ (spotOf (ndA A at_).pairs key)).1 at_).pairs key=false ∧
       zeu g (fillA A fr at_ (spotOf (ndA A at_).pairs key)).1 (fillA A fr at_ (spotOf (ndA A at_).pairs key)).2
        (kidA (fillA A fr at_ (spotOf (ndA A at_).pairs key)).1 at_ (spotOf (ndA (fillA A fr at_ (spotOf (ndA A at_).pairs key)).1 at_).pairs key)) key) ∧
     (hitOf (ndA A at_).pairs key=true->4<(ndA A (kidA A at_ (spotOf (ndA A at_).pairs key))).pairs.length →
       zes g A (kidA A at_ (spotOf (ndA A at_).pairs key)) true ∧
       zeu g (A.set at_ ⟨(ndA A at_).pairs.set (spotOf (ndA A at_).pairs key) (endA g A (kidA A at_ (spotOf (ndA A at_).pairs key)) true),(ndA A at_).kids⟩) fr (kidA A at_ (spotOf (ndA A at_).pairs key)) (endA g A (kidA A at_ (spotOf (ndA A at_).pairs key)) true).1) ∧
     (hitOf (ndA A at_).pairs key=true->¬ 4<(ndA A (kidA A at_ (spotOf (ndA A at_).pairs key))).pairs.length->4<(ndA A (kidA A at_ (spotOf (ndA A at_).pairs key+1))).pairs.length →
       zes g A (kidA A at_ (spotOf (ndA A at_).pairs key+1)) false ∧
       zeu g (A.set at_ ⟨(ndA A at_).pairs.set (spotOf (ndA A at_).pairs key) (endA g A (kidA A at_ (spotOf (ndA A at_).pairs key+1)) false),(ndA A at_).kids⟩) fr (kidA A at_ (spotOf (ndA A at_).pairs key+1)) (endA g A (kidA A at_ (spotOf (ndA A at_).pairs key+1)) false).1) ∧
     (hitOf (ndA A at_).pairs key=true->¬ 4<(ndA A (kidA A at_ (spotOf (ndA A at_).pairs key))).pairs.length->¬ 4<(ndA A (kidA A at_ (spotOf (ndA A at_).pairs key+1))).pairs.length →
       zeu g (joinA A at_ (spotOf (ndA A at_).pairs key)) (fr++[kidA A at_ (spotOf (ndA A at_).pairs key+1)]) (kidA A at_ (spotOf (ndA A at_).pairs key)) key))
structure DelOk (g:Nat) (A:Arr) (fr:List Nat) (d at_:Nat) (key:ByteArray):Prop where
 step:Step A fr (delA g A fr at_ key).1 (delA g A fr at_ key).2 d at_
 trav:trav (delA g A fr at_ key).1 d at_=delT (trav A d at_) key
 lo:(ndA A at_).pairs.length<=(ndA (delA g A fr at_ key).1 at_).pairs.length+1
 hi:(ndA (delA g A fr at_ key).1 at_).pairs.length<=9
 safe:zeu g A fr at_ key
theorem zrq (key:ByteArray) (L M R:Pairs) (hL:∀ q∈L,klt q.1 key=true) (hR:∀ q∈R,klt key q.1=true):delT (L++M++R) key=L++delT M key++R:=by
 unfold delT;have b:L.filter (fun p=>!keq p.1 key)=L:=List.filter_eq_self.2 fun q hq=>by rw [klt_ne (hL q hq)];rfl
 have a:R.filter (fun p=>!keq p.1 key)=R:=List.filter_eq_self.2 fun q hq=>by rw [zca,klt_ne (hR q hq)];rfl
 rw [List.filter_append,List.filter_append,b,a]
theorem zgc (key:ByteArray) (m:Int) (L R:Pairs) (hL:∀ q∈L,klt q.1 key=true) (hR:∀ q∈R,klt key q.1=true):delT (L++(key,m) :: R) key=L++R:=by
 have:=zrq key L [(key,m)] R hL hR;rw [List.append_assoc,List.singleton_append] at this;rw [this];simp [delT,zas.2 rfl]
theorem zky {T:Pairs} (hT:Sorted T) {key:ByteArray} (h:(getT T key).2=true):hitOf T key=true:=by
 rw [zmb T hT] at h
 cases hh:hitOf T key with
 | true=>rfl
 | false=>rw [hh] at h;simp at h
theorem zen {A:Arr} {d at_ k:Nat} {P:Pairs} {K1 K2:List Nat} (hn:ndA A at_=⟨P,K1++[k]++K2⟩):(own A d k).length<(own A (d+1) at_).length:=by
 rw [zbw hn];simp;omega
theorem zvd (f:Nat->Pairs):∀ (K:List Nat) (P:Pairs) (l:Nat) (x:ByteArray×Int),K.length=P.length->lw f (K++[l]) (P++[x])=lw f K P++f l++[x]
 | [],[],l,x,_=>by simp [lw]
 | [],_ :: _,_,_,h=>by simp at h
 | _ :: _,[],_,_,h=>by simp at h
 | k :: K,p :: P,l,x,h=>by simp [lw,zvd f K P l x (by simpa using h)]
theorem zjx:∀ (d g:Nat) (A:Arr) (fr:List Nat) (at_:Nat) (key:ByteArray),d+1<=g->Pt A fr d at_->Sorted (trav A d at_)->(getT (trav A d at_) key).2=true->(d=0\/1<=(ndA A at_).pairs.length)->(ndA A at_).pairs.length<=9 →
 (own A d at_).length+fr.length<=A.length->DelOk g A fr d at_ key
 | d,0,_,_,_,_,h,_,_,_,_,_,_=>by omega
 | 0,g+1,A,fr,at_,key,_,h,hs,hget,_,h9,hc=>by
   have hk:(ndA A at_).kids = []:=h.wf;have hs':Sorted (ndA A at_).pairs:=hs;have hhit:hitOf (ndA A at_).pairs key=true:=zky hs' hget;obtain ⟨m,hm⟩:=hit_at hhit;have hil:=(List.getElem?_eq_some_iff.1 hm).1;have hset:delA (g+1) A fr at_ key=(A.set at_ ⟨(ndA A at_).pairs.take (spotOf (ndA A at_).pairs key)++(ndA A at_).pairs.drop (spotOf (ndA A at_).pairs key+1),(ndA A at_).kids⟩,fr):=(by simp [delA,hk]);obtain ⟨hst,htr⟩:=zdy h ((ndA A at_).pairs.take (spotOf (ndA A at_).pairs key)++(ndA A at_).pairs.drop (spotOf (ndA A at_).pairs key+1)) (.inl rfl);refine ⟨by rw [hset];exact hst,?_,?_,?_,h.lt,h9,fun _=>hil,fun e=>absurd hk e⟩
   · rw [hset]
     dsimp only;rw [htr]
     show (ndA A at_).pairs.take _++(ndA A at_).pairs.drop _=delT (ndA A at_).pairs key
     have e:(ndA A at_).pairs=(ndA A at_).pairs.take (spotOf (ndA A at_).pairs key)++(key,m) :: (ndA A at_).pairs.drop (spotOf (ndA A at_).pairs key+1):=by
      have:=List.take_append_drop (spotOf (ndA A at_).pairs key) (ndA A at_).pairs;rw [List.drop_eq_getElem_cons hil,(List.getElem?_eq_some_iff.1 hm).2] at this;exact this.symm
     have hb:=zek (T:=(ndA A at_).pairs) (key:=key);generalize spotOf (ndA A at_).pairs key=i at *;have z:Sorted ((ndA A at_).pairs.take i++(key,m) :: (ndA A at_).pairs.drop (i+1)):=(by rw [<-e];exact hs')
     conv=>rhs;rw [e]
     rw [zgc key m _ _ hb fun q hq=>(List.pairwise_cons.1 z.right).1 q hq]
   · rw [hset];dsimp only;rw [zap _ h.lt];simp;omega
   rw [hset];dsimp only;rw [zap _ h.lt];simp;omega
 | d+1,g+1,A,fr,at_,key,hg,h,hs,hget,h01,h9,hc=>by
   have y:1<=(ndA A at_).pairs.length:=(by rcases h01 with e | e <;> omega);have hl:(ndA A at_).kids.length=(ndA A at_).pairs.length+1:=h.wf.1;have w:(ndA A at_).kids≠[]:=fun e=>by rw [e] at hl;simp at hl
   have n:=h.safe h9 hc
   cases hh:hitOf (ndA A at_).pairs key with
   | false =>
     obtain ⟨k,K1,K2,P1,P2,o,M,h2,aA,b7,bg,hb,ha⟩:=down h.wf hs hh;have hF:=zyx h hs o M h2 hb ha y;rw [aA] at hF
     have hset:delA (g+1) A fr at_ key=delA g (fillA A fr at_ (spotOf (ndA A at_).pairs key)).1 (fillA A fr at_ (spotOf (ndA A at_).pairs key)).2
      (kidA (fillA A fr at_ (spotOf (ndA A at_).pairs key)).1 at_ (spotOf (ndA (fillA A fr at_ (spotOf (ndA A at_).pairs key)).1 at_).pairs key)) key:=by
      show delA (g+1) A fr at_ key=_
      rw [delA,if_neg w,if_pos hh]
     have O:=hF.step.cover;generalize hr:fillA A fr at_ (spotOf (ndA A at_).pairs key)=r at *;obtain ⟨f,aF⟩:=r;dsimp only at *;obtain ⟨k',Q1,Q2,L1,L2,D,g1,g2,ah,ak,h5⟩:=hF.kid;dsimp only at D h5;have H:=hF.step;have Y:=hF.trav;have a2:=hF.lo;have aj:=hF.hi;dsimp only at H Y a2 aj;obtain ⟨e1,e2⟩:=zwo ah ak;have am:(ndA f at_).pairs=Q1++Q2:=(by rw [D];simp)
     have s:kidA f at_ (spotOf (ndA f at_).pairs key)=k':=by
      rw [am,e1,<-g1];exact zfs (P:=Q1++[]++Q2) (K2:=L2) (by rw [D];simp)
     have L:Sorted (trav f (d+1) at_):=(by rw [Y];exact hs);obtain ⟨ht,az,aq,av⟩:=zgp D g1 g2 L ah ak;have ar:k'∈(ndA f at_).kids:=(by rw [D];simp);obtain ⟨aS,be,aC,aZ⟩:=H.pt.wf.2 k' ar;have U:(own f d k').length<(own f (d+1) at_).length:=zen D;have p:=zjx d g f aF k' key (by omega) (H.pt.kid ar) az (by rw [<-Y,ht,zma key _ _ _ aq av] at hget;exact hget) (.inr (by omega)) aC (by omega);obtain ⟨s1,R,s3⟩:=Step.kid H.pt D g1 g2 p.step (by have:=p.lo;omega) p.hi;refine ⟨by rw [hset,s];exact H.trans s1,?_,?_,?_,h.lt,h9,fun e=>absurd e w,fun _=>⟨n,y,fun _=>?_,fun e=>?_,fun e=>?_,fun e=>?_⟩⟩
     · rw [hset,s,s3,p.trav,<-Y,ht,zrq key _ _ _ aq av]
     · rw [hset,s,R];exact a2
     · rw [hset,s,R];omega
     · rw [hr]
       dsimp only;refine ⟨H.pt.safe (by omega) (by omega),by rw [am];exact e2,by rw [s];exact p.safe⟩
     all_goals rw [hh] at e;cases e
   | true =>
     obtain ⟨m,hm⟩:=hit_at hh;have hil:=(List.getElem?_eq_some_iff.1 hm).1
     -- the node parted at the key
     obtain ⟨P1,P2,K1,K2,l,r,o,M,h2,hi⟩:∃ P1 P2 K1 K2 l r,ndA A at_=⟨P1++[(key,m)]++P2,K1++[l,r]++K2⟩/\K1.length=P1.length/\K2.length=P2.length/\spotOf (ndA A at_).pairs key=P1.length:=by
      generalize bd:ndA A at_=nd at *;obtain ⟨P,K⟩:=nd;dsimp only at *;generalize spotOf P key=i at *;refine ⟨P.take i,P.drop (i+1),K.take i,K.drop (i+2),K[i],K[i+1],?_,by simp;omega,by simp;omega,by simp;omega⟩
      have e1:P.take i++[(key,m)]++P.drop (i+1)=P:=by
       have:=List.take_append_drop i P;rw [List.drop_eq_getElem_cons hil,(List.getElem?_eq_some_iff.1 hm).2] at this;simpa using this
      have e2:K.take i++[K[i],K[i+1]]++K.drop (i+2)=K:=by
       have:=List.take_append_drop i K;rw [List.drop_eq_getElem_cons (by omega),List.drop_eq_getElem_cons (by omega)] at this;simp
      rw [e1,e2]
     have t:kidA A at_ (spotOf (ndA A at_).pairs key)=l:=(by rw [hi,<-M];exact zfs (P:=P1++[(key,m)]++P2) (K2:=r :: K2) (by rw [o];simp));have B:kidA A at_ (spotOf (ndA A at_).pairs key+1)=r:=(by rw [hi,<-M];exact zhb (P:=P1++[(key,m)]++P2) (K2:=K2) (k:=l) (by rw [o];simp));have E:l∈(ndA A at_).kids:=(by rw [o];simp);have C:r∈(ndA A at_).kids:=(by rw [o];simp);obtain ⟨aJ,aR,ap,aH⟩:=h.wf.2 l E;obtain ⟨aI,aX,aw,aD⟩:=h.wf.2 r C;have ht:=zbd (d:=d) o M h2 rfl;have aa:trav A (d+1) at_=(lw (trav A d) K1 P1++trav A d l)++(key,m) :: (trav A d r++rwv (trav A d) P2 K2):=(by rw [ht];simp [weave]);have z:=hs;rw [aa] at z;have V:∀ q∈lw (trav A d) K1 P1++trav A d l,klt q.1 key=true:=fun q hq=>z.cross q hq (key,m) (by simp)
     have a1:∀ q∈trav A d r++rwv (trav A d) P2 K2,klt key q.1=true:=fun q hq=>(List.pairwise_cons.1 z.right).1 q hq;have N:delT (trav A (d+1) at_) key=(lw (trav A d) K1 P1++trav A d l)++(trav A d r++rwv (trav A d) P2 K2):=(by rw [aa,zgc key m _ _ V a1]);have a5:Sorted (trav A d l):=z.left.right;have a8:Sorted (trav A d r):=(z.right.sub (List.sublist_cons_self _ _)).left;have ba:ndA A at_=⟨P1++[]++((key,m) :: P2),K1++[l]++(r :: K2)⟩:=(by rw [o];simp);have aW:ndA A at_=⟨(P1++[(key,m)])++[]++P2,(K1++[l])++[r]++K2⟩:=(by rw [o];simp);have u:∀ x,(ndA A at_).pairs.set (spotOf (ndA A at_).pairs key) x=P1++[x]++P2:=(by intro x;rw [hi,o];simp);have W:(ndA A at_).kids=K1++[l,r]++K2:=(by rw [o]);by_cases c1:4<(ndA A l).pairs.length
     · obtain ⟨⟨I,hI⟩,a9⟩:=zro d g l (by omega) aJ aH (by omega) ap
       have hset:delA (g+1) A fr at_ key=delA g (A.set at_ ⟨P1++[endA g A l true]++P2,(ndA A at_).kids⟩) fr l (endA g A l true).1:=by
        rw [delA,if_neg w,if_neg (by rw [hh];simp),t,if_pos c1,u]
       obtain ⟨hst,htr⟩:=zdy h (P1++[endA g A l true]++P2) (.inr (by rw [o];simp));have v:ndA (A.set at_ ⟨P1++[endA g A l true]++P2,(ndA A at_).kids⟩) at_=⟨P1++[endA g A l true]++P2,(ndA A at_).kids⟩:=zap _ h.lt;have a:∀ c,c∈(ndA A at_).kids->ndA (A.set at_ ⟨P1++[endA g A l true]++P2,(ndA A at_).kids⟩) c=ndA A c:=fun c hc=>zai _ (n.kid c hc).2.1.symm
       have b:∀ c,c∈(ndA A at_).kids->trav (A.set at_ ⟨P1++[endA g A l true]++P2,(ndA A at_).kids⟩) d c=trav A d c:=by
        intro c hc;refine (zeb (by simp) fun j hj=>zai _ fun e=>?_).2.2.1;have h3:=h.one at_;have h4:0<(nidx A (d+1) (ndA A at_)).count at_:=List.count_pos_iff.2 (List.mem_flatMap.2 ⟨c,hc,by rw [e];exact hj⟩);unfold own at h3;simp only [List.count_cons,beq_self_eq_true,if_true] at h3;omega
       have O:=hst.cover;generalize a4:endA g A l true=x at *;generalize J:A.set at_ ⟨P1++[x]++P2,(ndA A at_).kids⟩=f at *;rw [W] at v;have F:ndA f at_=⟨P1++[]++(x :: P2),K1++[l]++(r :: K2)⟩:=(by rw [v];simp);have G:l∈(ndA f at_).kids:=(by rw [F];simp);have U:(own f d l).length<(own f (d+1) at_).length:=zen F;have Z:∀ q∈I,klt q.1 x.1=true:=by rw [hI] at a5;exact fun q hq=>a5.cross q hq x (by simp)
       have Q:getT (trav A d l) x.1=(x.2,true):=(by rw [hI];exact zhc x.1 x.2 I [] Z);have p:=zjx d g f fr l x.1 (by omega) (hst.pt.kid G) (by rw [b l E];exact a5) (by rw [b l E,Q]) (.inr (by rw [a l E];omega)) (by rw [a l E];exact ap) (by omega);obtain ⟨s1,R,s3⟩:=Step.kid hst.pt F M (by simpa using h2) p.step (by have:=p.lo;rw [a l E] at this;omega) p.hi;refine ⟨by rw [hset];exact hst.trans s1,?_,?_,?_,h.lt,h9,fun e=>absurd e w,fun _=>⟨n,y,fun e=>?_,fun _ _=>?_,fun _ e=>?_,fun _ e=>?_⟩⟩
       · have ad:delT (I++[x]) x.1=I:=by have:=zgc x.1 x.2 I [] Z (by simp);rwa [List.append_nil] at this
         rw [hset,s3,p.trav,b l E,N,hI,ad];rw [zga K1 P1 fun c hc=>b c (by rw [o];simp [hc]),zea (x :: P2) (r :: K2) (g:=trav A d) fun c hc=>b c (by rw [o];simp at hc ⊢;rcases hc with hc | hc <;> simp [hc])];simp [rwv]
       · rw [hset,R,v,o];simp
       · rw [hset,R,v];have:=h9;rw [o] at this;simpa using this
       · rw [hh] at e;cases e
       · rw [t,a4,u,J];exact ⟨a9,p.safe⟩
       · rw [t] at e;exact absurd c1 e
       rw [t] at e;exact absurd c1 e
     by_cases c2:4<(ndA A r).pairs.length
     · obtain ⟨⟨I,hI⟩,a9⟩:=zog d g r (by omega) aI aD (by omega) aw
       have hset:delA (g+1) A fr at_ key=delA g (A.set at_ ⟨P1++[endA g A r false]++P2,(ndA A at_).kids⟩) fr r (endA g A r false).1:=by
        rw [delA,if_neg w,if_neg (by rw [hh];simp),t,B,if_neg c1,if_pos c2,u]
       obtain ⟨hst,htr⟩:=zdy h (P1++[endA g A r false]++P2) (.inr (by rw [o];simp));have v:ndA (A.set at_ ⟨P1++[endA g A r false]++P2,(ndA A at_).kids⟩) at_=⟨P1++[endA g A r false]++P2,(ndA A at_).kids⟩:=zap _ h.lt;have a:∀ c,c∈(ndA A at_).kids->ndA (A.set at_ ⟨P1++[endA g A r false]++P2,(ndA A at_).kids⟩) c=ndA A c:=fun c hc=>zai _ (n.kid c hc).2.1.symm
       have b:∀ c,c∈(ndA A at_).kids->trav (A.set at_ ⟨P1++[endA g A r false]++P2,(ndA A at_).kids⟩) d c=trav A d c:=by
        intro c hc;refine (zeb (by simp) fun j hj=>zai _ fun e=>?_).2.2.1;have h3:=h.one at_;have h4:0<(nidx A (d+1) (ndA A at_)).count at_:=List.count_pos_iff.2 (List.mem_flatMap.2 ⟨c,hc,by rw [e];exact hj⟩);unfold own at h3;simp only [List.count_cons,beq_self_eq_true,if_true] at h3;omega
       have O:=hst.cover;generalize a4:endA g A r false=x at *;generalize J:A.set at_ ⟨P1++[x]++P2,(ndA A at_).kids⟩=f at *;rw [W] at v;have F:ndA f at_=⟨(P1++[x])++[]++P2,(K1++[l])++[r]++K2⟩:=(by rw [v];simp);have au:r∈(ndA f at_).kids:=(by rw [F];simp);have U:(own f d r).length<(own f (d+1) at_).length:=zen F;have Z:∀ q∈I,klt x.1 q.1=true:=by rw [hI] at a8;exact fun q hq=>(List.pairwise_cons.1 a8).1 q hq
       have Q:getT (trav A d r) x.1=(x.2,true):=(by rw [hI];exact zhc x.1 x.2 [] I (by simp));have p:=zjx d g f fr r x.1 (by omega) (hst.pt.kid au) (by rw [b r C];exact a8) (by rw [b r C,Q]) (.inr (by rw [a r C];omega)) (by rw [a r C];exact aw) (by omega);obtain ⟨s1,R,s3⟩:=Step.kid hst.pt F (by simpa using M) h2 p.step (by have:=p.lo;rw [a r C] at this;omega) p.hi;refine ⟨by rw [hset];exact hst.trans s1,?_,?_,?_,h.lt,h9,fun e=>absurd e w,fun _=>⟨n,y,fun e=>?_,fun _ e=>?_,fun _ _ _=>?_,fun _ _ e=>?_⟩⟩
       · have ad:delT (x :: I) x.1=I:=zgc x.1 x.2 [] I (by simp) Z
         rw [hset,s3,p.trav,b r C,N,hI,ad];rw [zga (g:=trav A d) (K1++[l]) (P1++[x]) fun c hc=>b c (by rw [o];simp at hc ⊢;rcases hc with hc | hc <;> simp [hc]),zea P2 K2 fun c hc=>b c (by rw [o];simp [hc])];rw [zvd _ K1 P1 l x M];simp
       · rw [hset,R,v,o];simp
       · rw [hset,R,v];have:=h9;rw [o] at this;simpa using this
       · rw [hh] at e;cases e
       · rw [t] at e;exact absurd e c1
       · rw [B,a4,u,J];exact ⟨a9,p.safe⟩
       rw [B] at e;exact absurd c2 e
     obtain ⟨q1,q2,q3,q4,_⟩:=zpl h o M h2 (by omega)
     have hset:delA (g+1) A fr at_ key=delA g (joinA A at_ P1.length) (fr++[r]) l key:=by
      rw [delA,if_neg w,if_neg (by rw [hh];simp),t,B,if_neg c1,if_neg c2,hi]
     have O:=q1.cover;generalize J:joinA A at_ P1.length=f at *;have G:l∈(ndA f at_).kids:=(by rw [q3];simp);have U:(own f d l).length<(own f (d+1) at_).length:=zen q3;have X:=zbd (d:=d) q3 M h2 rfl;have L:Sorted (trav f (d+1) at_):=(by rw [q2];exact hs);rw [X] at L;simp only [weave] at L X;obtain ⟨bc,aU,aG,_⟩:=q1.pt.wf.2 l G
     have b:∀ c,c∈K1\/c∈K2->trav f d c=trav A d c:=by
      intro c hc;have bf:c∈(ndA A at_).kids:=(by rw [o];rcases hc with hc | hc <;> simp [hc]);refine (zeb (by have:=q1.len;omega) fun j hj=>?_).2.2.1;have S:=h.one j;rw [zbw o] at S;simp only [List.count_cons,List.count_append,List.flatMap_cons,List.flatMap_nil,List.append_nil,beq_iff_eq] at S
      have b9:0<(K1.flatMap (own A d)).count j\/0<(K2.flatMap (own A d)).count j:=by
       rcases hc with hc | hc
       · exact .inl (List.count_pos_iff.2 (List.mem_flatMap.2 ⟨c,hc,hj⟩))
       exact .inr (List.count_pos_iff.2 (List.mem_flatMap.2 ⟨c,hc,hj⟩))
      have e1:(own A d l).count j=(if l=j then 1 else 0)+(nidx A d (ndA A l)).count j:=(by unfold own;rw [List.count_cons];simp only [beq_iff_eq];omega);have e2:(own A d r).count j=(if r=j then 1 else 0)+(nidx A d (ndA A r)).count j:=(by unfold own;rw [List.count_cons];simp only [beq_iff_eq];omega);have al:at_≠j:=fun e=>by rw [if_pos e] at S;omega
      have aK:l≠j:=fun e=>by rw [if_pos e] at e1;omega
      have aE:r≠j:=fun e=>by rw [if_pos e] at e2;omega
      rw [<-J];have k1:kidA A at_ P1.length=l:=(by rw [<-hi];exact t);have k2:kidA A at_ (P1.length+1)=r:=(by rw [<-hi];exact B);unfold joinA;rw [k1,k2,zai _ aE,zai _ al,zai _ aK]
     rw [zga K1 P1 fun c hc=>b c (.inl hc),zea P2 K2 fun c hc=>b c (.inr hc)] at X L
     have hM:trav f d l=trav A d l++(key,m) :: trav A d r:=by
      have e:=X.symm.trans (q2.trans aa);have e':lw (trav A d) K1 P1++(trav f d l++rwv (trav A d) P2 K2)=lw (trav A d) K1 P1++((trav A d l++(key,m) :: trav A d r)++rwv (trav A d) P2 K2):=(by simpa using e);exact List.append_cancel_right (List.append_cancel_left e')
     have Q:getT (trav f d l) key=(m,true):=by rw [hM];exact zhc key m _ _ fun q hq=>V q (by simp [hq])
     have p:=zjx d g f (fr++[r]) l key (by omega) (q1.pt.kid G) L.left.right (by rw [Q]) (.inr (by omega)) aG (by omega);obtain ⟨s1,R,s3⟩:=Step.kid q1.pt q3 M h2 p.step (by have:=p.lo;rw [q4] at this;simp at this;omega) p.hi;refine ⟨by rw [hset];exact q1.trans s1,?_,?_,?_,h.lt,h9,fun e=>absurd e w,fun _=>⟨n,y,fun e=>?_,fun _ e=>?_,fun _ _ e=>?_,fun _ _ _=>?_⟩⟩
     · rw [hset,s3,p.trav,hM,zgc key m _ _ (fun q hq=>V q (by simp [hq])) (fun q hq=>a1 q (by simp [hq])),N]
       rw [zga K1 P1 fun c hc=>b c (.inl hc),zea P2 K2 fun c hc=>b c (.inr hc)];simp
     · rw [hset,R,q3,o];simp;omega
     · rw [hset,R,q3];have:=h9;rw [o] at this;simp at this;simp;omega
     · rw [hh] at e;cases e
     · rw [t] at e;exact absurd e c1
     · rw [B] at e;exact absurd e c2
     rw [t,B,hi,J];exact p.safe
end Go.Proofs.YthljnnjpmdgkoaaGreat