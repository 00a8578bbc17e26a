/- Own lemmas and contracts that the claim's proof needs, laid together. The conditions stand in each. -/
import Derived.Test.YthljnnjpmdgkoaaGreatB02
namespace Go.Proofs.YthljnnjpmdgkoaaGreat
open Go Go.RowKit
def lendL (A:Arr) (at_ i:Nat):Arr :=
 ((A.set (kidA A at_ i) ⟨(ndA A at_).pairs.getD (i - 1) default :: (ndA A (kidA A at_ i)).pairs,(ndA A (kidA A at_ (i - 1))).kids.drop (ndA A (kidA A at_ (i - 1))).pairs.length++(ndA A (kidA A at_ i)).kids⟩).set at_
   ⟨(ndA A at_).pairs.set (i - 1) ((ndA A (kidA A at_ (i - 1))).pairs.getD ((ndA A (kidA A at_ (i - 1))).pairs.length - 1) default),(ndA A at_).kids⟩).set (kidA A at_ (i - 1))
   ⟨(ndA A (kidA A at_ (i - 1))).pairs.take ((ndA A (kidA A at_ (i - 1))).pairs.length - 1),(ndA A (kidA A at_ (i - 1))).kids.take (ndA A (kidA A at_ (i - 1))).pairs.length⟩
def lendR (A:Arr) (at_ i:Nat):Arr :=
 ((A.set (kidA A at_ i) ⟨(ndA A (kidA A at_ i)).pairs++[(ndA A at_).pairs.getD i default],(ndA A (kidA A at_ i)).kids++(ndA A (kidA A at_ (i+1))).kids.take 1⟩).set at_
   ⟨(ndA A at_).pairs.set i ((ndA A (kidA A at_ (i+1))).pairs.getD 0 default),(ndA A at_).kids⟩).set (kidA A at_ (i+1))
   ⟨(ndA A (kidA A at_ (i+1))).pairs.drop 1,(ndA A (kidA A at_ (i+1))).kids.drop 1⟩
theorem zle {A:Arr} {fr:List Nat} {d at_ a b:Nat} {P:Pairs} {K1 K2:List Nat} (h:Pt A fr (d+1) at_) (hn:ndA A at_=⟨P,K1++[a,b]++K2⟩):a≠at_/\b≠at_/\a≠b:=by
 have hone:∀ j,(if at_=j then 1 else 0)+(if a=j then 1 else 0)+(if b=j then 1 else 0)<=1:=by
  intro j;have:=h.one j;rw [zbu hn] at this;simp only [List.count_cons,List.count_append,List.flatMap_cons,List.flatMap_nil,List.append_nil,beq_iff_eq] at this;have e1:(own A d a).count j=(if a=j then 1 else 0)+(nidx A d (ndA A a)).count j:=(by unfold own;rw [List.count_cons];simp only [beq_iff_eq];omega);have e2:(own A d b).count j=(if b=j then 1 else 0)+(nidx A d (ndA A b)).count j:=(by unfold own;rw [List.count_cons];simp only [beq_iff_eq];omega);omega
 refine ⟨fun e=>?_,fun e=>?_,fun e=>?_⟩
 · have:=hone a;rw [if_pos e.symm,if_pos rfl] at this;omega
 · have:=hone b;rw [if_pos e.symm,if_pos rfl] at this;omega
 have:=hone b;rw [if_pos e,if_pos rfl] at this;omega
theorem zuq {A:Arr} {fr:List Nat} {d at_ l k:Nat} {P1 P2:Pairs} {K1 K2:List Nat} {p:ByteArray × Int} (h:Pt A fr (d+1) at_) (hn:ndA A at_=⟨P1++[p]++P2,K1++[l,k]++K2⟩) (h1:K1.length=P1.length) (h2:K2.length=P2.length)
 (h5:5<=(ndA A l).pairs.length) (h8:(ndA A k).pairs.length<=8):∃ x,(ndA A l).pairs[(ndA A l).pairs.length - 1]? = some x/\Step A fr (lendL A at_ (P1.length+1)) fr (d+1) at_/\trav (lendL A at_ (P1.length+1)) (d+1) at_=trav A (d+1) at_ ∧
   ndA (lendL A at_ (P1.length+1)) at_=⟨P1++[x]++P2,K1++[l,k]++K2⟩/\(ndA (lendL A at_ (P1.length+1)) k).pairs.length=(ndA A k).pairs.length+1/\(lendL A at_ (P1.length+1)).length=A.length ∧
   kidA A at_ P1.length=l/\kidA A at_ (P1.length+1)=k:=by
 obtain ⟨x,hx⟩:∃ x,(ndA A l).pairs[(ndA A l).pairs.length - 1]? = some x:=⟨_,List.getElem?_eq_getElem (by omega)⟩;have hn':ndA A at_=⟨P1++[p]++P2,K1++l :: k :: K2⟩:=by rw [hn];simp
 have k1:kidA A at_ P1.length=l:=by rw [<-h1];exact zeu hn'
 have k2:kidA A at_ (P1.length+1)=k:=by rw [<-h1];exact zgb hn'
 obtain ⟨hla,hka,hlk⟩:=zle h hn
 have hkm:∀ c,c=l\/c=k->c∈(ndA A at_).kids:=by
  intro c hc;rw [hn];rcases hc with rfl | rfl <;> simp
 obtain ⟨hl1,hl4,hl9,hlw⟩:=h.wf.2 l (hkm l (.inl rfl));obtain ⟨hk1,hk4,hk9,hkw⟩:=h.wf.2 k (hkm k (.inr rfl));have hal:=h.lt
 have hj:lendL A at_ (P1.length+1)=((A.set k ⟨p :: (ndA A k).pairs,(ndA A l).kids.drop (ndA A l).pairs.length++(ndA A k).kids⟩).set at_ ⟨P1++[x]++P2,K1++[l,k]++K2⟩).set l ⟨(ndA A l).pairs.take ((ndA A l).pairs.length - 1),(ndA A l).kids.take (ndA A l).pairs.length⟩:=by
  unfold lendL;rw [Nat.add_sub_cancel,k1,k2,hn]
  congr 2
  · simp [List.getD]
  simp [List.getD,hx]
 have n1:ndA (lendL A at_ (P1.length+1)) at_=⟨P1++[x]++P2,K1++[l,k]++K2⟩:=by rw [hj,zah _ hla];exact zaq _ (by simp;omega)
 have n2:ndA (lendL A at_ (P1.length+1)) k=⟨p :: (ndA A k).pairs,(ndA A l).kids.drop (ndA A l).pairs.length++(ndA A k).kids⟩:=by
  rw [hj,zah _ hlk,zah _ hka.symm];exact zaq _ hk1
 have n3:ndA (lendL A at_ (P1.length+1)) l=⟨(ndA A l).pairs.take ((ndA A l).pairs.length - 1),(ndA A l).kids.take (ndA A l).pairs.length⟩:=by rw [hj];exact zaq _ (by simp;omega)
 have n4:∀ j,j≠at_->j≠l->j≠k->ndA (lendL A at_ (P1.length+1)) j=ndA A j:=by
  intro j a b c;rw [hj,zah _ (Ne.symm b),zah _ (Ne.symm a),zah _ (Ne.symm c)]
 have nl:(lendL A at_ (P1.length+1)).length=A.length:=by rw [hj];simp
 generalize lendL A at_ (P1.length+1)=A' at *;have hlw':nWf A d ⟨(ndA A l).pairs,(ndA A l).kids⟩:=hlw;obtain ⟨w1,w2⟩:=zes d _ _ ((ndA A l).pairs.length - 1) hlw' (by omega);have hpart:=zdj d _ _ _ x hlw' hx;rw [show (ndA A l).pairs.length - 1+1=(ndA A l).pairs.length by omega] at w1 w2 hpart;rw [List.drop_length] at w2 hpart;have htl:ntrav A d (ndA A l)=_:=hpart;have hS:=Step.two (x:=x) h hn h1 h2 nl n1 n3 n2 n4 w1 (zni d [] _ p _ _ w2 hkw) (by simp;omega) (by simp;omega) (by simp;omega) (by simp;omega) (fun j=>?c1) ?c2 ?c3
 case c1 =>
  have e1:nidx A d ⟨p :: (ndA A k).pairs,(ndA A l).kids.drop (ndA A l).pairs.length++(ndA A k).kids⟩=nidx A d ⟨[],(ndA A l).kids.drop (ndA A l).pairs.length⟩++nidx A d (ndA A k):=zda d _ _ _ _ _
  have e2:nidx A d (ndA A l)=nidx A d ⟨(ndA A l).pairs.take ((ndA A l).pairs.length - 1),(ndA A l).kids.take (ndA A l).pairs.length⟩++nidx A d ⟨[],(ndA A l).kids.drop (ndA A l).pairs.length⟩:=by
   rw [<-zda d _ _ (ndA A l).pairs,List.take_append_drop]
  rw [e1,e2,List.count_append,List.count_append];omega
 case c2 =>
  have e1:nidx A d ⟨p :: (ndA A k).pairs,(ndA A l).kids.drop (ndA A l).pairs.length++(ndA A k).kids⟩=nidx A d ⟨[],(ndA A l).kids.drop (ndA A l).pairs.length⟩++nidx A d (ndA A k):=zda d _ _ _ _ _
  have e2:nidx A d (ndA A l)=nidx A d ⟨(ndA A l).pairs.take ((ndA A l).pairs.length - 1),(ndA A l).kids.take (ndA A l).pairs.length⟩++nidx A d ⟨[],(ndA A l).kids.drop (ndA A l).pairs.length⟩:=by
   rw [<-zda d _ _ (ndA A l).pairs,List.take_append_drop]
  rw [e1,e2,List.length_append,List.length_append];omega
 case c3 =>
  have e1:ntrav A d ⟨p :: (ndA A k).pairs,(ndA A l).kids.drop (ndA A l).pairs.length++(ndA A k).kids⟩=ntrav A d ⟨[],(ndA A l).kids.drop (ndA A l).pairs.length⟩++p :: ntrav A d (ndA A k):=zer d [] _ p _ _ w2;rw [e1,htl];simp
 exact ⟨x,hx,hS.1,hS.2,n1,by rw [n2];simp,nl,k1,k2⟩
theorem zup {A:Arr} {fr:List Nat} {d at_ k r:Nat} {P1 P2:Pairs} {K1 K2:List Nat} {p:ByteArray × Int} (h:Pt A fr (d+1) at_) (hn:ndA A at_=⟨P1++[p]++P2,K1++[k,r]++K2⟩) (h1:K1.length=P1.length) (h2:K2.length=P2.length)
 (h5:5<=(ndA A r).pairs.length) (h8:(ndA A k).pairs.length<=8):∃ x,(ndA A r).pairs[0]? = some x/\Step A fr (lendR A at_ P1.length) fr (d+1) at_/\trav (lendR A at_ P1.length) (d+1) at_=trav A (d+1) at_ ∧
   ndA (lendR A at_ P1.length) at_=⟨P1++[x]++P2,K1++[k,r]++K2⟩/\(ndA (lendR A at_ P1.length) k).pairs.length=(ndA A k).pairs.length+1/\(lendR A at_ P1.length).length=A.length ∧
   kidA A at_ P1.length=k/\kidA A at_ (P1.length+1)=r:=by
 obtain ⟨x,hx⟩:∃ x,(ndA A r).pairs[0]? = some x:=⟨_,List.getElem?_eq_getElem (by omega)⟩;have hn':ndA A at_=⟨P1++[p]++P2,K1++k :: r :: K2⟩:=by rw [hn];simp
 have k1:kidA A at_ P1.length=k:=by rw [<-h1];exact zeu hn'
 have k2:kidA A at_ (P1.length+1)=r:=by rw [<-h1];exact zgb hn'
 obtain ⟨hka,hra,hkr⟩:=zle h hn
 have hkm:∀ c,c=k\/c=r->c∈(ndA A at_).kids:=by
  intro c hc;rw [hn];rcases hc with rfl | rfl <;> simp
 obtain ⟨hk1,hk4,hk9,hkw⟩:=h.wf.2 k (hkm k (.inl rfl));obtain ⟨hr1,hr4,hr9,hrw⟩:=h.wf.2 r (hkm r (.inr rfl));have hal:=h.lt
 have hj:lendR A at_ P1.length=((A.set k ⟨(ndA A k).pairs++[p],(ndA A k).kids++(ndA A r).kids.take 1⟩).set at_ ⟨P1++[x]++P2,K1++[k,r]++K2⟩).set r ⟨(ndA A r).pairs.drop 1,(ndA A r).kids.drop 1⟩:=by
  unfold lendR;rw [k1,k2,hn]
  congr 2
  · simp [List.getD]
  simp [List.getD,hx]
 have n1:ndA (lendR A at_ P1.length) at_=⟨P1++[x]++P2,K1++[k,r]++K2⟩:=by rw [hj,zah _ hra];exact zaq _ (by simp;omega)
 have n2:ndA (lendR A at_ P1.length) k=⟨(ndA A k).pairs++[p],(ndA A k).kids++(ndA A r).kids.take 1⟩:=by
  rw [hj,zah _ hkr.symm,zah _ hka.symm];exact zaq _ hk1
 have n3:ndA (lendR A at_ P1.length) r=⟨(ndA A r).pairs.drop 1,(ndA A r).kids.drop 1⟩:=by rw [hj];exact zaq _ (by simp;omega)
 have n4:∀ j,j≠at_->j≠k->j≠r->ndA (lendR A at_ P1.length) j=ndA A j:=by
  intro j a b c;rw [hj,zah _ (Ne.symm c),zah _ (Ne.symm a),zah _ (Ne.symm b)]
 have nl:(lendR A at_ P1.length).length=A.length:=by rw [hj];simp
 generalize lendR A at_ P1.length=A' at *;have hrw':nWf A d ⟨(ndA A r).pairs,(ndA A r).kids⟩:=hrw;obtain ⟨w1,w2⟩:=zes d _ _ 0 hrw' (by omega);have hpart:=zdj d _ _ _ x hrw' hx;rw [Nat.zero_add] at w1 w2 hpart;rw [List.take_zero] at w1 hpart;have htr:ntrav A d (ndA A r)=_:=hpart;have e1:nidx A d ⟨(ndA A k).pairs++[p],(ndA A k).kids++(ndA A r).kids.take 1⟩=nidx A d (ndA A k)++nidx A d ⟨[],(ndA A r).kids.take 1⟩:=zda d _ _ _ _ _
 have e2:nidx A d (ndA A r)=nidx A d ⟨[],(ndA A r).kids.take 1⟩++nidx A d ⟨(ndA A r).pairs.drop 1,(ndA A r).kids.drop 1⟩:=by
  rw [<-zda d _ _ (ndA A r).pairs,List.take_append_drop]
 have hS:=Step.two (x:=x) h hn h1 h2 nl n1 n2 n3 n4 (zni d _ _ p [] _ hkw w1) w2 (by simp;omega) (by simp;omega) (by simp;omega) (by simp;omega) (fun j=>?c1) ?c2 ?c3
 case c1 =>
  rw [e1,e2,List.count_append,List.count_append];omega
 case c2 =>
  rw [e1,e2,List.length_append,List.length_append];omega
 case c3 =>
  have e3:ntrav A d ⟨(ndA A k).pairs++[p],(ndA A k).kids++(ndA A r).kids.take 1⟩=ntrav A d (ndA A k)++p :: ntrav A d ⟨[],(ndA A r).kids.take 1⟩:=zer d _ _ p [] _ hkw;rw [e3,htr];simp
 exact ⟨x,hx,hS.1,hS.2,n1,by rw [n2];simp,nl,k1,k2⟩
def fillA (A:Arr) (fr:List Nat) (at_ i:Nat):Arr × List Nat :=
 if 4 < (ndA A (kidA A at_ i)).pairs.length then (A,fr)
 else if 0 < i/\4 < (ndA A (kidA A at_ (i - 1))).pairs.length then (lendL A at_ i,fr)
 else if i+1 < (ndA A at_).kids.length then if 4 < (ndA A (kidA A at_ (i+1))).pairs.length then (lendR A at_ i,fr) else (joinA A at_ i,fr++[kidA A at_ (i+1)])
 else (joinA A at_ (i - 1),fr++[kidA A at_ i])
structure FillOk (A:Arr) (fr:List Nat) (d at_:Nat) (key:ByteArray) (r:Arr × List Nat):Prop where
 step:Step A fr r.1 r.2 (d+1) at_
 trav:trav r.1 (d+1) at_=trav A (d+1) at_
 lo:(ndA A at_).pairs.length<=(ndA r.1 at_).pairs.length+1
 hi:(ndA r.1 at_).pairs.length<=(ndA A at_).pairs.length
 kid:∃ k Q1 Q2 L1 L2,ndA r.1 at_=⟨Q1++[]++Q2,L1++[k]++L2⟩/\L1.length=Q1.length/\L2.length=Q2.length/\(∀ p∈Q1,klt p.1 key=true)/\(∀ p∈Q2,klt key p.1=true)/\5<=(ndA r.1 k).pairs.length
theorem ztz {Q1 Q2:Pairs} {key:ByteArray} (h1:∀ p∈Q1,klt p.1 key=true) (h2:∀ p∈Q2,klt key p.1=true):spotOf (Q1++Q2) key=Q1.length/\hitOf (Q1++Q2) key=false:=by
 have hs:spotOf (Q1++Q2) key=Q1.length:=by
  unfold spotOf
  induction Q1 with
  | nil =>
    cases Q2 with
    | nil=>rfl
    | cons q Q2=>simp [List.findIdx_cons,zcv (h2 q (by simp))]
  | cons q Q1 ih =>
    rw [List.cons_append,List.findIdx_cons,h1 q (by simp)];simp [ih fun p hp=>h1 p (by simp [hp])]
 refine ⟨hs,?_⟩;unfold hitOf;rw [hs];rw [List.getElem?_append_right (Nat.le_refl _),Nat.sub_self]
 cases Q2 with
 | nil=>rfl
 | cons q Q2 =>
   have:=klt_ne (h2 q (by simp));rw [zcr] at this;exact this
theorem zci {α:Type} {l:List α} (h:0 < l.length):∃ (l':List α) (x:α),l=l'++[x]:=by
 have hne:l≠[]:=by rintro rfl;simp at h
 exact ⟨l.dropLast,l.getLast hne,(List.dropLast_concat_getLast hne).symm⟩
theorem zwb {A:Arr} {fr:List Nat} {d at_ k:Nat} {P1 P2:Pairs} {K1 K2:List Nat} {key:ByteArray} (h:Pt A fr (d+1) at_) (hs:Sorted (trav A (d+1) at_)) (hn:ndA A at_=⟨P1++[]++P2,K1++[k]++K2⟩) (h1:K1.length=P1.length) (h2:K2.length=P2.length)
 (hb:∀ p∈P1,klt p.1 key=true) (ha:∀ p∈P2,klt key p.1=true) (hpos:1<=(ndA A at_).pairs.length):FillOk A fr d at_ key (fillA A fr at_ P1.length):=by
 have hn0:ndA A at_=⟨P1++P2,K1++k :: K2⟩:=by rw [hn];simp
 have hk0:kidA A at_ P1.length=k:=by rw [<-h1];exact zeu hn0
 have hkm:k∈(ndA A at_).kids:=by rw [hn];simp
 obtain ⟨hk1,hk4,hk9,hkw⟩:=h.wf.2 k hkm;by_cases c1:4 < (ndA A k).pairs.length
 · have e:fillA A fr at_ P1.length=(A,fr):=by unfold fillA;rw [hk0,if_pos c1]
   rw [e];exact ⟨Step.refl h,rfl,by dsimp only;omega,Nat.le_refl _,k,P1,P2,K1,K2,hn,h1,h2,hb,ha,by dsimp only;omega⟩
 have hk4':(ndA A k).pairs.length=4:=by omega
 by_cases c2:0 < P1.length/\4 < (ndA A (kidA A at_ (P1.length - 1))).pairs.length
 · obtain ⟨c2a,c2b⟩:=c2
   have e:fillA A fr at_ P1.length=(lendL A at_ P1.length,fr):=(by unfold fillA;rw [hk0,if_neg c1,if_pos ⟨c2a,c2b⟩]);obtain ⟨P1',p,rfl⟩:=zci c2a;obtain ⟨K1',l,rfl⟩:=zci (l:=K1) (by simp at h1;omega);have hn2:ndA A at_=⟨P1'++[p]++P2,K1'++[l,k]++K2⟩:=(by rw [hn];simp);have h1':K1'.length=P1'.length:=(by simpa using h1);have hl0:kidA A at_ P1'.length=l:=(by rw [<-h1'];exact zeu (P:=P1'++[p]++P2) (K2:=k :: K2) (by rw [hn2];simp));have hlen:(P1'++[p]).length=P1'.length+1:=(by simp);rw [hlen,Nat.add_sub_cancel,hl0] at c2b;obtain ⟨x,hx,q1,q2,q3,q4,_⟩:=zuq h hn2 h1' h2 (by omega) (by omega);rw [e,hlen]
   have hxp:klt x.1 p.1=true:=by
    have ht:=zbc (d:=d) hn2 h1' h2 rfl;rw [ht] at hs;have hs2:=hs.left.right;simp only [weave] at hs2;have hlm:l∈(ndA A at_).kids:=(by rw [hn2];simp);have hxm:x∈trav A d l:=(zga d _ (h.wf.2 l hlm).2.2.2).subset (List.mem_of_getElem? hx);exact hs2.cross x hxm p (by simp)
   refine ⟨q1,q2,by rw [q3,hn2];simp,by rw [q3,hn2];simp,k,P1'++[x],P2,K1'++[l],K2,by rw [q3];simp,by simpa using h1',h2,fun y hy=>?_,ha,by rw [q4];omega⟩;rcases List.mem_append.1 hy with hy | hy
   · exact hb y (by simp [hy])
   obtain rfl:y=x:=by simpa using hy
   exact zbx hxp (hb p (by simp))
 have hkl:(ndA A at_).kids.length=P1.length+1+P2.length:=by rw [hn];simp;omega
 by_cases c3:P1.length+1 < (ndA A at_).kids.length
 · obtain ⟨p,P2',rfl⟩:∃ p P2',P2=p :: P2':=by
    cases P2 with
    | nil=>simp at hkl;omega
    | cons p P2=>exact ⟨p,P2,rfl⟩
   obtain ⟨r,K2',rfl⟩:∃ r K2',K2=r :: K2':=by
    cases K2 with
    | nil=>simp at h2
    | cons r K2=>exact ⟨r,K2,rfl⟩
   have h2':K2'.length=P2'.length:=(by simpa using h2);have hn2:ndA A at_=⟨P1++[p]++P2',K1++[k,r]++K2'⟩:=(by rw [hn];simp);have hr0:kidA A at_ (P1.length+1)=r:=(by rw [<-h1];exact zgb (P:=P1++[p]++P2') (K2:=K2') (k:=k) (by rw [hn2];simp));have hrm:r∈(ndA A at_).kids:=(by rw [hn2];simp);obtain ⟨hr1,hr4,hr9,hrw⟩:=h.wf.2 r hrm;by_cases c4:4 < (ndA A r).pairs.length
   · have e:fillA A fr at_ P1.length=(lendR A at_ P1.length,fr):=by unfold fillA;rw [hk0,hr0,if_neg c1,if_neg c2,if_pos c3,if_pos c4]
     obtain ⟨x,hx,q1,q2,q3,q4,_⟩:=zup h hn2 h1 h2' (by omega) (by omega);rw [e]
     have hpx:klt p.1 x.1=true:=by
      have ht:=zbc (d:=d) hn2 h1 h2' rfl;rw [ht] at hs;have hs2:=hs.left.right;simp only [weave] at hs2;have hxm:x∈trav A d r:=(zga d _ hrw).subset (List.mem_of_getElem? hx);exact (List.pairwise_cons.1 hs2.right).1 x hxm
     refine ⟨q1,q2,by rw [q3,hn2];simp,by rw [q3,hn2];simp,k,P1,x :: P2',K1,r :: K2',by rw [q3];simp,h1,by simpa using h2',hb,fun y hy=>?_,by rw [q4];omega⟩;rcases List.mem_cons.1 hy with rfl | hy
     · exact zbx (ha p (by simp)) hpx
     exact ha y (by simp [hy])
   have e:fillA A fr at_ P1.length=(joinA A at_ P1.length,fr++[r]):=by unfold fillA;rw [hk0,hr0,if_neg c1,if_neg c2,if_pos c3,if_neg c4]
   obtain ⟨q1,q2,q3,q4,_⟩:=znp h hn2 h1 h2' (by omega);rw [e];exact ⟨q1,q2,by rw [q3,hn2];simp;omega,by rw [q3,hn2];simp,k,P1,P2',K1,K2',q3,h1,h2',hb,fun y hy=>ha y (by simp [hy]),by rw [q4];simp;omega⟩
 obtain rfl:P2 = []:=List.eq_nil_of_length_eq_zero (by omega)
 obtain rfl:K2 = []:=List.eq_nil_of_length_eq_zero (by simpa using h2);have hP1:0 < P1.length:=(by rw [hn] at hpos;simp at hpos;omega);have e:fillA A fr at_ P1.length=(joinA A at_ (P1.length - 1),fr++[k]):=(by unfold fillA;rw [hk0,if_neg c1,if_neg c2,if_neg c3]);obtain ⟨P1',p,rfl⟩:=zci hP1;obtain ⟨K1',l,rfl⟩:=zci (l:=K1) (by simp at h1;omega);have hn2:ndA A at_=⟨P1'++[p]++[],K1'++[l,k]++[]⟩:=(by rw [hn];simp);have h1':K1'.length=P1'.length:=(by simpa using h1);have hl0:kidA A at_ P1'.length=l:=(by rw [<-h1'];exact zeu (P:=P1'++[p]++[]) (K2:=[k]) (by rw [hn2];simp));have hlen:(P1'++[p]).length=P1'.length+1:=(by simp);rw [hlen,Nat.add_sub_cancel,hl0] at c2;have hlm:l∈(ndA A at_).kids:=(by rw [hn2];simp);obtain ⟨hl1,hl4,hl9,hlw⟩:=h.wf.2 l hlm
 obtain ⟨q1,q2,q3,q4,_⟩:=znp h hn2 h1' rfl (by omega);rw [e,hlen,Nat.add_sub_cancel];exact ⟨q1,q2,by rw [q3,hn2];simp,by rw [q3,hn2];simp,l,P1',[],K1',[],q3,h1',rfl,fun y hy=>hb y (by simp [hy]),by simp,by rw [q4];simp;omega⟩
def lastOf {α:Type} (l:List α) (x:α):α:=l.getD (l.length - 1) x
def endA:Nat->Arr->Nat->Bool->ByteArray × Int
 | 0,_,_,_=>default
 | g+1,A,at_,last =>
   if (ndA A at_).kids = [] then (if last then lastOf (ndA A at_).pairs default else (ndA A at_).pairs.getD 0 default)
   else endA g A (if last then lastOf (ndA A at_).kids 0 else (ndA A at_).kids.getD 0 0) last
def zeb:Nat->Arr->Nat->Bool->Prop
 | 0,_,_,_=>False
 | g+1,A,at_,last=>at_ < A.length/\1<=(ndA A at_).pairs.length/\(ndA A at_).pairs.length<=9/\(ndA A at_).kids.length<=10 ∧
   ((ndA A at_).kids≠[]->zeb g A (if last then lastOf (ndA A at_).kids 0 else (ndA A at_).kids.getD 0 0) last)
theorem zia {α:Type} (l:List α) (x y:α):lastOf (l++[x]) y=x:=by unfold lastOf;simp [List.getD]
theorem zpr {A:Arr}:∀ (d g at_:Nat),d+1<=g->at_ < A.length->nWf A d (ndA A at_)->1<=(ndA A at_).pairs.length->(ndA A at_).pairs.length<=9->(∃ I,trav A d at_=I++[endA g A at_ true])/\zeb g A at_ true
 | d,0,_,h,_,_,_,_=>by omega
 | 0,g+1,at_,_,hl,hw,h1,h9=>by
   have hk:(ndA A at_).kids = []:=hw;refine ⟨?_,hl,h1,h9,by rw [hk];simp,fun e=>absurd hk e⟩;obtain ⟨I,x,hI⟩:=zci h1;refine ⟨I,?_⟩
   show (ndA A at_).pairs=_
   unfold endA;rw [if_pos hk,if_pos rfl,hI,zia]
 | d+1,g+1,at_,hg,hl,hw,h1,h9=>by
   have hlen:(ndA A at_).kids.length=(ndA A at_).pairs.length+1:=hw.1;have hne:(ndA A at_).kids≠[]:=fun e=>by rw [e] at hlen;simp at hlen
   obtain ⟨K,k,hK⟩:=zci (l:=(ndA A at_).kids) (by omega);have hkm:k∈(ndA A at_).kids:=(by rw [hK];simp);obtain ⟨a1,a2,a3,a4⟩:=hw.2 k hkm;have hlast:lastOf (ndA A at_).kids 0=k:=(by rw [hK,zia]);obtain ⟨⟨I,hI⟩,hsafe⟩:=zpr d g k (by omega) a1 a4 (by omega) a3;refine ⟨?_,hl,h1,h9,by omega,fun _=>by rw [if_pos rfl,hlast];exact hsafe⟩;have hn:ndA A at_=⟨(ndA A at_).pairs++[]++[],K++[k]++[]⟩:=(by rw [List.append_nil,List.append_nil,List.append_nil,<-hK]);rw [hK] at hlen;have ht:=zbc (d:=d) hn (by simpa using hlen) rfl rfl;refine ⟨lw (trav A d) K (ndA A at_).pairs++I,?_⟩;rw [ht];unfold endA;rw [if_neg hne,if_pos rfl,hlast];simp [weave,rwv,hI]
theorem zmq {A:Arr}:∀ (d g at_:Nat),d+1<=g->at_ < A.length->nWf A d (ndA A at_)->1<=(ndA A at_).pairs.length->(ndA A at_).pairs.length<=9->(∃ I,trav A d at_=endA g A at_ false :: I)/\zeb g A at_ false
 | d,0,_,h,_,_,_,_=>by omega
 | 0,g+1,at_,_,hl,hw,h1,h9=>by
   have hk:(ndA A at_).kids = []:=hw;refine ⟨?_,hl,h1,h9,by rw [hk];simp,fun e=>absurd hk e⟩
   cases hp:(ndA A at_).pairs with
   | nil=>rw [hp] at h1;simp at h1
   | cons x I =>
     refine ⟨I,?_⟩
     show (ndA A at_).pairs=_
     unfold endA;rw [if_pos hk,if_neg (by decide),hp]
     rfl
 | d+1,g+1,at_,hg,hl,hw,h1,h9=>by
   have hlen:(ndA A at_).kids.length=(ndA A at_).pairs.length+1:=hw.1;have hne:(ndA A at_).kids≠[]:=fun e=>by rw [e] at hlen;simp at hlen
   obtain ⟨k,K,hK⟩:∃ k K,(ndA A at_).kids=k :: K:=by
    cases hk:(ndA A at_).kids with
    | nil=>exact absurd hk hne
    | cons k K=>exact ⟨k,K,rfl⟩
   have hkm:k∈(ndA A at_).kids:=(by rw [hK];simp);obtain ⟨a1,a2,a3,a4⟩:=hw.2 k hkm;have hfirst:(ndA A at_).kids.getD 0 0=k:=(by rw [hK];rfl);obtain ⟨⟨I,hI⟩,hsafe⟩:=zmq d g k (by omega) a1 a4 (by omega) a3;refine ⟨?_,hl,h1,h9,by omega,fun _=>by rw [if_neg (by decide),hfirst];exact hsafe⟩;have hn:ndA A at_=⟨[]++[]++(ndA A at_).pairs,[]++[k]++K⟩:=(by rw [List.append_nil,List.nil_append,List.nil_append,List.singleton_append,<-hK]);rw [hK] at hlen;have ht:=zbc (d:=d) hn rfl (by simpa using hlen) rfl;refine ⟨I++rwv (trav A d) (ndA A at_).pairs K,?_⟩;rw [ht];unfold endA;rw [if_neg hne,if_neg (by decide),hfirst];simp [weave,lw,hI]
def delA:Nat->Arr->List Nat->Nat->ByteArray->Arr × List Nat
 | 0,A,fr,_,_=>(A,fr)
 | g+1,A,fr,at_,key =>
   if (ndA A at_).kids = [] then (A.set at_ ⟨(ndA A at_).pairs.take (spotOf (ndA A at_).pairs key)++(ndA A at_).pairs.drop (spotOf (ndA A at_).pairs key+1),[]⟩,fr)
   else if hitOf (ndA A at_).pairs key=false then
    delA g (fillA A fr at_ (spotOf (ndA A at_).pairs key)).1 (fillA A fr at_ (spotOf (ndA A at_).pairs key)).2
     (kidA (fillA A fr at_ (spotOf (ndA A at_).pairs key)).1 at_ (spotOf (ndA (fillA A fr at_ (spotOf (ndA A at_).pairs key)).1 at_).pairs key)) key
   else if 4 < (ndA A (kidA A at_ (spotOf (ndA A at_).pairs key))).pairs.length then
    delA g (A.set at_ ⟨(ndA A at_).pairs.set (spotOf (ndA A at_).pairs key) (endA g A (kidA A at_ (spotOf (ndA A at_).pairs key)) true),(ndA A at_).kids⟩) fr (kidA A at_ (spotOf (ndA A at_).pairs key)) (endA g A (kidA A at_ (spotOf (ndA A at_).pairs key)) true).1
   else if 4 < (ndA A (kidA A at_ (spotOf (ndA A at_).pairs key+1))).pairs.length then
    delA g (A.set at_ ⟨(ndA A at_).pairs.set (spotOf (ndA A at_).pairs key) (endA g A (kidA A at_ (spotOf (ndA A at_).pairs key+1)) false),(ndA A at_).kids⟩) fr (kidA A at_ (spotOf (ndA A at_).pairs key+1)) (endA g A (kidA A at_ (spotOf (ndA A at_).pairs key+1)) false).1
   else delA g (joinA A at_ (spotOf (ndA A at_).pairs key)) (fr++[kidA A at_ (spotOf (ndA A at_).pairs key+1)]) (kidA A at_ (spotOf (ndA A at_).pairs key)) key
def zed:Nat->Arr->List Nat->Nat->ByteArray->Prop
 | 0,_,_,_,_=>False
 | g+1,A,fr,at_,key =>
   at_ < A.length/\(ndA A at_).pairs.length<=9 ∧
   ((ndA A at_).kids = []->spotOf (ndA A at_).pairs key < (ndA A at_).pairs.length) ∧
   ((ndA A at_).kids≠[]->zbm A fr at_/\1<=(ndA A at_).pairs.length ∧
     (hitOf (ndA A at_).pairs key=false →
       zbm (fillA A fr at_ (spotOf (ndA A at_).pairs key)).1 (fillA A fr at_ (spotOf (ndA A at_).pairs key)).2 at_ ∧
       hitOf (ndA (fillA A fr at_ (spotOf (ndA A at_).pairs key)).1 at_).pairs key=false ∧
       zed g (fillA A fr at_ (spotOf (ndA A at_).pairs key)).1 (fillA A fr at_ (spotOf (ndA A at_).pairs key)).2
        (kidA (fillA A fr at_ (spotOf (ndA A at_).pairs key)).1 at_ (spotOf (ndA (fillA A fr at_ (spotOf (ndA A at_).pairs key)).1 at_).pairs key)) key) ∧
     (hitOf (ndA A at_).pairs key=true->4 < (ndA A (kidA A at_ (spotOf (ndA A at_).pairs key))).pairs.length →
       zeb g A (kidA A at_ (spotOf (ndA A at_).pairs key)) true ∧
       zed g (A.set at_ ⟨(ndA A at_).pairs.set (spotOf (ndA A at_).pairs key) (endA g A (kidA A at_ (spotOf (ndA A at_).pairs key)) true),(ndA A at_).kids⟩) fr (kidA A at_ (spotOf (ndA A at_).pairs key)) (endA g A (kidA A at_ (spotOf (ndA A at_).pairs key)) true).1) ∧
     (hitOf (ndA A at_).pairs key=true->¬ 4 < (ndA A (kidA A at_ (spotOf (ndA A at_).pairs key))).pairs.length->4 < (ndA A (kidA A at_ (spotOf (ndA A at_).pairs key+1))).pairs.length →
       zeb g A (kidA A at_ (spotOf (ndA A at_).pairs key+1)) false ∧
       zed g (A.set at_ ⟨(ndA A at_).pairs.set (spotOf (ndA A at_).pairs key) (endA g A (kidA A at_ (spotOf (ndA A at_).pairs key+1)) false),(ndA A at_).kids⟩) fr (kidA A at_ (spotOf (ndA A at_).pairs key+1)) (endA g A (kidA A at_ (spotOf (ndA A at_).pairs key+1)) false).1) ∧
     (hitOf (ndA A at_).pairs key=true->¬ 4 < (ndA A (kidA A at_ (spotOf (ndA A at_).pairs key))).pairs.length->¬ 4 < (ndA A (kidA A at_ (spotOf (ndA A at_).pairs key+1))).pairs.length →
       zed g (joinA A at_ (spotOf (ndA A at_).pairs key)) (fr++[kidA A at_ (spotOf (ndA A at_).pairs key+1)]) (kidA A at_ (spotOf (ndA A at_).pairs key)) key))
structure DelOk (g:Nat) (A:Arr) (fr:List Nat) (d at_:Nat) (key:ByteArray):Prop where
 step:Step A fr (delA g A fr at_ key).1 (delA g A fr at_ key).2 d at_
 trav:trav (delA g A fr at_ key).1 d at_=delT (trav A d at_) key
 lo:(ndA A at_).pairs.length<=(ndA (delA g A fr at_ key).1 at_).pairs.length+1
 hi:(ndA (delA g A fr at_ key).1 at_).pairs.length<=9
 safe:zed g A fr at_ key
theorem zps (key:ByteArray) (L M R:Pairs) (hL:∀ q∈L,klt q.1 key=true) (hR:∀ q∈R,klt key q.1=true):delT (L++M++R) key=L++delT M key++R:=by
 unfold delT;have h1:L.filter (fun p=>!keq p.1 key)=L:=List.filter_eq_self.2 fun q hq=>by rw [klt_ne (hL q hq)];rfl
 have h2:R.filter (fun p=>!keq p.1 key)=R:=List.filter_eq_self.2 fun q hq=>by rw [zcr,klt_ne (hR q hq)];rfl
 rw [List.filter_append,List.filter_append,h1,h2]
theorem zfh (key:ByteArray) (m:Int) (L R:Pairs) (hL:∀ q∈L,klt q.1 key=true) (hR:∀ q∈R,klt key q.1=true):delT (L++(key,m) :: R) key=L++R:=by
 have:=zps key L [(key,m)] R hL hR;rw [List.append_assoc,List.singleton_append] at this;rw [this];simp [delT,zap.2 rfl]
theorem zjn {T:Pairs} (hT:Sorted T) {key:ByteArray} (h:(getT T key).2=true):hitOf T key=true:=by
 rw [zkk T hT] at h
 cases hh:hitOf T key with
 | true=>rfl
 | false=>rw [hh] at h;simp at h
theorem zdu {A:Arr} {d at_ k:Nat} {P:Pairs} {K1 K2:List Nat} (hn:ndA A at_=⟨P,K1++[k]++K2⟩):(own A d k).length < (own A (d+1) at_).length:=by
 rw [zbu hn];simp;omega
theorem zst (f:Nat->Pairs):∀ (K:List Nat) (P:Pairs) (l:Nat) (x:ByteArray × Int),K.length=P.length->lw f (K++[l]) (P++[x])=lw f K P++f l++[x]
 | [],[],l,x,_=>by simp [lw]
 | [],_ :: _,_,_,h=>by simp at h
 | _ :: _,[],_,_,h=>by simp at h
 | k :: K,p :: P,l,x,h=>by simp [lw,zst f K P l x (by simpa using h)]
theorem ziq:∀ (d g:Nat) (A:Arr) (fr:List Nat) (at_:Nat) (key:ByteArray),d+1<=g->Pt A fr d at_->Sorted (trav A d at_)->(getT (trav A d at_) key).2=true->(d=0\/1<=(ndA A at_).pairs.length)->(ndA A at_).pairs.length<=9 →
 (own A d at_).length+fr.length<=A.length->DelOk g A fr d at_ key
 | d,0,_,_,_,_,h,_,_,_,_,_,_=>by omega
 | 0,g+1,A,fr,at_,key,_,h,hs,hget,_,h9,hc=>by
   have hk:(ndA A at_).kids = []:=h.wf;have hs':Sorted (ndA A at_).pairs:=hs;have hhit:hitOf (ndA A at_).pairs key=true:=zjn hs' hget;obtain ⟨m,hm⟩:=hit_at hhit;have hil:=(List.getElem?_eq_some_iff.1 hm).1;have hset:delA (g+1) A fr at_ key=(A.set at_ ⟨(ndA A at_).pairs.take (spotOf (ndA A at_).pairs key)++(ndA A at_).pairs.drop (spotOf (ndA A at_).pairs key+1),(ndA A at_).kids⟩,fr):=(by simp [delA,hk]);obtain ⟨hst,htr⟩:=zdg h ((ndA A at_).pairs.take (spotOf (ndA A at_).pairs key)++(ndA A at_).pairs.drop (spotOf (ndA A at_).pairs key+1)) (.inl rfl);refine ⟨by rw [hset];exact hst,?_,?_,?_,h.lt,h9,fun _=>hil,fun e=>absurd hk e⟩
   · rw [hset]
     dsimp only;rw [htr]
     show (ndA A at_).pairs.take _++(ndA A at_).pairs.drop _=delT (ndA A at_).pairs key
     have e:(ndA A at_).pairs=(ndA A at_).pairs.take (spotOf (ndA A at_).pairs key)++(key,m) :: (ndA A at_).pairs.drop (spotOf (ndA A at_).pairs key+1):=by
      have:=List.take_append_drop (spotOf (ndA A at_).pairs key) (ndA A at_).pairs;rw [List.drop_eq_getElem_cons hil,(List.getElem?_eq_some_iff.1 hm).2] at this;exact this.symm
     have hb:=zdr (T:=(ndA A at_).pairs) (key:=key);generalize spotOf (ndA A at_).pairs key=i at *;have hs2:Sorted ((ndA A at_).pairs.take i++(key,m) :: (ndA A at_).pairs.drop (i+1)):=(by rw [<-e];exact hs')
     conv=>rhs;rw [e]
     rw [zfh key m _ _ hb fun q hq=>(List.pairwise_cons.1 hs2.right).1 q hq]
   · rw [hset];dsimp only;rw [zaq _ h.lt];simp;omega
   rw [hset];dsimp only;rw [zaq _ h.lt];simp;omega
 | d+1,g+1,A,fr,at_,key,hg,h,hs,hget,h01,h9,hc=>by
   have hpos:1<=(ndA A at_).pairs.length:=(by rcases h01 with e | e <;> omega);have hl:(ndA A at_).kids.length=(ndA A at_).pairs.length+1:=h.wf.1;have hne:(ndA A at_).kids≠[]:=fun e=>by rw [e] at hl;simp at hl
   have hsafe:=h.safe h9 hc
   cases hh:hitOf (ndA A at_).pairs key with
   | false =>
     obtain ⟨k,K1,K2,P1,P2,hn,h1,h2,hsp,hkk,hki,hb,ha⟩:=down h.wf hs hh;have hF:=zwb h hs hn h1 h2 hb ha hpos;rw [hsp] at hF
     have hset:delA (g+1) A fr at_ key=delA g (fillA A fr at_ (spotOf (ndA A at_).pairs key)).1 (fillA A fr at_ (spotOf (ndA A at_).pairs key)).2
      (kidA (fillA A fr at_ (spotOf (ndA A at_).pairs key)).1 at_ (spotOf (ndA (fillA A fr at_ (spotOf (ndA A at_).pairs key)).1 at_).pairs key)) key:=by
      show delA (g+1) A fr at_ key=_
      rw [delA,if_neg hne,if_pos hh]
     have hcov:=hF.step.cover;generalize hr:fillA A fr at_ (spotOf (ndA A at_).pairs key)=r at *;obtain ⟨A1,fr1⟩:=r;dsimp only at *;obtain ⟨k',Q1,Q2,L1,L2,hn',g1,g2,hb',ha',h5⟩:=hF.kid;dsimp only at hn' h5;have hS1:=hF.step;have hT1:=hF.trav;have hlo1:=hF.lo;have hhi1:=hF.hi;dsimp only at hS1 hT1 hlo1 hhi1;obtain ⟨e1,e2⟩:=ztz hb' ha';have hp':(ndA A1 at_).pairs=Q1++Q2:=(by rw [hn'];simp)
     have hkid':kidA A1 at_ (spotOf (ndA A1 at_).pairs key)=k':=by
      rw [hp',e1,<-g1];exact zeu (P:=Q1++[]++Q2) (K2:=L2) (by rw [hn'];simp)
     have hs1:Sorted (trav A1 (d+1) at_):=(by rw [hT1];exact hs);obtain ⟨ht,hsk,hlb,hra⟩:=zfp hn' g1 g2 hs1 hb' ha';have hkm:k'∈(ndA A1 at_).kids:=(by rw [hn'];simp);obtain ⟨hk1,hk4,hk9,hkw⟩:=hS1.pt.wf.2 k' hkm;have hown:(own A1 d k').length < (own A1 (d+1) at_).length:=zdu hn';have hD:=ziq d g A1 fr1 k' key (by omega) (hS1.pt.kid hkm) hsk (by rw [<-hT1,ht,zkj key _ _ _ hlb hra] at hget;exact hget) (.inr (by omega)) hk9 (by omega);obtain ⟨s1,s2,s3⟩:=Step.kid hS1.pt hn' g1 g2 hD.step (by have:=hD.lo;omega) hD.hi;refine ⟨by rw [hset,hkid'];exact hS1.trans s1,?_,?_,?_,h.lt,h9,fun e=>absurd e hne,fun _=>⟨hsafe,hpos,fun _=>?_,fun e=>?_,fun e=>?_,fun e=>?_⟩⟩
     · rw [hset,hkid',s3,hD.trav,<-hT1,ht,zps key _ _ _ hlb hra]
     · rw [hset,hkid',s2];exact hlo1
     · rw [hset,hkid',s2];omega
     · rw [hr]
       dsimp only;refine ⟨hS1.pt.safe (by omega) (by omega),by rw [hp'];exact e2,by rw [hkid'];exact hD.safe⟩
     all_goals rw [hh] at e;cases e
   | true =>
     obtain ⟨m,hm⟩:=hit_at hh;have hil:=(List.getElem?_eq_some_iff.1 hm).1
     -- the node parted at the key
     obtain ⟨P1,P2,K1,K2,l,r,hn,h1,h2,hi⟩:∃ P1 P2 K1 K2 l r,ndA A at_=⟨P1++[(key,m)]++P2,K1++[l,r]++K2⟩/\K1.length=P1.length/\K2.length=P2.length/\spotOf (ndA A at_).pairs key=P1.length:=by
      generalize hnd:ndA A at_=nd at *;obtain ⟨P,K⟩:=nd;dsimp only at *;generalize spotOf P key=i at *;refine ⟨P.take i,P.drop (i+1),K.take i,K.drop (i+2),K[i],K[i+1],?_,by simp;omega,by simp;omega,by simp;omega⟩
      have e1:P.take i++[(key,m)]++P.drop (i+1)=P:=by
       have:=List.take_append_drop i P;rw [List.drop_eq_getElem_cons hil,(List.getElem?_eq_some_iff.1 hm).2] at this;simpa using this
      have e2:K.take i++[K[i],K[i+1]]++K.drop (i+2)=K:=by
       have:=List.take_append_drop i K;rw [List.drop_eq_getElem_cons (by omega),List.drop_eq_getElem_cons (by omega)] at this;simp
      rw [e1,e2]
     have hl0:kidA A at_ (spotOf (ndA A at_).pairs key)=l:=(by rw [hi,<-h1];exact zeu (P:=P1++[(key,m)]++P2) (K2:=r :: K2) (by rw [hn];simp));have hr0:kidA A at_ (spotOf (ndA A at_).pairs key+1)=r:=(by rw [hi,<-h1];exact zgb (P:=P1++[(key,m)]++P2) (K2:=K2) (k:=l) (by rw [hn];simp));have hlm:l∈(ndA A at_).kids:=(by rw [hn];simp);have hrm:r∈(ndA A at_).kids:=(by rw [hn];simp);obtain ⟨hl1,hl4,hl9,hlw⟩:=h.wf.2 l hlm;obtain ⟨hr1,hr4,hr9,hrw⟩:=h.wf.2 r hrm;have ht:=zbc (d:=d) hn h1 h2 rfl;have ht2:trav A (d+1) at_=(lw (trav A d) K1 P1++trav A d l)++(key,m) :: (trav A d r++rwv (trav A d) P2 K2):=(by rw [ht];simp [weave]);have hs2:=hs;rw [ht2] at hs2;have hbef:∀ q∈lw (trav A d) K1 P1++trav A d l,klt q.1 key=true:=fun q hq=>hs2.cross q hq (key,m) (by simp)
     have hbeh:∀ q∈trav A d r++rwv (trav A d) P2 K2,klt key q.1=true:=fun q hq=>(List.pairwise_cons.1 hs2.right).1 q hq;have hdel:delT (trav A (d+1) at_) key=(lw (trav A d) K1 P1++trav A d l)++(trav A d r++rwv (trav A d) P2 K2):=(by rw [ht2,zfh key m _ _ hbef hbeh]);have hsl:Sorted (trav A d l):=hs2.left.right;have hsr:Sorted (trav A d r):=(hs2.right.sub (List.sublist_cons_self _ _)).left;have hnl:ndA A at_=⟨P1++[]++((key,m) :: P2),K1++[l]++(r :: K2)⟩:=(by rw [hn];simp);have hnr:ndA A at_=⟨(P1++[(key,m)])++[]++P2,(K1++[l])++[r]++K2⟩:=(by rw [hn];simp);have hset0:∀ x,(ndA A at_).pairs.set (spotOf (ndA A at_).pairs key) x=P1++[x]++P2:=(by intro x;rw [hi,hn];simp);have hkset:(ndA A at_).kids=K1++[l,r]++K2:=(by rw [hn]);by_cases c1:4 < (ndA A l).pairs.length
     · obtain ⟨⟨I,hI⟩,hes⟩:=zpr d g l (by omega) hl1 hlw (by omega) hl9
       have hset:delA (g+1) A fr at_ key=delA g (A.set at_ ⟨P1++[endA g A l true]++P2,(ndA A at_).kids⟩) fr l (endA g A l true).1:=by
        rw [delA,if_neg hne,if_neg (by rw [hh];simp),hl0,if_pos c1,hset0]
       obtain ⟨hst,htr⟩:=zdg h (P1++[endA g A l true]++P2) (.inr (by rw [hn];simp));have hn1:ndA (A.set at_ ⟨P1++[endA g A l true]++P2,(ndA A at_).kids⟩) at_=⟨P1++[endA g A l true]++P2,(ndA A at_).kids⟩:=zaq _ h.lt;have hother:∀ c,c∈(ndA A at_).kids->ndA (A.set at_ ⟨P1++[endA g A l true]++P2,(ndA A at_).kids⟩) c=ndA A c:=fun c hc=>zah _ (hsafe.kid c hc).2.1.symm
       have hag:∀ c,c∈(ndA A at_).kids->trav (A.set at_ ⟨P1++[endA g A l true]++P2,(ndA A at_).kids⟩) d c=trav A d c:=by
        intro c hc;refine (zdi (by simp) fun j hj=>zah _ fun e=>?_).2.2.1;have h3:=h.one at_;have h4:0 < (nidx A (d+1) (ndA A at_)).count at_:=List.count_pos_iff.2 (List.mem_flatMap.2 ⟨c,hc,by rw [e];exact hj⟩);unfold own at h3;simp only [List.count_cons,beq_self_eq_true,if_true] at h3;omega
       have hcov:=hst.cover;generalize hxe:endA g A l true=x at *;generalize hA1:A.set at_ ⟨P1++[x]++P2,(ndA A at_).kids⟩=A1 at *;rw [hkset] at hn1;have hn2:ndA A1 at_=⟨P1++[]++(x :: P2),K1++[l]++(r :: K2)⟩:=(by rw [hn1];simp);have hlm1:l∈(ndA A1 at_).kids:=(by rw [hn2];simp);have hown:(own A1 d l).length < (own A1 (d+1) at_).length:=zdu hn2;have hxl:∀ q∈I,klt q.1 x.1=true:=by rw [hI] at hsl;exact fun q hq=>hsl.cross q hq x (by simp)
       have hgl:getT (trav A d l) x.1=(x.2,true):=(by rw [hI];exact zgc x.1 x.2 I [] hxl);have hD:=ziq d g A1 fr l x.1 (by omega) (hst.pt.kid hlm1) (by rw [hag l hlm];exact hsl) (by rw [hag l hlm,hgl]) (.inr (by rw [hother l hlm];omega)) (by rw [hother l hlm];exact hl9) (by omega);obtain ⟨s1,s2,s3⟩:=Step.kid hst.pt hn2 h1 (by simpa using h2) hD.step (by have:=hD.lo;rw [hother l hlm] at this;omega) hD.hi;refine ⟨by rw [hset];exact hst.trans s1,?_,?_,?_,h.lt,h9,fun e=>absurd e hne,fun _=>⟨hsafe,hpos,fun e=>?_,fun _ _=>?_,fun _ e=>?_,fun _ e=>?_⟩⟩
       · have hdl:delT (I++[x]) x.1=I:=by have:=zfh x.1 x.2 I [] hxl (by simp);rwa [List.append_nil] at this
         rw [hset,s3,hD.trav,hag l hlm,hdel,hI,hdl];rw [zfe K1 P1 fun c hc=>hag c (by rw [hn];simp [hc]),zdh (x :: P2) (r :: K2) (g:=trav A d) fun c hc=>hag c (by rw [hn];simp at hc ⊢;rcases hc with hc | hc <;> simp [hc])];simp [rwv]
       · rw [hset,s2,hn1,hn];simp
       · rw [hset,s2,hn1];have:=h9;rw [hn] at this;simpa using this
       · rw [hh] at e;cases e
       · rw [hl0,hxe,hset0,hA1];exact ⟨hes,hD.safe⟩
       · rw [hl0] at e;exact absurd c1 e
       rw [hl0] at e;exact absurd c1 e
     by_cases c2:4 < (ndA A r).pairs.length
     · obtain ⟨⟨I,hI⟩,hes⟩:=zmq d g r (by omega) hr1 hrw (by omega) hr9
       have hset:delA (g+1) A fr at_ key=delA g (A.set at_ ⟨P1++[endA g A r false]++P2,(ndA A at_).kids⟩) fr r (endA g A r false).1:=by
        rw [delA,if_neg hne,if_neg (by rw [hh];simp),hl0,hr0,if_neg c1,if_pos c2,hset0]
       obtain ⟨hst,htr⟩:=zdg h (P1++[endA g A r false]++P2) (.inr (by rw [hn];simp));have hn1:ndA (A.set at_ ⟨P1++[endA g A r false]++P2,(ndA A at_).kids⟩) at_=⟨P1++[endA g A r false]++P2,(ndA A at_).kids⟩:=zaq _ h.lt;have hother:∀ c,c∈(ndA A at_).kids->ndA (A.set at_ ⟨P1++[endA g A r false]++P2,(ndA A at_).kids⟩) c=ndA A c:=fun c hc=>zah _ (hsafe.kid c hc).2.1.symm
       have hag:∀ c,c∈(ndA A at_).kids->trav (A.set at_ ⟨P1++[endA g A r false]++P2,(ndA A at_).kids⟩) d c=trav A d c:=by
        intro c hc;refine (zdi (by simp) fun j hj=>zah _ fun e=>?_).2.2.1;have h3:=h.one at_;have h4:0 < (nidx A (d+1) (ndA A at_)).count at_:=List.count_pos_iff.2 (List.mem_flatMap.2 ⟨c,hc,by rw [e];exact hj⟩);unfold own at h3;simp only [List.count_cons,beq_self_eq_true,if_true] at h3;omega
       have hcov:=hst.cover;generalize hxe:endA g A r false=x at *;generalize hA1:A.set at_ ⟨P1++[x]++P2,(ndA A at_).kids⟩=A1 at *;rw [hkset] at hn1;have hn2:ndA A1 at_=⟨(P1++[x])++[]++P2,(K1++[l])++[r]++K2⟩:=(by rw [hn1];simp);have hrm1:r∈(ndA A1 at_).kids:=(by rw [hn2];simp);have hown:(own A1 d r).length < (own A1 (d+1) at_).length:=zdu hn2;have hxl:∀ q∈I,klt x.1 q.1=true:=by rw [hI] at hsr;exact fun q hq=>(List.pairwise_cons.1 hsr).1 q hq
       have hgl:getT (trav A d r) x.1=(x.2,true):=(by rw [hI];exact zgc x.1 x.2 [] I (by simp));have hD:=ziq d g A1 fr r x.1 (by omega) (hst.pt.kid hrm1) (by rw [hag r hrm];exact hsr) (by rw [hag r hrm,hgl]) (.inr (by rw [hother r hrm];omega)) (by rw [hother r hrm];exact hr9) (by omega);obtain ⟨s1,s2,s3⟩:=Step.kid hst.pt hn2 (by simpa using h1) h2 hD.step (by have:=hD.lo;rw [hother r hrm] at this;omega) hD.hi;refine ⟨by rw [hset];exact hst.trans s1,?_,?_,?_,h.lt,h9,fun e=>absurd e hne,fun _=>⟨hsafe,hpos,fun e=>?_,fun _ e=>?_,fun _ _ _=>?_,fun _ _ e=>?_⟩⟩
       · have hdl:delT (x :: I) x.1=I:=zfh x.1 x.2 [] I (by simp) hxl
         rw [hset,s3,hD.trav,hag r hrm,hdel,hI,hdl];rw [zfe (g:=trav A d) (K1++[l]) (P1++[x]) fun c hc=>hag c (by rw [hn];simp at hc ⊢;rcases hc with hc | hc <;> simp [hc]),zdh P2 K2 fun c hc=>hag c (by rw [hn];simp [hc])];rw [zst _ K1 P1 l x h1];simp
       · rw [hset,s2,hn1,hn];simp
       · rw [hset,s2,hn1];have:=h9;rw [hn] at this;simpa using this
       · rw [hh] at e;cases e
       · rw [hl0] at e;exact absurd e c1
       · rw [hr0,hxe,hset0,hA1];exact ⟨hes,hD.safe⟩
       rw [hr0] at e;exact absurd c2 e
     obtain ⟨q1,q2,q3,q4,_⟩:=znp h hn h1 h2 (by omega)
     have hset:delA (g+1) A fr at_ key=delA g (joinA A at_ P1.length) (fr++[r]) l key:=by
      rw [delA,if_neg hne,if_neg (by rw [hh];simp),hl0,hr0,if_neg c1,if_neg c2,hi]
     have hcov:=q1.cover;generalize hA1:joinA A at_ P1.length=A1 at *;have hlm1:l∈(ndA A1 at_).kids:=(by rw [q3];simp);have hown:(own A1 d l).length < (own A1 (d+1) at_).length:=zdu q3;have ht1:=zbc (d:=d) q3 h1 h2 rfl;have hs1:Sorted (trav A1 (d+1) at_):=(by rw [q2];exact hs);rw [ht1] at hs1;simp only [weave] at hs1 ht1;obtain ⟨hw1,hw4,hw9,_⟩:=q1.pt.wf.2 l hlm1
     have hag:∀ c,c∈K1\/c∈K2->trav A1 d c=trav A d c:=by
      intro c hc;have hcm:c∈(ndA A at_).kids:=(by rw [hn];rcases hc with hc | hc <;> simp [hc]);refine (zdi (by have:=q1.len;omega) fun j hj=>?_).2.2.1;have hone:=h.one j;rw [zbu hn] at hone;simp only [List.count_cons,List.count_append,List.flatMap_cons,List.flatMap_nil,List.append_nil,beq_iff_eq] at hone
      have hj0:0 < (K1.flatMap (own A d)).count j\/0 < (K2.flatMap (own A d)).count j:=by
       rcases hc with hc | hc
       · exact .inl (List.count_pos_iff.2 (List.mem_flatMap.2 ⟨c,hc,hj⟩))
       exact .inr (List.count_pos_iff.2 (List.mem_flatMap.2 ⟨c,hc,hj⟩))
      have e1:(own A d l).count j=(if l=j then 1 else 0)+(nidx A d (ndA A l)).count j:=(by unfold own;rw [List.count_cons];simp only [beq_iff_eq];omega);have e2:(own A d r).count j=(if r=j then 1 else 0)+(nidx A d (ndA A r)).count j:=(by unfold own;rw [List.count_cons];simp only [beq_iff_eq];omega);have hjat:at_≠j:=fun e=>by rw [if_pos e] at hone;omega
      have hjl:l≠j:=fun e=>by rw [if_pos e] at e1;omega
      have hjr:r≠j:=fun e=>by rw [if_pos e] at e2;omega
      rw [<-hA1];have k1:kidA A at_ P1.length=l:=(by rw [<-hi];exact hl0);have k2:kidA A at_ (P1.length+1)=r:=(by rw [<-hi];exact hr0);unfold joinA;rw [k1,k2,zah _ hjr,zah _ hjat,zah _ hjl]
     rw [zfe K1 P1 fun c hc=>hag c (.inl hc),zdh P2 K2 fun c hc=>hag c (.inr hc)] at ht1 hs1
     have hM:trav A1 d l=trav A d l++(key,m) :: trav A d r:=by
      have e:=ht1.symm.trans (q2.trans ht2);have e':lw (trav A d) K1 P1++(trav A1 d l++rwv (trav A d) P2 K2)=lw (trav A d) K1 P1++((trav A d l++(key,m) :: trav A d r)++rwv (trav A d) P2 K2):=(by simpa using e);exact List.append_cancel_right (List.append_cancel_left e')
     have hgl:getT (trav A1 d l) key=(m,true):=by rw [hM];exact zgc key m _ _ fun q hq=>hbef q (by simp [hq])
     have hD:=ziq d g A1 (fr++[r]) l key (by omega) (q1.pt.kid hlm1) hs1.left.right (by rw [hgl]) (.inr (by omega)) hw9 (by omega);obtain ⟨s1,s2,s3⟩:=Step.kid q1.pt q3 h1 h2 hD.step (by have:=hD.lo;rw [q4] at this;simp at this;omega) hD.hi;refine ⟨by rw [hset];exact q1.trans s1,?_,?_,?_,h.lt,h9,fun e=>absurd e hne,fun _=>⟨hsafe,hpos,fun e=>?_,fun _ e=>?_,fun _ _ e=>?_,fun _ _ _=>?_⟩⟩
     · rw [hset,s3,hD.trav,hM,zfh key m _ _ (fun q hq=>hbef q (by simp [hq])) (fun q hq=>hbeh q (by simp [hq])),hdel]
       rw [zfe K1 P1 fun c hc=>hag c (.inl hc),zdh P2 K2 fun c hc=>hag c (.inr hc)];simp
     · rw [hset,s2,q3,hn];simp;omega
     · rw [hset,s2,q3];have:=h9;rw [hn] at this;simp at this;simp;omega
     · rw [hh] at e;cases e
     · rw [hl0] at e;exact absurd e c1
     · rw [hr0] at e;exact absurd e c2
     rw [hl0,hr0,hi,hA1];exact hD.safe
end Go.Proofs.YthljnnjpmdgkoaaGreat