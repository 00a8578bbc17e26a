/- Own lemmas. -/
import Derived.Test.YtdgkdfmfoonbpaaGreatR01
namespace Go.Proofs.YtdgkdfmfoonbpaaGreat
open Go Go.RowKit
/-! A key's place among the pairs of a node. -/
theorem zdu {T:Pairs} {key:ByteArray}:∀ p∈T.take (spotOf T key),klt p.1 key=true:=by
 intro p c;obtain ⟨j,b⟩:=List.mem_iff_getElem?.1 c;have a:=(List.getElem?_eq_some_iff.1 b).1;rw [List.length_take] at a;rw [List.getElem?_take,if_pos (by omega)] at b;have:=List.not_of_lt_findIdx (p:=fun p:ByteArray×Int=>!klt p.1 key) (xs:=T) (i:=j) (by unfold spotOf at a;omega);rw [<-(List.getElem?_eq_some_iff.1 b).2];simpa using this
theorem zmw {T:Pairs} {key:ByteArray} (hT:Sorted T) (hh:hitOf T key=false):∀ p∈T.drop (spotOf T key),klt key p.1=true:=by
 rw [zdm T hT];intro p a;obtain ⟨l,j⟩:=List.mem_filter.1 a;have c:klt p.1 key=false:=by simpa using j
 rcases zkf key p.1 with h | h | h
 · exact h
 · exfalso
   subst h;have b:=zdm T hT p.1;unfold hitOf at hh
   cases h0:T[spotOf T p.1]? with
   | none =>
     rw [List.drop_eq_nil_of_le (List.getElem?_eq_none_iff.1 h0)] at b;rw [<-b] at a;simp at a
   | some q =>
     rw [h0] at hh;have d:=(List.getElem?_eq_some_iff.1 h0).1;have k:=(List.getElem?_eq_some_iff.1 h0).2;rw [List.drop_eq_getElem_cons d,k] at b;rw [<-b] at a;rcases List.mem_cons.1 a with rfl | a
     · dsimp only at hh;rw [zat.2 rfl] at hh;cases hh
     have e:Sorted (q :: T.drop (spotOf T p.1+1)):=by rw [b];exact hT.filter _
     have g:=(List.pairwise_cons.1 e).1 p a;have i:q∈T.filter fun p'=>!klt p'.1 p.1:=(by rw [<-b];simp);have f:=(List.mem_filter.1 i).2;rw [g] at f;cases f
 rw [h] at c;cases c
theorem hit_at {T:Pairs} {key:ByteArray} (h:hitOf T key=true):∃ n,T[spotOf T key]?=some (key,n):=by
 unfold hitOf at h
 cases h0:T[spotOf T key]? with
 | none=>rw [h0] at h;cases h
 | some q =>
   rw [h0] at h;obtain rfl:=zat.1 h;exact ⟨q.2,rfl⟩
theorem Sorted.sub {T U:Pairs} (h:Sorted T) (hs:U.Sublist T):Sorted U:=List.Pairwise.sublist hs h
theorem Sorted.left {L R:Pairs} (h:Sorted (L++R)):Sorted L:=h.sub (List.sublist_append_left L R)
theorem Sorted.right {L R:Pairs} (h:Sorted (L++R)):Sorted R:=h.sub (List.sublist_append_right L R)
theorem Sorted.cross {L R:Pairs} (h:Sorted (L++R)):∀ p∈L,∀ q∈R,klt p.1 q.1=true:=(List.pairwise_append.1 h).2.2
theorem zkx (f:Nat->Pairs):∀ (K:List Nat) (P:Pairs),K.length=P.length+1->P.Sublist (weave f K P)
 | [],_,h=>by simp at h
 | k :: K,[],_=>by simp [weave]
 | k :: K,p :: P,h=>by
   have ih:=zkx f K P (by simpa using h);simp only [weave];exact (List.Sublist.cons_cons p ih).trans (List.sublist_append_right _ _)
theorem zfx {A:Arr}:∀ (d:Nat) (nd:Nd),nWf A d nd->nd.pairs.Sublist (ntrav A d nd)
 | 0,_,_=>List.Sublist.refl _
 | _+1,_,h=>zkx _ _ _ h.1
theorem zih {f:Nat->Pairs} {key:ByteArray}:∀ (K:List Nat) (P:Pairs),Sorted (lw f K P)->(∀ p∈P,klt p.1 key=true)->∀ q∈lw f K P,klt q.1 key=true
 | [],_,_,_,q,hq=>by simp [lw] at hq
 | _ :: _,[],_,_,q,hq=>by simp [lw] at hq
 | k :: K,p :: P,hs,hp,q,hq=>by
   simp only [lw] at hs hq;rcases List.mem_append.1 hq with h | h
   · exact zbx (hs.cross q h p (by simp)) (hp p (by simp))
   rcases List.mem_cons.1 h with rfl | h
   · exact hp q (by simp)
   exact zih K P (hs.right.sub (List.sublist_cons_self _ _)) (fun x hx=>hp x (by simp [hx])) q h
theorem zpw {f:Nat->Pairs} {key:ByteArray}:∀ (P:Pairs) (K:List Nat),Sorted (rwv f P K)->(∀ p∈P,klt key p.1=true)->∀ q∈rwv f P K,klt key q.1=true
 | [],_,_,_,q,hq=>by simp [rwv] at hq
 | _ :: _,[],_,_,q,hq=>by simp [rwv] at hq
 | p :: P,k :: K,hs,hp,q,hq=>by
   simp only [rwv] at hs hq;rcases List.mem_cons.1 hq with rfl | h
   · exact hp q (by simp)
   exact zbx (hp p (by simp)) ((List.pairwise_cons.1 hs).1 q h)
theorem zkg (key:ByteArray) (n:Int):∀ (L M R:Pairs),(∀ q∈L,klt q.1 key=true)->(∀ q∈R,klt key q.1=true)->insT (L++M++R) key n=L++insT M key n++R
 | l :: L,M,R,hL,hR=>by
   have ih:=zkg key n L M R (fun q hq=>hL q (by simp [hq])) hR;simp only [List.cons_append,insT,hL l (by simp),if_true,ih]
 | [],[],R,_,hR=>by
   cases R with
   | nil=>rfl
   | cons r R =>
     have h:=hR r (by simp);have h1:=zev h;have h2:=klt_ne h;rw [zcw] at h2;simp [insT,h1,h2]
 | [],m :: M,R,_,hR=>by
   have ih:=zkg key n [] M R (by simp) hR;simp only [List.nil_append,List.cons_append,insT] at ih ⊢
   split
   · rw [ih];rfl
   split <;> rfl
theorem zvc (key:ByteArray) (n m:Int) (L R:Pairs) (h:∀ q∈L,klt q.1 key=true):insT (L++(key,m) :: R) key n=L++(key,n) :: R:=by
 induction L with
 | nil=>simp [insT,zca,zat.2 rfl]
 | cons l L ih=>simp only [List.cons_append,insT,h l (by simp),if_true,ih fun q hq=>h q (by simp [hq])]
theorem zkj (key:ByteArray) (L M R:Pairs) (hL:∀ q∈L,klt q.1 key=true) (hR:∀ q∈R,klt key q.1=true):getT (L++M++R) key=getT M key:=by
 unfold getT;have a:(L.find? fun p=>keq p.1 key)=none:=List.find?_eq_none.2 fun q hq=>by rw [klt_ne (hL q hq)];simp
 have b:(R.find? fun p=>keq p.1 key)=none:=List.find?_eq_none.2 fun q hq=>by rw [zcw,klt_ne (hR q hq)];simp
 rw [List.find?_append,List.find?_append,a,b];simp
theorem zfz (key:ByteArray) (m:Int) (L R:Pairs) (h:∀ q∈L,klt q.1 key=true):getT (L++(key,m) :: R) key=(m,true):=by
 unfold getT;have a:(L.find? fun p=>keq p.1 key)=none:=List.find?_eq_none.2 fun q hq=>by rw [klt_ne (h q hq)];simp
 rw [List.find?_append,a];simp [zat.2 rfl]
/-! Get. -/
def getA:Nat->Arr->Nat->ByteArray->Int×Bool
 | 0,_,_,_=>(0,false)
 | g+1,A,at_,key =>
   if hitOf (ndA A at_).pairs key then (((ndA A at_).pairs[spotOf (ndA A at_).pairs key]?.getD default).2,true)
   else if (ndA A at_).kids = [] then (0,false) else getA g A (kidA A at_ (spotOf (ndA A at_).pairs key)) key
theorem down {A:Arr} {d at_:Nat} {key:ByteArray} (hw:nWf A (d+1) (ndA A at_)) (hs:Sorted (trav A (d+1) at_)) (hh:hitOf (ndA A at_).pairs key=false) :
 ∃ k K1 K2 P1 P2,ndA A at_=⟨P1++[]++P2,K1++[k]++K2⟩/\K1.length=P1.length/\K2.length=P2.length/\P1.length=spotOf (ndA A at_).pairs key/\(ndA A at_).kids[P1.length]?=some k/\kidA A at_ (spotOf (ndA A at_).pairs key)=k ∧
  (∀ p∈P1,klt p.1 key=true)/\(∀ p∈P2,klt key p.1=true):=by
 have l:(ndA A at_).kids.length=(ndA A at_).pairs.length+1:=hw.1;have c:=zbm (ndA A at_).pairs key;have e:Sorted (ndA A at_).pairs:=hs.sub (zfx (d+1) _ hw);have g:=zdu (T:=(ndA A at_).pairs) (key:=key);have f:=zmw e hh;generalize b:ndA A at_=j at *;obtain ⟨P,K⟩:=j;dsimp only at *;generalize spotOf P key=i at *;obtain ⟨k,a⟩:∃ k,K[i]?=some k:=⟨_,List.getElem?_eq_getElem (by omega)⟩;refine ⟨k,K.take i,K.drop (i+1),P.take i,P.drop i,?_,by simp;omega,by simp;omega,by simp;omega,by rw [List.length_take,Nat.min_eq_left c];exact a,?_,g,f⟩
 · have:K.take i++[k]++K.drop (i+1)=K:=by
    have:=List.take_append_drop i K;rw [List.drop_eq_getElem_cons (by omega),(List.getElem?_eq_some_iff.1 a).2] at this;simpa using this
   rw [this];simp
 unfold kidA;rw [b];simp [List.getD,a]
theorem zfp {A:Arr} {d at_ k:Nat} {P1 P2:Pairs} {K1 K2:List Nat} {key:ByteArray} (hn:ndA A at_=⟨P1++[]++P2,K1++[k]++K2⟩) (h1:K1.length=P1.length) (h2:K2.length=P2.length) (hs:Sorted (trav A (d+1) at_))
 (hb:∀ p∈P1,klt p.1 key=true) (ha:∀ p∈P2,klt key p.1=true) :
 trav A (d+1) at_=lw (trav A d) K1 P1++trav A d k++rwv (trav A d) P2 K2/\Sorted (trav A d k)/\(∀ q∈lw (trav A d) K1 P1,klt q.1 key=true)/\(∀ q∈rwv (trav A d) P2 K2,klt key q.1=true):=by
 have a:trav A (d+1) at_=lw (trav A d) K1 P1++trav A d k++rwv (trav A d) P2 K2:=zbb hn h1 h2 rfl;rw [a] at hs;exact ⟨a,hs.left.right,zih K1 P1 hs.left.left hb,zpw P2 K2 hs.right ha⟩
theorem ztf (key:ByteArray):∀ (d g:Nat) (A:Arr) (at_:Nat),d+1<=g->nWf A d (ndA A at_)->Sorted (trav A d at_)->getA g A at_ key=getT (trav A d at_) key
 | d,0,_,_,h,_,_=>by omega
 | d,g+1,A,at_,h,hw,hs=>by
   unfold getA
   cases hh:hitOf (ndA A at_).pairs key with
   | true =>
     simp only [if_true];obtain ⟨m,hm⟩:=hit_at hh;rw [hm];unfold trav at hs ⊢
     have hnd:ndA A at_=⟨(ndA A at_).pairs,(ndA A at_).kids⟩:=rfl;rw [hnd] at hw hs ⊢
     rw [zdk d _ _ _ _ hw hm] at hs ⊢
     rw [zfz _ _ _ _ fun q hq=>hs.cross q hq (key,m) (by simp)]
     rfl
   | false =>
     simp only [Bool.false_eq_true,if_false]
     cases d with
     | zero =>
       have hk:(ndA A at_).kids = []:=hw;rw [if_pos hk];have hs':Sorted (ndA A at_).pairs:=hs
       show _=getT (ndA A at_).pairs key
       rw [zkk _ hs',hh]
       rfl
     | succ d =>
       have hl:(ndA A at_).kids.length=(ndA A at_).pairs.length+1:=hw.1;rw [if_neg (fun e=>by rw [e] at hl;simp at hl)];obtain ⟨k,K1,K2,P1,P2,hn,h1,h2,_,_,hki,hb,ha⟩:=down hw hs hh;obtain ⟨ht,hsk,hlb,hra⟩:=zfp hn h1 h2 hs hb ha;have hkm:k∈(ndA A at_).kids:=(by rw [hn];simp);rw [hki,ht,zkj key _ _ _ hlb hra];exact ztf key d g A k (by omega) (hw.2 k hkm).2.2.2 hsk
/-! Set. -/
def setA:Nat->Arr->List Nat->Nat->ByteArray->Int->Arr×List Nat×Bool
 | 0,A,fr,_,_,_=>(A,fr,false)
 | g+1,A,fr,at_,key,n =>
   if hitOf (ndA A at_).pairs key then (A.set at_ ⟨(ndA A at_).pairs.set (spotOf (ndA A at_).pairs key) (key,n),(ndA A at_).kids⟩,fr,false)
   else if (ndA A at_).kids = [] then (A.set at_ ⟨(ndA A at_).pairs.take (spotOf (ndA A at_).pairs key)++(key,n) :: (ndA A at_).pairs.drop (spotOf (ndA A at_).pairs key),[]⟩,fr,true)
   else if (ndA A (kidA A at_ (spotOf (ndA A at_).pairs key))).pairs.length=9 then setA g (splitA A fr at_ (spotOf (ndA A at_).pairs key)) fr.dropLast at_ key n
   else setA g A fr (kidA A at_ (spotOf (ndA A at_).pairs key)) key n
def splitSafe (A:Arr) (fr:List Nat) (at_ i:Nat):Prop :=
 at_<A.length/\(ndA A at_).pairs.length<=9/\(ndA A at_).kids.length<=10/\i<=(ndA A at_).pairs.length/\(ndA A at_).kids[i]?=some (kidA A at_ i)/\kidA A at_ i<A.length/\kidA A at_ i≠at_/\(ndA A (kidA A at_ i)).pairs.length=9 ∧
  ((ndA A (kidA A at_ i)).kids = []\/(ndA A (kidA A at_ i)).kids.length=10)/\(∀ f∈fr,f<A.length/\f≠at_/\f≠kidA A at_ i/\ndA A f=nd0)
def zgp:Nat->Arr->List Nat->Nat->ByteArray->Prop
 | 0,_,_,_,_=>False
 | g+1,A,fr,at_,key=>at_<A.length/\(ndA A at_).pairs.length<=9 ∧
   (hitOf (ndA A at_).pairs key=false->(ndA A at_).kids≠[] →
     (ndA A at_).kids[spotOf (ndA A at_).pairs key]?=some (kidA A at_ (spotOf (ndA A at_).pairs key))/\kidA A at_ (spotOf (ndA A at_).pairs key)<A.length/\(ndA A at_).kids.length<=10 ∧
     ((ndA A (kidA A at_ (spotOf (ndA A at_).pairs key))).pairs.length=9->splitSafe A fr at_ (spotOf (ndA A at_).pairs key)/\zgp g (splitA A fr at_ (spotOf (ndA A at_).pairs key)) fr.dropLast at_ key) ∧
     ((ndA A (kidA A at_ (spotOf (ndA A at_).pairs key))).pairs.length≠9->zgp g A fr (kidA A at_ (spotOf (ndA A at_).pairs key)) key))
structure SetOk (g:Nat) (A:Arr) (fr:List Nat) (d at_:Nat) (key:ByteArray) (n:Int):Prop where
 step:Step A fr (setA g A fr at_ key n).1 (setA g A fr at_ key n).2.1 d at_
 trav:trav (setA g A fr at_ key n).1 d at_=insT (trav A d at_) key n
 lo:(ndA A at_).pairs.length<=(ndA (setA g A fr at_ key n).1 at_).pairs.length
 hi:(ndA (setA g A fr at_ key n).1 at_).pairs.length<=9
 new:(setA g A fr at_ key n).2.2 = !(getT (Go.Proofs.YtdgkdfmfoonbpaaGreat.trav A d at_) key).2
 safe:zgp g A fr at_ key
theorem zdg {A:Arr} {fr:List Nat} {d at_:Nat} (h:Pt A fr d at_) (Q:Pairs) (hQ:d=0\/Q.length=(ndA A at_).pairs.length):Step A fr (A.set at_ ⟨Q,(ndA A at_).kids⟩) fr d at_/\trav (A.set at_ ⟨Q,(ndA A at_).kids⟩) d at_=ntrav A d ⟨Q,(ndA A at_).kids⟩:=by
 have m:ndA (A.set at_ ⟨Q,(ndA A at_).kids⟩) at_=⟨Q,(ndA A at_).kids⟩:=zap _ h.lt;have a:=h.one;unfold own at a;have n:∀ j,j≠at_->ndA (A.set at_ ⟨Q,(ndA A at_).kids⟩) j=ndA A j:=fun j l=>zah _ (Ne.symm l)
 have c:∀ j∈nidx A d (ndA A at_),j≠at_:=by
  rintro j l rfl;have g:=a j;have o:0<(nidx A d (ndA A j)).count j:=List.count_pos_iff.2 l;simp only [List.count_cons,beq_self_eq_true,if_true] at g;omega
 have r:ndA A at_=⟨(ndA A at_).pairs,(ndA A at_).kids⟩:=rfl;have k:nidx A d ⟨Q,(ndA A at_).kids⟩=nidx A d (ndA A at_):=zqa d _ _ _;have i:∀ j∈nidx A d ⟨Q,(ndA A at_).kids⟩,ndA (A.set at_ ⟨Q,(ndA A at_).kids⟩) j=ndA A j:=fun j l=>n j (c j (by rw [<-k];exact l));obtain ⟨t,u⟩:=zbs d _ i;have b:own (A.set at_ ⟨Q,(ndA A at_).kids⟩) d at_=own A d at_:=by unfold own;rw [m,u,k]
 have s:nWf A d ⟨Q,(ndA A at_).kids⟩:=by
  rcases hQ with rfl | hQ
  · exact h.wf
  exact zwf d _ Q _ h.wf hQ
 have q:=h.lt;refine ⟨⟨⟨by simp [h.lt],by rw [m];exact zck (by simp) d _ i s,fun x=>by rw [b];exact h.one x,fun f hf=>?_⟩,by simp,fun j _ g _=>n j fun e=>g (by rw [e];unfold own;simp),fun j _=>by rw [b];omega,by rw [b];simp⟩,by unfold trav;rw [m,t]⟩;have g:=a f;have o:0<fr.count f:=List.count_pos_iff.2 hf;rw [n f fun e=>by simp only [List.count_cons,e,beq_self_eq_true,if_true] at g o;omega];exact ⟨by simp;exact (h.free f hf).1,(h.free f hf).2⟩
theorem zos {g:Nat} {A:Arr} {fr:List Nat} {d at_:Nat} (h:Pt A fr d at_) (key:ByteArray) (n:Int) (hs:Sorted (trav A d at_)) (h9:(ndA A at_).pairs.length<=9) (hh:hitOf (ndA A at_).pairs key=true):SetOk (g+1) A fr d at_ key n:=by
 obtain ⟨m,o⟩:=hit_at hh;have a:setA (g+1) A fr at_ key n=(A.set at_ ⟨(ndA A at_).pairs.set (spotOf (ndA A at_).pairs key) (key,n),(ndA A at_).kids⟩,fr,false):=by simp [setA,hh]
 obtain ⟨k,l⟩:=zdg h ((ndA A at_).pairs.set (spotOf (ndA A at_).pairs key) (key,n)) (.inr (by simp));have i:nWf A d ⟨(ndA A at_).pairs,(ndA A at_).kids⟩:=h.wf;have c:Sorted (ntrav A d ⟨(ndA A at_).pairs,(ndA A at_).kids⟩):=hs;have j:=zdk d _ _ _ _ i o
 have b:∀ q∈ntrav A d ⟨(ndA A at_).pairs.take (spotOf (ndA A at_).pairs key),(ndA A at_).kids.take (spotOf (ndA A at_).pairs key+1)⟩,klt q.1 key=true:=by
  rw [j] at c;exact fun q hq=>c.cross q hq (key,m) (by simp)
 have f:trav A d at_=ntrav A d ⟨(ndA A at_).pairs,(ndA A at_).kids⟩:=rfl;refine ⟨by rw [a];exact k,?_,?_,?_,?_,?_⟩
 · rw [a]
   dsimp only;rw [l,zso d _ _ _ _ _ i o,f,j,zvc _ _ _ _ _ b]
 · rw [a];dsimp only;rw [zap _ h.lt];simp
 · rw [a];dsimp only;rw [zap _ h.lt];simpa using h9
 · rw [a,f,j,zfz _ _ _ _ b];rfl
 exact ⟨h.lt,h9,fun e=>by rw [hh] at e;cases e⟩
theorem zsa {g:Nat} {A:Arr} {fr:List Nat} {at_:Nat} (h:Pt A fr 0 at_) (key:ByteArray) (n:Int) (hs:Sorted (trav A 0 at_)) (h8:(ndA A at_).pairs.length<=8):SetOk (g+1) A fr 0 at_ key n:=by
 cases hh:hitOf (ndA A at_).pairs key with
 | true=>exact zos h key n hs (by omega) hh
 | false =>
   have f:(ndA A at_).kids = []:=h.wf;have a:setA (g+1) A fr at_ key n=(A.set at_ ⟨(ndA A at_).pairs.take (spotOf (ndA A at_).pairs key)++(key,n) :: (ndA A at_).pairs.drop (spotOf (ndA A at_).pairs key),(ndA A at_).kids⟩,fr,true):=(by simp [setA,hh,f]);obtain ⟨c,d⟩:=zdg h ((ndA A at_).pairs.take (spotOf (ndA A at_).pairs key)++(key,n) :: (ndA A at_).pairs.drop (spotOf (ndA A at_).pairs key)) (.inl rfl);have b:Sorted (ndA A at_).pairs:=hs;have i:=zbm (ndA A at_).pairs key;refine ⟨by rw [a];exact c,?_,?_,?_,?_,?_⟩
   · rw [a]
     dsimp only;rw [d]
     show _=insT (ndA A at_).pairs key n
     rw [zsy _ b,hh];rfl
   · rw [a];dsimp only;rw [zap _ h.lt];simp;omega
   · rw [a];dsimp only;rw [zap _ h.lt];simp;omega
   · rw [a]
     show true = !(getT (ndA A at_).pairs key).2
     rw [zkk _ b,hh];rfl
   exact ⟨h.lt,by omega,fun _ e=>absurd f e⟩
theorem zlg {g d:Nat} {A:Arr} {fr:List Nat} {at_:Nat} (key:ByteArray) (n:Int)
 (ih:∀ (k:Nat),Pt A fr d k->(ndA A k).pairs.length<=8->Sorted (trav A d k)->SetOk g A fr d k key n)
 (h:Pt A fr (d+1) at_) (hs:Sorted (trav A (d+1) at_)) (h9:(ndA A at_).pairs.length<=9)
 (hroom:hitOf (ndA A at_).pairs key=false->(ndA A (kidA A at_ (spotOf (ndA A at_).pairs key))).pairs.length≠9):SetOk (g+1) A fr (d+1) at_ key n:=by
 cases hh:hitOf (ndA A at_).pairs key with
 | true=>exact zos h key n hs h9 hh
 | false =>
   have w:(ndA A at_).kids.length=(ndA A at_).pairs.length+1:=h.wf.1;have q:(ndA A at_).kids≠[]:=fun e=>by rw [e] at w;simp at w
   obtain ⟨k,K1,K2,P1,P2,o,u,v,t,m,b,B,z⟩:=down h.wf hs hh;obtain ⟨x,s,i,j⟩:=zfp o u v hs B z;have f:k∈(ndA A at_).kids:=(by rw [o];simp);have r:=hroom hh;rw [b] at r;obtain ⟨l,C,D,_⟩:=h.wf.2 k f;have c:=ih k (h.kid f) (by omega) s;have a:setA (g+1) A fr at_ key n=setA g A fr k key n:=(by simp [setA,hh,q,b,r]);obtain ⟨E,y,F⟩:=Step.kid h o u v c.step (by have:=c.lo;omega) c.hi;refine ⟨by rw [a];exact E,?_,?_,?_,?_,?_⟩
   · rw [a,F,c.trav,x,zkg key n _ _ _ i j]
   · rw [a,y];omega
   · rw [a,y];omega
   · rw [a,c.new,x,zkj key _ _ _ i j]
   refine ⟨h.lt,h9,fun _ _=>?_⟩
   rw [b];exact ⟨by rw [<-t];exact m,l,by omega,fun e=>absurd e r,fun _=>c.safe⟩
theorem zne {A:Arr}:∀ (d:Nat) (nd:Nd),nWf A d nd->nd.kids = []\/nd.kids.length=nd.pairs.length+1
 | 0,_,h=>.inl h
 | _+1,_,h=>.inr h.1
theorem zmz (key:ByteArray) (n:Int):∀ (d g:Nat) (A:Arr) (fr:List Nat) (at_:Nat),2 * d+1<=g->Pt A fr d at_->(ndA A at_).pairs.length<=8->Sorted (trav A d at_)->SetOk g A fr d at_ key n
 | d,0,_,_,_,h,_,_,_=>by omega
 | 0,g+1,A,fr,at_,_,h,h8,hs=>zsa h key n hs h8
 | d+1,1,_,_,_,h,_,_,_=>by omega
 | d+1,g+2,A,fr,at_,hg,h,h8,hs=>by
   by_cases hroom:hitOf (ndA A at_).pairs key=false->(ndA A (kidA A at_ (spotOf (ndA A at_).pairs key))).pairs.length≠9
   · exact zlg key n (fun k hk hk8 hks=>zmz key n d (g+1) A fr k (by omega) hk hk8 hks) h hs (by omega) hroom
   obtain ⟨hh,hfull⟩:hitOf (ndA A at_).pairs key=false/\(ndA A (kidA A at_ (spotOf (ndA A at_).pairs key))).pairs.length=9:=by
    cases hh:hitOf (ndA A at_).pairs key with
    | true=>exact absurd (fun e=>by rw [hh] at e;cases e) hroom
    | false =>
      refine ⟨rfl,?_⟩;by_cases e:(ndA A (kidA A at_ (spotOf (ndA A at_).pairs key))).pairs.length=9
      · exact e
      exact absurd (fun _=>e) hroom
   have X:(ndA A at_).kids.length=(ndA A at_).pairs.length+1:=h.wf.1;have Q:(ndA A at_).kids≠[]:=fun e=>by rw [e] at X;simp at X
   obtain ⟨k,K1,K2,P1,P2,O,H,h2,q,C,m,hb,ha⟩:=down h.wf hs hh;rw [m] at hfull;obtain ⟨T,Z,U,V,q3,q4,q5,q6,q7,q8⟩:=zoo h O H h2 hfull
   have i:setA (g+2) A fr at_ key n=setA (g+1) (splitA A fr at_ P1.length) fr.dropLast at_ key n:=by
    show setA (g+1+1) A fr at_ key n=_
    simp [setA,hh,Q,m,hfull,q]
   have F:Sorted (trav (splitA A fr at_ P1.length) (d+1) at_):=(by rw [V];exact hs);have D:k∈(ndA A at_).kids:=(by rw [O];simp);obtain ⟨z,a9,aa,N⟩:=h.wf.2 k D;have ad:(ndA (splitA A fr at_ P1.length) at_).pairs.length=(ndA A at_).pairs.length+1:=(by rw [q3,O];simp;omega)
   have o:hitOf (ndA (splitA A fr at_ P1.length) at_).pairs key=false->(ndA (splitA A fr at_ P1.length) (kidA (splitA A fr at_ P1.length) at_ (spotOf (ndA (splitA A fr at_ P1.length) at_).pairs key))).pairs.length≠9:=by
    intro M;obtain ⟨G,u,v,a,l,P,I,a4,a0,W,B,L,K⟩:=down U.pt.wf F M;rw [B]
    have s:G=k\/G=takeI A fr:=by
     have E:=P.symm.trans q3;have y:a++l=P1++T :: P2:=(by have:=congrArg Nd.pairs E;simpa using this);have J:u++G :: v=K1++k :: takeI A fr :: K2:=(by have:=congrArg Nd.kids E;simpa using this)
     have ab:P1.length<=a.length:=by
      rcases Nat.lt_or_ge a.length P1.length with j | t
      · exfalso
        have w:(a++l)[a.length]?=P1[a.length]?:=(by rw [y,List.getElem?_append_left j]);rw [List.getElem?_append_right (Nat.le_refl _),Nat.sub_self,List.getElem?_eq_getElem j] at w;have S:P1[a.length]∈l:=List.mem_of_getElem? w;have R:P1[a.length]∈P1:=List.getElem_mem j;have r:=K _ S;rw [zev (hb _ R)] at r;cases r
      exact t
     have Y:a.length<=P1.length+1:=by
      rcases Nat.lt_or_ge (P1.length+1) a.length with j | t
      · exfalso
        have w:(a++l)[P1.length+1]?=P2[0]?:=by
         rw [y,List.getElem?_append_right (by omega),show P1.length+1-P1.length=0+1 by omega,List.getElem?_cons_succ]
        rw [List.getElem?_append_left j,List.getElem?_eq_getElem j] at w;have S:a[P1.length+1]∈P2:=List.mem_of_getElem? w.symm;have R:a[P1.length+1]∈a:=List.getElem_mem j;have r:=ha _ S;rw [zev (L _ R)] at r;cases r
      exact t
     have x:(u++G :: v)[a.length]?=some G:=(by rw [List.getElem?_append_right (by omega),I,Nat.sub_self];rfl);rw [J] at x;by_cases e:a.length=P1.length
     · left
       rw [e,List.getElem?_append_right (by omega),H,Nat.sub_self] at x;simpa using x.symm
     right
     have e':a.length=P1.length+1:=(by omega);rw [e',List.getElem?_append_right (by omega),H,show P1.length+1-P1.length=0+1 by omega] at x;simpa using x.symm
    rcases s with rfl | rfl
    · rw [q4];simp;omega
    rw [q5];simp;omega
   have b:=zlg (g:=g) key n (fun c hc hc8 hcs=>zmz key n d g _ _ c (by omega) hc hc8 hcs) U.pt F (by omega) o;refine ⟨by rw [i];exact U.trans b.step,?_,?_,?_,?_,?_⟩
   · rw [i,b.trav,V]
   · rw [i];have:=b.lo;omega
   · rw [i];exact b.hi
   · rw [i,b.new,V]
   refine ⟨h.lt,by omega,fun _ _=>?_⟩
   rw [m];refine ⟨by rw [<-q];exact C,z,by omega,fun _=>⟨⟨h.lt,by omega,by omega,zbm _ _,?_⟩,by rw [<-q];exact b.safe⟩,fun e=>absurd hfull e⟩;rw [m];refine ⟨by rw [<-q];exact C,z,q6,hfull,?_,fun f hf=>⟨(h.free f hf).1,fun e=>?_,fun e=>?_,(h.free f hf).2⟩⟩
   · rcases zne d _ N with e | e
     · exact .inl e
     exact .inr (by omega)
   · have r:=h.one f
     have h4:0<fr.count f:=List.count_pos_iff.2 hf;have h5:0<(own A (d+1) at_).count f:=List.count_pos_iff.2 (by rw [e];unfold own;simp);omega
   have r:=(h.kid D).one f
   have h4:0<fr.count f:=List.count_pos_iff.2 hf;have h5:0<(own A d k).count f:=List.count_pos_iff.2 (by rw [e];unfold own;simp);omega
structure zbk (A:Arr) (fr:List Nat) (at_:Nat):Prop where
 lt:at_<A.length
 hi:(ndA A at_).pairs.length<=9
 len:(ndA A at_).kids.length=(ndA A at_).pairs.length+1
 kid:∀ c∈(ndA A at_).kids,c<A.length/\c≠at_/\(ndA A c).pairs.length<=9/\((ndA A c).kids = []\/(ndA A c).kids.length=(ndA A c).pairs.length+1)
 both:∀ c∈(ndA A at_).kids,∀ c'∈(ndA A at_).kids,((ndA A c).kids = []↔(ndA A c').kids = [])
 apart:∀ (i j:Nat) c,(ndA A at_).kids[i]?=some c->(ndA A at_).kids[j]?=some c->i=j
 free:fr.length<=A.length
theorem zqd {α:Type} [BEq α] [LawfulBEq α] {l:List α} (h:∀ x,l.count x<=1):∀ (i j:Nat) c,l[i]?=some c->l[j]?=some c->i=j:=by
 have:l.Nodup:=List.nodup_iff_count.2 h;intro i j c g k;obtain ⟨b,d⟩:=List.getElem?_eq_some_iff.1 g;obtain ⟨e,f⟩:=List.getElem?_eq_some_iff.1 k;rcases Nat.lt_trichotomy i j with a | a | a
 · exact absurd (d.trans f.symm) ((List.pairwise_iff_getElem.1 this) i j b e a)
 · exact a
 exact absurd (f.trans d.symm) ((List.pairwise_iff_getElem.1 this) j i e b a)
theorem zgh {f:Nat->List Nat} (hf:∀ k,k∈f k) (x:Nat):∀ (K:List Nat),K.count x<=(K.flatMap f).count x
 | []=>by simp
 | k :: K=>by
   have ih:=zgh hf x K;rw [List.flatMap_cons,List.count_append,List.count_cons]
   split
   · rename_i e
     have:0<(f k).count x:=List.count_pos_iff.2 (by have e':k=x:=by simpa using e
                                                    rw [<-e'];exact hf k)
     omega
   omega
theorem Pt.safe {A:Arr} {fr:List Nat} {d at_:Nat} (h:Pt A fr (d+1) at_) (h9:(ndA A at_).pairs.length<=9) (hc:(own A (d+1) at_).length+fr.length<=A.length):zbk A fr at_ where
 lt:=h.lt
 hi:=h9
 len:=h.wf.1
 kid c hc:=by
  obtain ⟨h1,h2,h3,h4⟩:=h.wf.2 c hc;refine ⟨h1,fun e=>?_,h3,zne d _ h4⟩;have h5:=h.one at_;have h6:0<(nidx A (d+1) (ndA A at_)).count at_:=List.count_pos_iff.2 (List.mem_flatMap.2 ⟨c,hc,by simp [e]⟩);unfold own at h5;simp only [List.count_cons,beq_self_eq_true,if_true] at h5;omega
 both c hc c' hc':=by
  obtain ⟨_,_,_,h4⟩:=h.wf.2 c hc;obtain ⟨_,_,_,h4'⟩:=h.wf.2 c' hc'
  cases d with
  | zero=>simp only [nWf] at h4 h4';simp [h4,h4']
  | succ d =>
    have e1:=h4.1;have e2:=h4'.1
    constructor
    · intro e;rw [e] at e1;simp at e1
    intro e;rw [e] at e2;simp at e2
 apart:=by
  refine zqd fun x=>?_;have h5:=h.one x;have h6:=zgh (f:=fun k=>k :: nidx A d (ndA A k)) (fun k=>by simp) x (ndA A at_).kids;unfold own at h5;rw [List.count_cons] at h5;have h7:(nidx A (d+1) (ndA A at_)).count x=((ndA A at_).kids.flatMap fun k=>k :: nidx A d (ndA A k)).count x:=rfl;omega
 free:=by omega
theorem zhk (A:Arr) (d k:Nat):k∈own A d k:=by unfold own;simp
theorem Step.two {A A':Arr} {fr:List Nat} {d at_ a b:Nat} {P1 P2:Pairs} {K1 K2:List Nat} {p x:ByteArray×Int} {na nb:Nd} (h:Pt A fr (d+1) at_) (hn:ndA A at_=⟨P1++[p]++P2,K1++[a,b]++K2⟩) (h1:K1.length=P1.length) (h2:K2.length=P2.length)
 (hl:A'.length=A.length) (hat:ndA A' at_=⟨P1++[x]++P2,K1++[a,b]++K2⟩) (ha:ndA A' a=na) (hb:ndA A' b=nb) (ho:∀ j,j≠at_->j≠a->j≠b->ndA A' j=ndA A j)
 (wa:nWf A d na) (wb:nWf A d nb) (ha4:4<=na.pairs.length) (ha9:na.pairs.length<=9) (hb4:4<=nb.pairs.length) (hb9:nb.pairs.length<=9)
 (hix:∀ j,(nidx A d na).count j+(nidx A d nb).count j=(nidx A d (ndA A a)).count j+(nidx A d (ndA A b)).count j) (hil:(nidx A d na).length+(nidx A d nb).length=(nidx A d (ndA A a)).length+(nidx A d (ndA A b)).length)
 (htr:ntrav A d na++x :: ntrav A d nb=ntrav A d (ndA A a)++p :: ntrav A d (ndA A b)) :
 Step A fr A' fr (d+1) at_/\trav A' (d+1) at_=trav A (d+1) at_:=by
 have g:∀ j,(if at_=j then 1 else 0)+((if a=j then 1 else 0)+(nidx A d (ndA A a)).count j)+((if b=j then 1 else 0)+(nidx A d (ndA A b)).count j)+fr.count j<=1:=by
  intro j;have:=h.one j;rw [zbr hn] at this;simp only [List.count_cons,List.count_append,List.flatMap_cons,List.flatMap_nil,List.append_nil,beq_iff_eq] at this;have F:(own A d a).count j=(if a=j then 1 else 0)+(nidx A d (ndA A a)).count j:=(by unfold own;rw [List.count_cons];simp only [beq_iff_eq];omega);have G:(own A d b).count j=(if b=j then 1 else 0)+(nidx A d (ndA A b)).count j:=(by unfold own;rw [List.count_cons];simp only [beq_iff_eq];omega);omega
 have low:∀ j,0<(nidx A d na).count j+(nidx A d nb).count j->ndA A' j=ndA A j:=by
  intro j k;have i:=g j;have E:=hix j;refine ho j (fun e=>?_) (fun e=>?_) (fun e=>?_)
  · rw [if_pos e.symm] at i;omega
  · rw [if_pos e.symm] at i;omega
  rw [if_pos e.symm] at i;omega
 have D:∀ j∈nidx A d na,ndA A' j=ndA A j:=fun j k=>low j (by have:=List.count_pos_iff.2 k;omega);have lb:∀ j∈nidx A d nb,ndA A' j=ndA A j:=fun j k=>low j (by have:=List.count_pos_iff.2 k;omega);obtain ⟨t,u⟩:=zbs d _ D;obtain ⟨v,w⟩:=zbs d _ lb;have r:own A' d a=a :: nidx A d na:=by unfold own;rw [ha,u]
 have s:own A' d b=b :: nidx A d nb:=by unfold own;rw [hb,w]
 have m:own A d a=a :: nidx A d (ndA A a):=rfl;have n:own A d b=b :: nidx A d (ndA A b):=rfl
 have l:∀ c,c=a\/c=b->c∈(ndA A at_).kids:=by
  intro c o;rw [hn];rcases o with rfl | rfl <;> simp
 have B:=(h.wf.2 a (l a (.inl rfl))).1;have C:=(h.wf.2 b (l b (.inr rfl))).1;have y:=Step.node (A':=A') (fr':=fr) (Pm':=[x]) (Km':=[a,b]) h hn h1 h2 hat rfl (by omega) (fun j k c1 c2 c3=>?chg) ?hk ?hfree (fun j k=>?hold) (fun j k=>?hnew) ?hcov
 case chg =>
  simp only [List.flatMap_cons,List.flatMap_nil,List.append_nil,List.mem_append,not_or] at c2;exact ho j c1 (fun e=>c2.1 (e▸zhk A d a)) (fun e=>c2.2 (e▸zhk A d b))
 case hk =>
  intro c o;have q:c=a\/c=b:=(by simpa using o);rcases q with rfl | rfl
  · rw [ha];exact ⟨by omega,ha4,ha9,zck (by omega) d _ D wa⟩
  rw [hb];exact ⟨by omega,hb4,hb9,zck (by omega) d _ lb wb⟩
 case hfree =>
  intro f z;have i:=g f;have E:0<fr.count f:=List.count_pos_iff.2 z;rw [hl,ho f (fun e=>by rw [if_pos e.symm] at i;omega) (fun e=>by rw [if_pos e.symm] at i;omega) (fun e=>by rw [if_pos e.symm] at i;omega)];exact h.free f z
 case hold =>
  have:=hix j;simp only [List.flatMap_cons,List.flatMap_nil,List.append_nil,List.count_append,r,s,m,n,List.count_cons];omega
 case hnew =>
  have i:=g j;have:=hix j;simp only [List.flatMap_cons,List.flatMap_nil,List.append_nil,List.count_append,r,s,List.count_cons,beq_iff_eq];omega
 case hcov =>
  simp only [List.flatMap_cons,List.flatMap_nil,List.append_nil,List.length_append,r,s,m,n,List.length_cons];omega
 refine ⟨y.1,?_⟩;rw [y.2,zbb hn h1 h2 rfl]
 congr 2
 simp only [weave];unfold trav;rw [ha,hb,t,v];exact htr
/-! Two kids joined. -/
def joinA (A:Arr) (at_ i:Nat):Arr :=
 ((A.set (kidA A at_ i) ⟨(ndA A (kidA A at_ i)).pairs++(ndA A at_).pairs.getD i default :: (ndA A (kidA A at_ (i+1))).pairs,(ndA A (kidA A at_ i)).kids++(ndA A (kidA A at_ (i+1))).kids⟩).set at_
   ⟨(ndA A at_).pairs.take i++(ndA A at_).pairs.drop (i+1),(ndA A at_).kids.take (i+1)++(ndA A at_).kids.drop (i+2)⟩).set (kidA A at_ (i+1)) nd0
theorem zex {A:Arr} {at_:Nat} {P:Pairs} {K1 K2:List Nat} {k:Nat} (h:ndA A at_=⟨P,K1++k :: K2⟩):kidA A at_ K1.length=k:=by
 unfold kidA;rw [h];simp [List.getD]
theorem zfy {A:Arr} {at_:Nat} {P:Pairs} {K1 K2:List Nat} {k k':Nat} (h:ndA A at_=⟨P,K1++k :: k' :: K2⟩):kidA A at_ (K1.length+1)=k':=by
 unfold kidA;rw [h];simp [List.getD]
theorem znl {A:Arr} {fr:List Nat} {d at_ l r:Nat} {P1 P2:Pairs} {K1 K2:List Nat} {p:ByteArray×Int} (h:Pt A fr (d+1) at_) (hn:ndA A at_=⟨P1++[p]++P2,K1++[l,r]++K2⟩) (h1:K1.length=P1.length) (h2:K2.length=P2.length)
 (h8:(ndA A l).pairs.length+(ndA A r).pairs.length<=8):Step A fr (joinA A at_ P1.length) (fr++[r]) (d+1) at_/\trav (joinA A at_ P1.length) (d+1) at_=trav A (d+1) at_ ∧
   ndA (joinA A at_ P1.length) at_=⟨P1++[]++P2,K1++[l]++K2⟩/\ndA (joinA A at_ P1.length) l=⟨(ndA A l).pairs++p :: (ndA A r).pairs,(ndA A l).kids++(ndA A r).kids⟩/\(joinA A at_ P1.length).length=A.length ∧
   kidA A at_ P1.length=l/\kidA A at_ (P1.length+1)=r:=by
 have s:ndA A at_=⟨P1++[p]++P2,K1++l :: r :: K2⟩:=by rw [hn];simp
 have G:kidA A at_ P1.length=l:=by rw [<-h1];exact zex s
 have H:kidA A at_ (P1.length+1)=r:=by rw [<-h1];exact zfy s
 have g:∀ j,(if at_=j then 1 else 0)+((if l=j then 1 else 0)+(nidx A d (ndA A l)).count j)+((if r=j then 1 else 0)+(nidx A d (ndA A r)).count j)+fr.count j<=1:=by
  intro j;have:=h.one j;rw [zbr hn] at this;simp only [List.count_cons,List.count_append,List.flatMap_cons,List.flatMap_nil,List.append_nil,beq_iff_eq] at this;have W:(own A d l).count j=(if l=j then 1 else 0)+(nidx A d (ndA A l)).count j:=(by unfold own;rw [List.count_cons];simp only [beq_iff_eq];omega);have X:(own A d r).count j=(if r=j then 1 else 0)+(nidx A d (ndA A r)).count j:=(by unfold own;rw [List.count_cons];simp only [beq_iff_eq];omega);omega
 have z:l≠at_:=by
  intro e;have:=g l;rw [if_pos e.symm,if_pos rfl] at this;omega
 have C:r≠at_:=by
  intro e;have:=g r;rw [if_pos e.symm,if_pos rfl] at this;omega
 have B:l≠r:=by
  intro e;have:=g r;rw [if_pos e,if_pos rfl] at this;omega
 have q:∀ c,c=l\/c=r->c∈(ndA A at_).kids:=by
  intro c x;rw [hn];rcases x with rfl | rfl <;> simp
 obtain ⟨y,M,N,m⟩:=h.wf.2 l (q l (.inl rfl));obtain ⟨P,Q,R,t⟩:=h.wf.2 r (q r (.inr rfl));have L:=h.lt
 have i:joinA A at_ P1.length=((A.set l ⟨(ndA A l).pairs++p :: (ndA A r).pairs,(ndA A l).kids++(ndA A r).kids⟩).set at_ ⟨P1++[]++P2,K1++[l]++K2⟩).set r nd0:=by
  unfold joinA;rw [G,H,hn]
  congr 2
  · simp [List.getD]
  simp [List.drop_append,List.take_append,h1]
  rw [List.take_of_length_le (by omega),List.drop_eq_nil_of_le (by omega)]
  rfl
 have I:ndA (joinA A at_ P1.length) at_=⟨P1++[]++P2,K1++[l]++K2⟩:=by rw [i,zah _ C];exact zap _ (by simp;omega)
 have w:ndA (joinA A at_ P1.length) l=⟨(ndA A l).pairs++p :: (ndA A r).pairs,(ndA A l).kids++(ndA A r).kids⟩:=by
  rw [i,zah _ B.symm,zah _ z.symm];exact zap _ y
 have T:ndA (joinA A at_ P1.length) r=nd0:=by rw [i];exact zap _ (by simp;omega)
 have D:∀ j,j≠at_->j≠l->j≠r->ndA (joinA A at_ P1.length) j=ndA A j:=by
  intro j a b c;rw [i,zah _ (Ne.symm c),zah _ (Ne.symm a),zah _ (Ne.symm b)]
 have J:(joinA A at_ P1.length).length=A.length:=by rw [i];simp
 generalize joinA A at_ P1.length=A' at *;have o:nidx A d ⟨(ndA A l).pairs++p :: (ndA A r).pairs,(ndA A l).kids++(ndA A r).kids⟩=nidx A d (ndA A l)++nidx A d (ndA A r):=zcv d _ _ _ _ _;have O:=zid d _ m;have S:=zid d _ t
 have low:∀ j∈nidx A d ⟨(ndA A l).pairs++p :: (ndA A r).pairs,(ndA A l).kids++(ndA A r).kids⟩,ndA A' j=ndA A j:=by
  intro j i;rw [o] at i;have k:=g j
  have K:0<(nidx A d (ndA A l)).count j+(nidx A d (ndA A r)).count j:=by
   have:=List.count_pos_iff.2 i
   rwa [List.count_append] at this
  refine D j (fun e=>?_) (fun e=>?_) (fun e=>?_)
  · rw [if_pos e.symm] at k;omega
  · rw [if_pos e.symm] at k;omega
  rw [if_pos e.symm] at k;omega
 obtain ⟨U,V⟩:=zbs d _ low;have E:own A' d l=l :: (nidx A d (ndA A l)++nidx A d (ndA A r)):=by unfold own;rw [w,V,o]
 have u:own A d l=l :: nidx A d (ndA A l):=rfl;have v:own A d r=r :: nidx A d (ndA A r):=rfl;have F:=Step.node (A':=A') (fr':=fr++[r]) (Pm':=[]) (Km':=[l]) h hn h1 h2 I rfl (by omega) (fun j i c1 c2 c3=>?chg) ?hk ?hfree (fun j i=>?hold) (fun j i=>?hnew) ?hcov
 case chg =>
  simp only [List.flatMap_cons,List.flatMap_nil,List.append_nil,List.mem_append,not_or] at c2;exact D j c1 (fun e=>c2.1 (e▸zhk A d l)) (fun e=>c2.2 (e▸zhk A d r))
 case hk =>
  intro c x;obtain rfl:c=l:=by simpa using x
  rw [w];refine ⟨by omega,by simp;omega,by simp;omega,zck (by omega) d _ low (znf d _ _ _ _ _ m t)⟩
 case hfree =>
  intro f n;rcases List.mem_append.1 n with n | n
  · have k:=g f
    have K:0<fr.count f:=List.count_pos_iff.2 n;rw [J,D f (fun e=>by rw [if_pos e.symm] at k;omega) (fun e=>by rw [if_pos e.symm] at k;omega) (fun e=>by rw [if_pos e.symm] at k;omega)];exact h.free f n
  obtain rfl:f=r:=by simpa using n
  exact ⟨by omega,T⟩
 case hold =>
  simp only [List.flatMap_cons,List.flatMap_nil,List.append_nil,List.count_append,E,u,v,List.count_cons,List.count_nil];omega
 case hnew =>
  have k:=g j;simp only [List.flatMap_cons,List.flatMap_nil,List.append_nil,List.count_append,E,List.count_cons,List.count_nil,beq_iff_eq];omega
 case hcov =>
  simp only [List.flatMap_cons,List.flatMap_nil,List.append_nil,List.length_append,E,u,v,List.length_cons,List.length_nil];omega
 refine ⟨F.1,?_,I,w,J,G,H⟩;rw [F.2,zbb hn h1 h2 rfl]
 congr 2
 simp only [weave];unfold trav;rw [w,U];exact zes d _ _ _ _ _ m
end Go.Proofs.YtdgkdfmfoonbpaaGreat