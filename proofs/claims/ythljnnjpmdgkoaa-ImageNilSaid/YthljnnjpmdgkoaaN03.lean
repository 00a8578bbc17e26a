/- The package index in plain terms: Set and Get below a node. No program is run. -/
import Derived.Test.YthljnnjpmdgkoaaN02
namespace Go.Proofs.Ythljnnjpmdgkoaa
open Go Go.RowKit
/-! A key's place among the pairs of a node. -/
theorem zgw {T:Pairs} {key:ByteArray}:∀ p∈T.take (spotOf T key),klt p.1 key=true:=by
 intro p hp;obtain ⟨j,hj⟩:=List.mem_iff_getElem?.1 hp;have hjl:=(List.getElem?_eq_some_iff.1 hj).1;rw [List.length_take] at hjl;rw [List.getElem?_take,if_pos (by omega)] at hj;have:=List.not_of_lt_findIdx (p:=fun p:ByteArray × Int=>!klt p.1 key) (xs:=T) (i:=j) (by unfold spotOf at hjl;omega);rw [<-(List.getElem?_eq_some_iff.1 hj).2];simpa using this
theorem zls {T:Pairs} {key:ByteArray} (hT:Sorted T) (hh:hitOf T key=false):∀ p∈T.drop (spotOf T key),klt key p.1=true:=by
 rw [zcy T hT];intro p hp;obtain ⟨hm,hk⟩:=List.mem_filter.1 hp;have hk':klt p.1 key=false:=by simpa using hk
 rcases zhq key p.1 with h | h | h
 · exact h
 · exfalso
   subst h;have hd:=zcy T hT p.1;unfold hitOf at hh
   cases h0:T[spotOf T p.1]? with
   | none =>
     rw [List.drop_eq_nil_of_le (List.getElem?_eq_none_iff.1 h0)] at hd;rw [<-hd] at hp;simp at hp
   | some q =>
     rw [h0] at hh;have hil:=(List.getElem?_eq_some_iff.1 h0).1;have hq:=(List.getElem?_eq_some_iff.1 h0).2;rw [List.drop_eq_getElem_cons hil,hq] at hd;rw [<-hd] at hp;rcases List.mem_cons.1 hp with rfl | hp
     · dsimp only at hh;rw [zai.2 rfl] at hh;cases hh
     have hs2:Sorted (q :: T.drop (spotOf T p.1+1)):=by rw [hd];exact hT.filter _
     have h3:=(List.pairwise_cons.1 hs2).1 p hp;have h4:q∈T.filter fun p'=>!klt p'.1 p.1:=(by rw [<-hd];simp);have h5:=(List.mem_filter.1 h4).2;rw [h3] at h5;cases h5
 rw [h] at hk';cases hk'
theorem hit_at {T:Pairs} {key:ByteArray} (h:hitOf T key=true):∃ n,T[spotOf T key]? = some (key,n):=by
 unfold hitOf at h
 cases h0:T[spotOf T key]? with
 | none=>rw [h0] at h;cases h
 | some q =>
   rw [h0] at h;obtain rfl:=zai.1 h;exact ⟨q.2,rfl⟩
theorem Sorted.sub {T U:Pairs} (h:Sorted T) (hs:U.Sublist T):Sorted U:=List.Pairwise.sublist hs h
theorem Sorted.left {L R:Pairs} (h:Sorted (L++R)):Sorted L:=h.sub (List.sublist_append_left L R)
theorem Sorted.right {L R:Pairs} (h:Sorted (L++R)):Sorted R:=h.sub (List.sublist_append_right L R)
theorem Sorted.cross {L R:Pairs} (h:Sorted (L++R)):∀ p∈L,∀ q∈R,klt p.1 q.1=true:=(List.pairwise_append.1 h).2.2
theorem zjw (f:Nat->Pairs):∀ (K:List Nat) (P:Pairs),K.length=P.length+1->P.Sublist (weave f K P)
 | [],_,h=>by simp at h
 | k :: K,[],_=>by simp [weave]
 | k :: K,p :: P,h=>by
   have ih:=zjw f K P (by simpa using h);simp only [weave];exact (List.Sublist.cons_cons p ih).trans (List.sublist_append_right _ _)
theorem zkt {A:Arr}:∀ (d:Nat) (nd:Nd),nWf A d nd->nd.pairs.Sublist (ntrav A d nd)
 | 0,_,_=>List.Sublist.refl _
 | _+1,_,h=>zjw _ _ _ h.1
theorem zhm {f:Nat->Pairs} {key:ByteArray}:∀ (K:List Nat) (P:Pairs),Sorted (lw f K P)->(∀ p∈P,klt p.1 key=true)->∀ q∈lw f K P,klt q.1 key=true
 | [],_,_,_,q,hq=>by simp [lw] at hq
 | _ :: _,[],_,_,q,hq=>by simp [lw] at hq
 | k :: K,p :: P,hs,hp,q,hq=>by
   simp only [lw] at hs hq;rcases List.mem_append.1 hq with h | h
   · exact zbu (hs.cross q h p (by simp)) (hp p (by simp))
   rcases List.mem_cons.1 h with rfl | h
   · exact hp q (by simp)
   exact zhm K P (hs.right.sub (List.sublist_cons_self _ _)) (fun x hx=>hp x (by simp [hx])) q h
theorem zok {f:Nat->Pairs} {key:ByteArray}:∀ (P:Pairs) (K:List Nat),Sorted (rwv f P K)->(∀ p∈P,klt key p.1=true)->∀ q∈rwv f P K,klt key q.1=true
 | [],_,_,_,q,hq=>by simp [rwv] at hq
 | _ :: _,[],_,_,q,hq=>by simp [rwv] at hq
 | p :: P,k :: K,hs,hp,q,hq=>by
   simp only [rwv] at hs hq;rcases List.mem_cons.1 hq with rfl | h
   · exact hp q (by simp)
   exact zbu (hp p (by simp)) ((List.pairwise_cons.1 hs).1 q h)
theorem zjp (key:ByteArray) (n:Int):∀ (L M R:Pairs),(∀ q∈L,klt q.1 key=true)->(∀ q∈R,klt key q.1=true)->insT (L++M++R) key n=L++insT M key n++R
 | l :: L,M,R,hL,hR=>by
   have ih:=zjp key n L M R (fun q hq=>hL q (by simp [hq])) hR;simp only [List.cons_append,insT,hL l (by simp),if_true,ih]
 | [],[],R,_,hR=>by
   cases R with
   | nil=>rfl
   | cons r R =>
     have h:=hR r (by simp);have h1:=zcx h;have h2:=klt_ne h;rw [zef] at h2;simp [insT,h1,h2]
 | [],m :: M,R,_,hR=>by
   have ih:=zjp key n [] M R (by simp) hR;simp only [List.nil_append,List.cons_append,insT] at ih ⊢
   split
   · rw [ih];rfl
   split <;> rfl
theorem zsk (key:ByteArray) (n m:Int) (L R:Pairs) (h:∀ q∈L,klt q.1 key=true):insT (L++(key,m) :: R) key n=L++(key,n) :: R:=by
 induction L with
 | nil=>simp [insT,zbc,zai.2 rfl]
 | cons l L ih=>simp only [List.cons_append,insT,h l (by simp),if_true,ih fun q hq=>h q (by simp [hq])]
theorem znv (key:ByteArray) (L M R:Pairs) (hL:∀ q∈L,klt q.1 key=true) (hR:∀ q∈R,klt key q.1=true):getT (L++M++R) key=getT M key:=by
 unfold getT;have h1:(L.find? fun p=>keq p.1 key)=none:=List.find?_eq_none.2 fun q hq=>by rw [klt_ne (hL q hq)];simp
 have h2:(R.find? fun p=>keq p.1 key)=none:=List.find?_eq_none.2 fun q hq=>by rw [zef,klt_ne (hR q hq)];simp
 rw [List.find?_append,List.find?_append,h1,h2];simp
theorem znw (key:ByteArray) (m:Int) (L R:Pairs) (h:∀ q∈L,klt q.1 key=true):getT (L++(key,m) :: R) key=(m,true):=by
 unfold getT;have h1:(L.find? fun p=>keq p.1 key)=none:=List.find?_eq_none.2 fun q hq=>by rw [klt_ne (h q hq)];simp
 rw [List.find?_append,h1];simp [zai.2 rfl]
/-! Get. -/
def getA:Nat->Arr->Nat->ByteArray->Int × Bool
 | 0,_,_,_=>(0,false)
 | g+1,A,at_,key =>
   if hitOf (ndA A at_).pairs key then (((ndA A at_).pairs[spotOf (ndA A at_).pairs key]?.getD default).2,true)
   else if (ndA A at_).kids = [] then (0,false) else getA g A (kidA A at_ (spotOf (ndA A at_).pairs key)) key
theorem down {A:Arr} {d at_:Nat} {key:ByteArray} (hw:nWf A (d+1) (ndA A at_)) (hs:Sorted (trav A (d+1) at_)) (hh:hitOf (ndA A at_).pairs key=false) :
 ∃ k K1 K2 P1 P2,ndA A at_=⟨P1++[]++P2,K1++[k]++K2⟩/\K1.length=P1.length/\K2.length=P2.length/\P1.length=spotOf (ndA A at_).pairs key/\(ndA A at_).kids[P1.length]? = some k/\kidA A at_ (spotOf (ndA A at_).pairs key)=k ∧
  (∀ p∈P1,klt p.1 key=true)/\(∀ p∈P2,klt key p.1=true):=by
 have hl:(ndA A at_).kids.length=(ndA A at_).pairs.length+1:=hw.1;have hsl:=zbm (ndA A at_).pairs key;have hP:Sorted (ndA A at_).pairs:=hs.sub (zkt (d+1) _ hw);have hb:=zgw (T:=(ndA A at_).pairs) (key:=key);have ha:=zls hP hh;generalize hnd:ndA A at_=nd at *;obtain ⟨P,K⟩:=nd;dsimp only at *;generalize spotOf P key=i at *;obtain ⟨k,hk⟩:∃ k,K[i]? = some k:=⟨_,List.getElem?_eq_getElem (by omega)⟩;refine ⟨k,K.take i,K.drop (i+1),P.take i,P.drop i,?_,by simp;omega,by simp;omega,by simp;omega,by rw [List.length_take,Nat.min_eq_left hsl];exact hk,?_,hb,ha⟩
 · have:K.take i++[k]++K.drop (i+1)=K:=by
    have:=List.take_append_drop i K;rw [List.drop_eq_getElem_cons (by omega),(List.getElem?_eq_some_iff.1 hk).2] at this;simpa using this
   rw [this];simp
 unfold kidA;rw [hnd];simp [List.getD,hk]
theorem zhg {A:Arr} {d at_ k:Nat} {P1 P2:Pairs} {K1 K2:List Nat} {key:ByteArray} (hn:ndA A at_=⟨P1++[]++P2,K1++[k]++K2⟩) (h1:K1.length=P1.length) (h2:K2.length=P2.length) (hs:Sorted (trav A (d+1) at_))
 (hb:∀ p∈P1,klt p.1 key=true) (ha:∀ p∈P2,klt key p.1=true) :
 trav A (d+1) at_=lw (trav A d) K1 P1++trav A d k++rwv (trav A d) P2 K2/\Sorted (trav A d k)/\(∀ q∈lw (trav A d) K1 P1,klt q.1 key=true)/\(∀ q∈rwv (trav A d) P2 K2,klt key q.1=true):=by
 have ht:trav A (d+1) at_=lw (trav A d) K1 P1++trav A d k++rwv (trav A d) P2 K2:=zcw hn h1 h2 rfl;rw [ht] at hs;exact ⟨ht,hs.left.right,zhm K1 P1 hs.left.left hb,zok P2 K2 hs.right ha⟩
theorem zrb (key:ByteArray):∀ (d g:Nat) (A:Arr) (at_:Nat),d+1<=g->nWf A d (ndA A at_)->Sorted (trav A d at_)->getA g A at_ key=getT (trav A d at_) key
 | d,0,_,_,h,_,_=>by omega
 | d,g+1,A,at_,h,hw,hs=>by
   unfold getA
   cases hh:hitOf (ndA A at_).pairs key with
   | true =>
     simp only [if_true];obtain ⟨m,hm⟩:=hit_at hh;rw [hm];unfold trav at hs ⊢
     have hnd:ndA A at_=⟨(ndA A at_).pairs,(ndA A at_).kids⟩:=rfl;rw [hnd] at hw hs ⊢
     rw [zfo d _ _ _ _ hw hm] at hs ⊢
     rw [znw _ _ _ _ fun q hq=>hs.cross q hq (key,m) (by simp)]
     rfl
   | false =>
     simp only [Bool.false_eq_true,if_false]
     cases d with
     | zero =>
       have hk:(ndA A at_).kids = []:=hw;rw [if_pos hk];have hs':Sorted (ndA A at_).pairs:=hs
       show _=getT (ndA A at_).pairs key
       rw [zmk _ hs',hh]
       rfl
     | succ d =>
       have hl:(ndA A at_).kids.length=(ndA A at_).pairs.length+1:=hw.1;rw [if_neg (fun e=>by rw [e] at hl;simp at hl)];obtain ⟨k,K1,K2,P1,P2,hn,h1,h2,_,_,hki,hb,ha⟩:=down hw hs hh;obtain ⟨ht,hsk,hlb,hra⟩:=zhg hn h1 h2 hs hb ha;have hkm:k∈(ndA A at_).kids:=(by rw [hn];simp);rw [hki,ht,znv key _ _ _ hlb hra];exact zrb key d g A k (by omega) (hw.2 k hkm).2.2.2 hsk
/-! Set. -/
def setA:Nat->Arr->List Nat->Nat->ByteArray->Int->Arr × List Nat × Bool
 | 0,A,fr,_,_,_=>(A,fr,false)
 | g+1,A,fr,at_,key,n =>
   if hitOf (ndA A at_).pairs key then (A.set at_ ⟨(ndA A at_).pairs.set (spotOf (ndA A at_).pairs key) (key,n),(ndA A at_).kids⟩,fr,false)
   else if (ndA A at_).kids = [] then (A.set at_ ⟨(ndA A at_).pairs.take (spotOf (ndA A at_).pairs key)++(key,n) :: (ndA A at_).pairs.drop (spotOf (ndA A at_).pairs key),[]⟩,fr,true)
   else if (ndA A (kidA A at_ (spotOf (ndA A at_).pairs key))).pairs.length=9 then setA g (splitA A fr at_ (spotOf (ndA A at_).pairs key)) fr.dropLast at_ key n
   else setA g A fr (kidA A at_ (spotOf (ndA A at_).pairs key)) key n
def splitSafe (A:Arr) (fr:List Nat) (at_ i:Nat):Prop :=
 at_ < A.length/\(ndA A at_).pairs.length<=9/\(ndA A at_).kids.length<=10/\i<=(ndA A at_).pairs.length/\(ndA A at_).kids[i]? = some (kidA A at_ i)/\kidA A at_ i < A.length/\kidA A at_ i≠at_/\(ndA A (kidA A at_ i)).pairs.length=9 ∧
  ((ndA A (kidA A at_ i)).kids = []\/(ndA A (kidA A at_ i)).kids.length=10)/\(∀ f∈fr,f < A.length/\f≠at_/\f≠kidA A at_ i/\ndA A f=nd0)
def zfm:Nat->Arr->List Nat->Nat->ByteArray->Prop
 | 0,_,_,_,_=>False
 | g+1,A,fr,at_,key=>at_ < A.length/\(ndA A at_).pairs.length<=9 ∧
   (hitOf (ndA A at_).pairs key=false->(ndA A at_).kids≠[] →
     (ndA A at_).kids[spotOf (ndA A at_).pairs key]? = some (kidA A at_ (spotOf (ndA A at_).pairs key))/\kidA A at_ (spotOf (ndA A at_).pairs key) < A.length/\(ndA A at_).kids.length<=10 ∧
     ((ndA A (kidA A at_ (spotOf (ndA A at_).pairs key))).pairs.length=9->splitSafe A fr at_ (spotOf (ndA A at_).pairs key)/\zfm g (splitA A fr at_ (spotOf (ndA A at_).pairs key)) fr.dropLast at_ key) ∧
     ((ndA A (kidA A at_ (spotOf (ndA A at_).pairs key))).pairs.length≠9->zfm g A fr (kidA A at_ (spotOf (ndA A at_).pairs key)) key))
structure SetOk (g:Nat) (A:Arr) (fr:List Nat) (d at_:Nat) (key:ByteArray) (n:Int):Prop where
 step:Step A fr (setA g A fr at_ key n).1 (setA g A fr at_ key n).2.1 d at_
 trav:trav (setA g A fr at_ key n).1 d at_=insT (trav A d at_) key n
 lo:(ndA A at_).pairs.length<=(ndA (setA g A fr at_ key n).1 at_).pairs.length
 hi:(ndA (setA g A fr at_ key n).1 at_).pairs.length<=9
 new:(setA g A fr at_ key n).2.2 = !(getT (Go.Proofs.Ythljnnjpmdgkoaa.trav A d at_) key).2
 safe:zfm g A fr at_ key
theorem ziw {A:Arr} {fr:List Nat} {d at_:Nat} (h:Pt A fr d at_) (Q:Pairs) (hQ:d=0\/Q.length=(ndA A at_).pairs.length):Step A fr (A.set at_ ⟨Q,(ndA A at_).kids⟩) fr d at_/\trav (A.set at_ ⟨Q,(ndA A at_).kids⟩) d at_=ntrav A d ⟨Q,(ndA A at_).kids⟩:=by
 have hn:ndA (A.set at_ ⟨Q,(ndA A at_).kids⟩) at_=⟨Q,(ndA A at_).kids⟩:=zba _ h.lt;have hone:=h.one;unfold own at hone;have ho:∀ j,j≠at_->ndA (A.set at_ ⟨Q,(ndA A at_).kids⟩) j=ndA A j:=fun j hj=>zbb _ (Ne.symm hj)
 have hself:∀ j∈nidx A d (ndA A at_),j≠at_:=by
  rintro j hj rfl;have h1:=hone j;have h2:0 < (nidx A d (ndA A j)).count j:=List.count_pos_iff.2 hj;simp only [List.count_cons,beq_self_eq_true,if_true] at h1;omega
 have hnd:ndA A at_=⟨(ndA A at_).pairs,(ndA A at_).kids⟩:=rfl;have hix:nidx A d ⟨Q,(ndA A at_).kids⟩=nidx A d (ndA A at_):=zoo d _ _ _;have hag:∀ j∈nidx A d ⟨Q,(ndA A at_).kids⟩,ndA (A.set at_ ⟨Q,(ndA A at_).kids⟩) j=ndA A j:=fun j hj=>ho j (hself j (by rw [<-hix];exact hj));obtain ⟨t1,t2⟩:=zck d _ hag;have hown:own (A.set at_ ⟨Q,(ndA A at_).kids⟩) d at_=own A d at_:=by unfold own;rw [hn,t2,hix]
 have hw:nWf A d ⟨Q,(ndA A at_).kids⟩:=by
  rcases hQ with rfl | hQ
  · exact h.wf
  exact ztj d _ Q _ h.wf hQ
 have hal:=h.lt;refine ⟨⟨⟨by simp [h.lt],by rw [hn];exact zdu (by simp) d _ hag hw,fun x=>by rw [hown];exact h.one x,fun f hf=>?_⟩,by simp,fun j _ h1 _=>ho j fun e=>h1 (by rw [e];unfold own;simp),fun j _=>by rw [hown];omega,by rw [hown];simp⟩,by unfold trav;rw [hn,t1]⟩;have h1:=hone f;have h2:0 < fr.count f:=List.count_pos_iff.2 hf;rw [ho f fun e=>by simp only [List.count_cons,e,beq_self_eq_true,if_true] at h1 h2;omega];exact ⟨by simp;exact (h.free f hf).1,(h.free f hf).2⟩
theorem zng {g:Nat} {A:Arr} {fr:List Nat} {d at_:Nat} (h:Pt A fr d at_) (key:ByteArray) (n:Int) (hs:Sorted (trav A d at_)) (h9:(ndA A at_).pairs.length<=9) (hh:hitOf (ndA A at_).pairs key=true):SetOk (g+1) A fr d at_ key n:=by
 obtain ⟨m,hm⟩:=hit_at hh;have hset:setA (g+1) A fr at_ key n=(A.set at_ ⟨(ndA A at_).pairs.set (spotOf (ndA A at_).pairs key) (key,n),(ndA A at_).kids⟩,fr,false):=by simp [setA,hh]
 obtain ⟨hst,htr⟩:=ziw h ((ndA A at_).pairs.set (spotOf (ndA A at_).pairs key) (key,n)) (.inr (by simp));have hwf:nWf A d ⟨(ndA A at_).pairs,(ndA A at_).kids⟩:=h.wf;have hs':Sorted (ntrav A d ⟨(ndA A at_).pairs,(ndA A at_).kids⟩):=hs;have hp:=zfo d _ _ _ _ hwf hm
 have hlt:∀ q∈ntrav A d ⟨(ndA A at_).pairs.take (spotOf (ndA A at_).pairs key),(ndA A at_).kids.take (spotOf (ndA A at_).pairs key+1)⟩,klt q.1 key=true:=by
  rw [hp] at hs';exact fun q hq=>hs'.cross q hq (key,m) (by simp)
 have htA:trav A d at_=ntrav A d ⟨(ndA A at_).pairs,(ndA A at_).kids⟩:=rfl;refine ⟨by rw [hset];exact hst,?_,?_,?_,?_,?_⟩
 · rw [hset]
   dsimp only;rw [htr,zqp d _ _ _ _ _ hwf hm,htA,hp,zsk _ _ _ _ _ hlt]
 · rw [hset];dsimp only;rw [zba _ h.lt];simp
 · rw [hset];dsimp only;rw [zba _ h.lt];simpa using h9
 · rw [hset,htA,hp,znw _ _ _ _ hlt];rfl
 exact ⟨h.lt,h9,fun e=>by rw [hh] at e;cases e⟩
theorem zqa {g:Nat} {A:Arr} {fr:List Nat} {at_:Nat} (h:Pt A fr 0 at_) (key:ByteArray) (n:Int) (hs:Sorted (trav A 0 at_)) (h8:(ndA A at_).pairs.length<=8):SetOk (g+1) A fr 0 at_ key n:=by
 cases hh:hitOf (ndA A at_).pairs key with
 | true=>exact zng h key n hs (by omega) hh
 | false =>
   have hk:(ndA A at_).kids = []:=h.wf;have hset:setA (g+1) A fr at_ key n=(A.set at_ ⟨(ndA A at_).pairs.take (spotOf (ndA A at_).pairs key)++(key,n) :: (ndA A at_).pairs.drop (spotOf (ndA A at_).pairs key),(ndA A at_).kids⟩,fr,true):=(by simp [setA,hh,hk]);obtain ⟨hst,htr⟩:=ziw h ((ndA A at_).pairs.take (spotOf (ndA A at_).pairs key)++(key,n) :: (ndA A at_).pairs.drop (spotOf (ndA A at_).pairs key)) (.inl rfl);have hs':Sorted (ndA A at_).pairs:=hs;have hsl:=zbm (ndA A at_).pairs key;refine ⟨by rw [hset];exact hst,?_,?_,?_,?_,?_⟩
   · rw [hset]
     dsimp only;rw [htr]
     show _=insT (ndA A at_).pairs key n
     rw [zqw _ hs',hh];rfl
   · rw [hset];dsimp only;rw [zba _ h.lt];simp;omega
   · rw [hset];dsimp only;rw [zba _ h.lt];simp;omega
   · rw [hset]
     show true = !(getT (ndA A at_).pairs key).2
     rw [zmk _ hs',hh];rfl
   exact ⟨h.lt,by omega,fun _ e=>absurd hk e⟩
theorem zkh {g d:Nat} {A:Arr} {fr:List Nat} {at_:Nat} (key:ByteArray) (n:Int)
 (ih:∀ (k:Nat),Pt A fr d k->(ndA A k).pairs.length<=8->Sorted (trav A d k)->SetOk g A fr d k key n)
 (h:Pt A fr (d+1) at_) (hs:Sorted (trav A (d+1) at_)) (h9:(ndA A at_).pairs.length<=9)
 (hroom:hitOf (ndA A at_).pairs key=false->(ndA A (kidA A at_ (spotOf (ndA A at_).pairs key))).pairs.length≠9):SetOk (g+1) A fr (d+1) at_ key n:=by
 cases hh:hitOf (ndA A at_).pairs key with
 | true=>exact zng h key n hs h9 hh
 | false =>
   have hl:(ndA A at_).kids.length=(ndA A at_).pairs.length+1:=h.wf.1;have hne:(ndA A at_).kids≠[]:=fun e=>by rw [e] at hl;simp at hl
   obtain ⟨k,K1,K2,P1,P2,hn,h1,h2,hsp,hkk,hki,hb,ha⟩:=down h.wf hs hh;obtain ⟨ht,hsk,hlb,hra⟩:=zhg hn h1 h2 hs hb ha;have hkm:k∈(ndA A at_).kids:=(by rw [hn];simp);have hr:=hroom hh;rw [hki] at hr;obtain ⟨hk1,hk4,hk9,_⟩:=h.wf.2 k hkm;have hK:=ih k (h.kid hkm) (by omega) hsk;have hset:setA (g+1) A fr at_ key n=setA g A fr k key n:=(by simp [setA,hh,hne,hki,hr]);obtain ⟨s1,s2,s3⟩:=Step.kid h hn h1 h2 hK.step (by have:=hK.lo;omega) hK.hi;refine ⟨by rw [hset];exact s1,?_,?_,?_,?_,?_⟩
   · rw [hset,s3,hK.trav,ht,zjp key n _ _ _ hlb hra]
   · rw [hset,s2];omega
   · rw [hset,s2];omega
   · rw [hset,hK.new,ht,znv key _ _ _ hlb hra]
   refine ⟨h.lt,h9,fun _ _=>?_⟩
   rw [hki];exact ⟨by rw [<-hsp];exact hkk,hk1,by omega,fun e=>absurd e hr,fun _=>hK.safe⟩
theorem zqs {A:Arr}:∀ (d:Nat) (nd:Nd),nWf A d nd->nd.kids = []\/nd.kids.length=nd.pairs.length+1
 | 0,_,h=>.inl h
 | _+1,_,h=>.inr h.1
theorem zlu (key:ByteArray) (n:Int):∀ (d g:Nat) (A:Arr) (fr:List Nat) (at_:Nat),2 * d+1<=g->Pt A fr d at_->(ndA A at_).pairs.length<=8->Sorted (trav A d at_)->SetOk g A fr d at_ key n
 | d,0,_,_,_,h,_,_,_=>by omega
 | 0,g+1,A,fr,at_,_,h,h8,hs=>zqa h key n hs h8
 | d+1,1,_,_,_,h,_,_,_=>by omega
 | d+1,g+2,A,fr,at_,hg,h,h8,hs=>by
   by_cases hroom:hitOf (ndA A at_).pairs key=false->(ndA A (kidA A at_ (spotOf (ndA A at_).pairs key))).pairs.length≠9
   · exact zkh key n (fun k hk hk8 hks=>zlu key n d (g+1) A fr k (by omega) hk hk8 hks) h hs (by omega) hroom
   obtain ⟨hh,hfull⟩:hitOf (ndA A at_).pairs key=false/\(ndA A (kidA A at_ (spotOf (ndA A at_).pairs key))).pairs.length=9:=by
    cases hh:hitOf (ndA A at_).pairs key with
    | true=>exact absurd (fun e=>by rw [hh] at e;cases e) hroom
    | false =>
      refine ⟨rfl,?_⟩;by_cases e:(ndA A (kidA A at_ (spotOf (ndA A at_).pairs key))).pairs.length=9
      · exact e
      exact absurd (fun _=>e) hroom
   have hl:(ndA A at_).kids.length=(ndA A at_).pairs.length+1:=h.wf.1;have hne:(ndA A at_).kids≠[]:=fun e=>by rw [e] at hl;simp at hl
   obtain ⟨k,K1,K2,P1,P2,hn,h1,h2,hsp,hkk,hki,hb,ha⟩:=down h.wf hs hh;rw [hki] at hfull;obtain ⟨mid,hmid,q1,q2,q3,q4,q5,q6,q7,q8⟩:=zne h hn h1 h2 hfull
   have hset:setA (g+2) A fr at_ key n=setA (g+1) (splitA A fr at_ P1.length) fr.dropLast at_ key n:=by
    show setA (g+1+1) A fr at_ key n=_
    simp [setA,hh,hne,hki,hfull,hsp]
   have hs1:Sorted (trav (splitA A fr at_ P1.length) (d+1) at_):=(by rw [q2];exact hs);have hkm:k∈(ndA A at_).kids:=(by rw [hn];simp);obtain ⟨hk1,hk4,hk9,hkw⟩:=h.wf.2 k hkm;have hn9:(ndA (splitA A fr at_ P1.length) at_).pairs.length=(ndA A at_).pairs.length+1:=(by rw [q3,hn];simp;omega)
   have hroom1:hitOf (ndA (splitA A fr at_ P1.length) at_).pairs key=false->(ndA (splitA A fr at_ P1.length) (kidA (splitA A fr at_ P1.length) at_ (spotOf (ndA (splitA A fr at_ P1.length) at_).pairs key))).pairs.length≠9:=by
    intro hh1;obtain ⟨k',K1',K2',P1',P2',hn',h1',h2',hsp',hkk',hki',hb',ha'⟩:=down q1.pt.wf hs1 hh1;rw [hki']
    have hcase:k'=k\/k'=takeI A fr:=by
     have hnn:=hn'.symm.trans q3;have hPP:P1'++P2'=P1++mid :: P2:=(by have:=congrArg Nd.pairs hnn;simpa using this);have hKK:K1'++k' :: K2'=K1++k :: takeI A fr :: K2:=(by have:=congrArg Nd.kids hnn;simpa using this)
     have hle:P1.length<=P1'.length:=by
      rcases Nat.lt_or_ge P1'.length P1.length with hlt | hge
      · exfalso
        have e1:(P1'++P2')[P1'.length]? = P1[P1'.length]?:=(by rw [hPP,List.getElem?_append_left hlt]);rw [List.getElem?_append_right (Nat.le_refl _),Nat.sub_self,List.getElem?_eq_getElem hlt] at e1;have m2:P1[P1'.length]∈P2':=List.mem_of_getElem? e1;have m1:P1[P1'.length]∈P1:=List.getElem_mem hlt;have h3:=ha' _ m2;rw [zcx (hb _ m1)] at h3;cases h3
      exact hge
     have hle2:P1'.length<=P1.length+1:=by
      rcases Nat.lt_or_ge (P1.length+1) P1'.length with hlt | hge
      · exfalso
        have e1:(P1'++P2')[P1.length+1]? = P2[0]?:=by
         rw [hPP,List.getElem?_append_right (by omega),show P1.length+1 - P1.length=0+1 by omega,List.getElem?_cons_succ]
        rw [List.getElem?_append_left hlt,List.getElem?_eq_getElem hlt] at e1;have m2:P1'[P1.length+1]∈P2:=List.mem_of_getElem? e1.symm;have m1:P1'[P1.length+1]∈P1':=List.getElem_mem hlt;have h3:=ha _ m2;rw [zcx (hb' _ m1)] at h3;cases h3
      exact hge
     have e2:(K1'++k' :: K2')[P1'.length]? = some k':=(by rw [List.getElem?_append_right (by omega),h1',Nat.sub_self];rfl);rw [hKK] at e2;by_cases e:P1'.length=P1.length
     · left
       rw [e,List.getElem?_append_right (by omega),h1,Nat.sub_self] at e2;simpa using e2.symm
     right
     have e':P1'.length=P1.length+1:=(by omega);rw [e',List.getElem?_append_right (by omega),h1,show P1.length+1 - P1.length=0+1 by omega] at e2;simpa using e2.symm
    rcases hcase with rfl | rfl
    · rw [q4];simp;omega
    rw [q5];simp;omega
   have hdown:=zkh (g:=g) key n (fun c hc hc8 hcs=>zlu key n d g _ _ c (by omega) hc hc8 hcs) q1.pt hs1 (by omega) hroom1;refine ⟨by rw [hset];exact q1.trans hdown.step,?_,?_,?_,?_,?_⟩
   · rw [hset,hdown.trav,q2]
   · rw [hset];have:=hdown.lo;omega
   · rw [hset];exact hdown.hi
   · rw [hset,hdown.new,q2]
   refine ⟨h.lt,by omega,fun _ _=>?_⟩
   rw [hki];refine ⟨by rw [<-hsp];exact hkk,hk1,by omega,fun _=>⟨⟨h.lt,by omega,by omega,zbm _ _,?_⟩,by rw [<-hsp];exact hdown.safe⟩,fun e=>absurd hfull e⟩;rw [hki];refine ⟨by rw [<-hsp];exact hkk,hk1,q6,hfull,?_,fun f hf=>⟨(h.free f hf).1,fun e=>?_,fun e=>?_,(h.free f hf).2⟩⟩
   · rcases zqs d _ hkw with e | e
     · exact .inl e
     exact .inr (by omega)
   · have h3:=h.one f
     have h4:0 < fr.count f:=List.count_pos_iff.2 hf;have h5:0 < (own A (d+1) at_).count f:=List.count_pos_iff.2 (by rw [e];unfold own;simp);omega
   have h3:=(h.kid hkm).one f
   have h4:0 < fr.count f:=List.count_pos_iff.2 hf;have h5:0 < (own A d k).count f:=List.count_pos_iff.2 (by rw [e];unfold own;simp);omega
end Go.Proofs.Ythljnnjpmdgkoaa
