/- Own lemmas and contracts that the claim's proof needs, laid together. The conditions stand in each. -/
import Derived.Test.YthljnnjpmdgkoaaN01
namespace Go.Proofs.Ythljnnjpmdgkoaa
open Go Go.RowKit
structure Nd where
 pairs:Pairs
 kids:List Nat
def nd0:Nd:=⟨[],[]⟩
abbrev Arr:=List Nd
def ndA (A:Arr) (i:Nat):Nd:=(A[i]?).getD nd0
theorem zba {A:Arr} {i:Nat} (x:Nd) (h:i < A.length):ndA (A.set i x) i=x:=by
 unfold ndA;rw [List.getElem?_set_self h];rfl
theorem zbb {A:Arr} {i j:Nat} (x:Nd) (h:i≠j):ndA (A.set i x) j=ndA A j:=by
 unfold ndA;rw [List.getElem?_set_ne h]
theorem zkw {A:Arr} {j:Nat} (x:Nd) (h:j < A.length):ndA (A++[x]) j=ndA A j:=by
 unfold ndA;rw [List.getElem?_append_left h]
theorem zkx (A:Arr) (x:Nd):ndA (A++[x]) A.length=x:=by
 unfold ndA;simp
def weave (f:Nat->Pairs):List Nat->Pairs->Pairs
 | k :: K,p :: P=>f k++p :: weave f K P
 | k :: _,[]=>f k
 | [],_=>[]
def lw (f:Nat->Pairs):List Nat->Pairs->Pairs
 | k :: K,p :: P=>f k++p :: lw f K P
 | _,_=>[]
def rwv (f:Nat->Pairs):Pairs->List Nat->Pairs
 | p :: P,k :: K=>p :: (f k++rwv f P K)
 | _,_=>[]
theorem zjx (f:Nat->Pairs):∀ (P:Pairs) (k:Nat) (K:List Nat),K.length=P.length->weave f (k :: K) P=f k++rwv f P K
 | [],k,[],_=>by simp [weave,rwv]
 | [],_,_ :: _,h=>by simp at h
 | _ :: _,_,[],h=>by simp at h
 | p :: P,k,k' :: K,h=>by
   have ih:=zjx f P k' K (by simpa using h);simp [weave,rwv,ih]
theorem znb (f:Nat->Pairs):∀ (K1:List Nat) (P1:Pairs) (K:List Nat) (P:Pairs),K1.length=P1.length->weave f (K1++K) (P1++P)=lw f K1 P1++weave f K P
 | [],[],K,P,_=>by simp [lw]
 | [],_ :: _,_,_,h=>by simp at h
 | _ :: _,[],_,_,h=>by simp at h
 | k :: K1,p :: P1,K,P,h=>by
   have ih:=znb f K1 P1 K P (by simpa using h);simp [weave,lw,ih]
theorem zka (f:Nat->Pairs):∀ (lp:Pairs) (lk:List Nat) (p:ByteArray × Int) (rp:Pairs) (rk:List Nat),lk.length=lp.length+1 →
 weave f (lk++rk) (lp++p :: rp)=weave f lk lp++p :: weave f rk rp
 | [],[k],p,rp,rk,_=>by simp [weave]
 | [],[],_,_,_,h=>by simp at h
 | [],_ :: _ :: _,_,_,_,h=>by simp at h
 | q :: lp,[],_,_,_,h=>by simp at h
 | q :: lp,k :: lk,p,rp,rk,h=>by
   have ih:=zka f lp lk p rp rk (by simpa using h);simp [weave,ih]
theorem zgr {f g:Nat->Pairs}:∀ (K:List Nat) (P:Pairs),(∀ k∈K,f k=g k)->weave f K P=weave g K P
 | [],_,_=>by simp [weave]
 | k :: K,[],h=>by simp [weave,h k (by simp)]
 | k :: K,p :: P,h=>by
   have ih:=zgr K P fun k hk=>h k (by simp [hk]);simp [weave,ih,h k (by simp)]
theorem zno {f g:Nat->Pairs}:∀ (K:List Nat) (P:Pairs),(∀ k∈K,f k=g k)->lw f K P=lw g K P
 | [],_,_=>by simp [lw]
 | k :: K,[],h=>by simp [lw]
 | k :: K,p :: P,h=>by
   have ih:=zno K P fun k hk=>h k (by simp [hk]);simp [lw,ih,h k (by simp)]
theorem zkk {f g:Nat->Pairs}:∀ (P:Pairs) (K:List Nat),(∀ k∈K,f k=g k)->rwv f P K=rwv g P K
 | [],_,_=>by simp [rwv]
 | p :: P,[],h=>by simp [rwv]
 | p :: P,k :: K,h=>by
   have ih:=zkk P K fun k hk=>h k (by simp [hk]);simp [rwv,ih,h k (by simp)]
theorem zbn {α β:Type} {f g:α->List β}:∀ (l:List α),(∀ x∈l,f x=g x)->l.flatMap f=l.flatMap g
 | [],_=>rfl
 | x :: l,h=>by
   rw [List.flatMap_cons,List.flatMap_cons,h x (by simp),zbn l fun y hy=>h y (by simp [hy])]
def ntrav (A:Arr):Nat->Nd->Pairs
 | 0,nd=>nd.pairs
 | d+1,nd=>weave (fun k=>ntrav A d (ndA A k)) nd.kids nd.pairs
def nidx (A:Arr):Nat->Nd->List Nat
 | 0,_=>[]
 | d+1,nd=>nd.kids.flatMap fun k=>k :: nidx A d (ndA A k)
def nWf (A:Arr):Nat->Nd->Prop
 | 0,nd=>nd.kids = []
 | d+1,nd=>nd.kids.length=nd.pairs.length+1/\∀ k∈nd.kids,k < A.length/\4<=(ndA A k).pairs.length/\(ndA A k).pairs.length<=9/\nWf A d (ndA A k)
def own (A:Arr) (d at_:Nat):List Nat:=at_ :: nidx A d (ndA A at_)
def trav (A:Arr) (d at_:Nat):Pairs:=ntrav A d (ndA A at_)
theorem zck {A A':Arr}:∀ (d:Nat) (nd:Nd),(∀ j∈nidx A d nd,ndA A' j=ndA A j)->ntrav A' d nd=ntrav A d nd/\nidx A' d nd=nidx A d nd
 | 0,_,_=>⟨rfl,rfl⟩
 | d+1,nd,h=>by
   have hk:∀ k∈nd.kids,ndA A' k=ndA A k/\ntrav A' d (ndA A k)=ntrav A d (ndA A k)/\nidx A' d (ndA A k)=nidx A d (ndA A k):=by
    intro k hk;have h1:∀ j∈k :: nidx A d (ndA A k),ndA A' j=ndA A j:=fun j hj=>h j (List.mem_flatMap.2 ⟨k,hk,hj⟩);exact ⟨h1 k (by simp),zck d _ fun j hj=>h1 j (by simp [hj])⟩
   constructor
   · exact zgr _ _ fun k hk'=>by show ntrav A' d (ndA A' k)=_;rw [(hk k hk').1,(hk k hk').2.1]
   exact zbn _ fun k hk'=>by show k :: nidx A' d (ndA A' k)=_;rw [(hk k hk').1,(hk k hk').2.2]
theorem zdu {A A':Arr} (hl:A.length<=A'.length):∀ (d:Nat) (nd:Nd),(∀ j∈nidx A d nd,ndA A' j=ndA A j)->nWf A d nd->nWf A' d nd
 | 0,_,_,h=>h
 | d+1,nd,h,hw=>by
   refine ⟨hw.1,fun k hk=>?_⟩;obtain ⟨h1,h2,h3,h4⟩:=hw.2 k hk;have h5:∀ j∈k :: nidx A d (ndA A k),ndA A' j=ndA A j:=fun j hj=>h j (List.mem_flatMap.2 ⟨k,hk,hj⟩);rw [h5 k (by simp)];exact ⟨by omega,h2,h3,zdu hl d _ (fun j hj=>h5 j (by simp [hj])) h4⟩
theorem zma {A:Arr}:∀ (d:Nat) (nd:Nd),nWf A d nd->∀ j∈nidx A d nd,j < A.length
 | 0,_,_,j,hj=>by simp [nidx] at hj
 | d+1,nd,h,j,hj=>by
   obtain ⟨k,hk,hj⟩:=List.mem_flatMap.1 hj;obtain ⟨h1,_,_,h4⟩:=h.2 k hk;rcases List.mem_cons.1 hj with rfl | hj
   · exact h1
   exact zma d _ h4 j hj
theorem zku {A:Arr}:∀ (d:Nat) (lp:Pairs) (lk:List Nat) (p:ByteArray × Int) (rp:Pairs) (rk:List Nat),nWf A d ⟨lp,lk⟩->ntrav A d ⟨lp++p :: rp,lk++rk⟩=ntrav A d ⟨lp,lk⟩++p :: ntrav A d ⟨rp,rk⟩
 | 0,_,_,_,_,_,_=>rfl
 | _+1,lp,lk,p,rp,rk,h=>zka _ lp lk p rp rk h.1
theorem zse {A:Arr}:∀ (d:Nat) (lp:Pairs) (lk:List Nat) (P:Pairs) (rp:Pairs) (rk:List Nat),nidx A d ⟨P,lk++rk⟩=nidx A d ⟨lp,lk⟩++nidx A d ⟨rp,rk⟩
 | 0,_,_,_,_,_=>rfl
 | d+1,lp,lk,P,rp,rk=>by simp [nidx]
theorem zhj {A:Arr}:∀ (d:Nat) (P:Pairs) (K:List Nat) (i:Nat),nWf A d ⟨P,K⟩->i < P.length->nWf A d ⟨P.take i,K.take (i+1)⟩/\nWf A d ⟨P.drop (i+1),K.drop (i+1)⟩
 | 0,P,K,i,h,_=>by simp only [nWf] at *;simp [h]
 | d+1,P,K,i,h,hi=>by
   have h1:K.length=P.length+1:=h.1;refine ⟨⟨by simp;omega,fun k hk=>h.2 k (List.mem_of_mem_take hk)⟩,⟨by simp;omega,fun k hk=>h.2 k (List.mem_of_mem_drop hk)⟩⟩
theorem zfo {A:Arr} (d:Nat) (P:Pairs) (K:List Nat) (i:Nat) (p:ByteArray × Int) (h:nWf A d ⟨P,K⟩) (hp:P[i]? = some p) :
 ntrav A d ⟨P,K⟩=ntrav A d ⟨P.take i,K.take (i+1)⟩++p :: ntrav A d ⟨P.drop (i+1),K.drop (i+1)⟩:=by
 have hi:=(List.getElem?_eq_some_iff.1 hp).1
 have hd:P.drop i=p :: P.drop (i+1):=by
  rw [List.drop_eq_getElem_cons hi,(List.getElem?_eq_some_iff.1 hp).2]
 rw [<-zku d _ _ p _ _ (zhj d P K i h hi).1,<-hd,List.take_append_drop,List.take_append_drop]
theorem zqp {A:Arr} (d:Nat) (P:Pairs) (K:List Nat) (i:Nat) (p q:ByteArray × Int) (h:nWf A d ⟨P,K⟩) (hp:P[i]? = some p) :
 ntrav A d ⟨P.set i q,K⟩=ntrav A d ⟨P.take i,K.take (i+1)⟩++q :: ntrav A d ⟨P.drop (i+1),K.drop (i+1)⟩:=by
 have hi:=(List.getElem?_eq_some_iff.1 hp).1;have hd:P.set i q=P.take i++q :: P.drop (i+1):=by rw [List.set_eq_take_append_cons_drop,if_pos hi]
 have:=zku (A:=A) d (P.take i) (K.take (i+1)) q (P.drop (i+1)) (K.drop (i+1)) (zhj d P K i h hi).1;rw [List.take_append_drop] at this;rw [hd,this]
theorem ztj {A:Arr}:∀ (d:Nat) (P Q:Pairs) (K:List Nat),nWf A d ⟨P,K⟩->Q.length=P.length->nWf A d ⟨Q,K⟩
 | 0,_,_,_,h,_=>h
 | d+1,P,Q,K,h,e=>⟨by have h1:K.length=P.length+1:=h.1;show K.length=Q.length+1;omega,h.2⟩
theorem zoo {A:Arr} (d:Nat) (P Q:Pairs) (K:List Nat):nidx A d ⟨P,K⟩=nidx A d ⟨Q,K⟩:=by cases d <;> rfl
structure Pt (A:Arr) (fr:List Nat) (d at_:Nat):Prop where
 lt:at_ < A.length
 wf:nWf A d (ndA A at_)
 one:∀ x,(own A d at_).count x+fr.count x<=1
 free:∀ f∈fr,f < A.length/\ndA A f=nd0
structure Step (A:Arr) (fr:List Nat) (A':Arr) (fr':List Nat) (d at_:Nat):Prop where
 pt:Pt A' fr' d at_
 len:A.length<=A'.length
 chg:∀ j,j < A.length->j ∉ own A d at_->j ∉ fr->ndA A' j=ndA A j
 new:∀ j,j < A.length->(own A' d at_).count j+fr'.count j<=(own A d at_).count j+fr.count j
 cover:(own A' d at_).length+fr'.length+A.length=(own A d at_).length+fr.length+A'.length
theorem own_lt {A:Arr} {fr:List Nat} {d at_:Nat} (h:Pt A fr d at_):∀ j∈own A d at_,j < A.length:=by
 intro j hj;rcases List.mem_cons.1 hj with rfl | hj
 · exact h.lt
 exact zma d _ h.wf j hj
theorem Step.trans {A A1 A2:Arr} {fr fr1 fr2:List Nat} {d at_:Nat} (h:Step A fr A1 fr1 d at_) (k:Step A1 fr1 A2 fr2 d at_):Step A fr A2 fr2 d at_ where
 pt:=k.pt
 len:=Nat.le_trans h.len k.len
 chg j hj h1 h2:=by
  have hn:=h.new j hj;rw [List.count_eq_zero.2 h1,List.count_eq_zero.2 h2] at hn;have h3:j ∉ own A1 d at_:=(by rw [<-List.count_eq_zero];omega);have h4:j ∉ fr1:=(by rw [<-List.count_eq_zero];omega);rw [k.chg j (Nat.lt_of_lt_of_le hj h.len) h3 h4,h.chg j hj h1 h2]
 new j hj:=Nat.le_trans (k.new j (Nat.lt_of_lt_of_le hj h.len)) (h.new j hj)
 cover:=by have:=h.cover;have:=k.cover;omega
/-! A node's kids. -/
theorem zjy (f:Nat->Pairs):∀ (Pm:Pairs) (Km:List Nat) (P2:Pairs) (K2:List Nat),Km.length=Pm.length+1->K2.length=P2.length->weave f (Km++K2) (Pm++P2)=weave f Km Pm++rwv f P2 K2
 | [],[k],P2,K2,_,h=>by simpa [weave] using zjx f P2 k K2 h
 | [],[],_,_,h,_=>by simp at h
 | [],_ :: _ :: _,_,_,h,_=>by simp at h
 | p :: Pm,[],_,_,h,_=>by simp at h
 | p :: Pm,k :: Km,P2,K2,h,h'=>by
   have ih:=zjy f Pm Km P2 K2 (by simpa using h) h';simp [weave,ih]
theorem zds {A:Arr} {d at_:Nat} {P:Pairs} {K1 Km K2:List Nat} (h:ndA A at_=⟨P,K1++Km++K2⟩):own A (d+1) at_=at_ :: (K1.flatMap (own A d)++Km.flatMap (own A d)++K2.flatMap (own A d)):=by
 unfold own;rw [h];simp only [nidx,List.flatMap_append]
theorem zcw {A:Arr} {d at_:Nat} {P1 Pm P2:Pairs} {K1 Km K2:List Nat} (h:ndA A at_=⟨P1++Pm++P2,K1++Km++K2⟩) (h1:K1.length=P1.length) (h2:K2.length=P2.length) (hm:Km.length=Pm.length+1) :
 trav A (d+1) at_=lw (trav A d) K1 P1++weave (trav A d) Km Pm++rwv (trav A d) P2 K2:=by
 unfold trav;rw [h]
 show weave _ (K1++Km++K2) (P1++Pm++P2)=_
 rw [List.append_assoc,List.append_assoc,znb _ K1 P1 _ _ h1,zjy _ Pm Km P2 K2 hm h2,List.append_assoc]
theorem zkp {A A':Arr} {d c:Nat} (hl:A.length<=A'.length) (h:∀ j∈own A d c,ndA A' j=ndA A j):ndA A' c=ndA A c/\own A' d c=own A d c/\trav A' d c=trav A d c/\(nWf A d (ndA A c)->nWf A' d (ndA A' c)):=by
 have hc:=h c (by unfold own;simp);have hn:∀ j∈nidx A d (ndA A c),ndA A' j=ndA A j:=fun j hj=>h j (by unfold own;simp [hj]);obtain ⟨a1,a2⟩:=zck d (ndA A c) hn;exact ⟨hc,by unfold own;rw [hc,a2],by unfold trav;rw [hc,a1],fun hw=>by rw [hc];exact zdu hl d _ hn hw⟩
theorem Pt.kid {A:Arr} {fr:List Nat} {d at_ k:Nat} (h:Pt A fr (d+1) at_) (hk:k∈(ndA A at_).kids):Pt A fr d k:=by
 obtain ⟨K1,K2,e⟩:=List.append_of_mem hk;have hn:ndA A at_=⟨(ndA A at_).pairs,K1++[k]++K2⟩:=by rw [List.append_assoc,List.singleton_append,<-e]
 obtain ⟨h1,_,_,h4⟩:=h.wf.2 k hk;refine ⟨h1,h4,fun x=>?_,h.free⟩;have:=h.one x;rw [zds hn] at this;simp only [List.count_cons,List.count_append,List.flatMap_cons,List.flatMap_nil,List.append_nil] at this;omega
theorem Step.node {A A':Arr} {fr fr':List Nat} {d at_:Nat} {P1 Pm P2 Pm':Pairs} {K1 Km K2 Km':List Nat} (h:Pt A fr (d+1) at_) (hn:ndA A at_=⟨P1++Pm++P2,K1++Km++K2⟩) (h1:K1.length=P1.length) (h2:K2.length=P2.length)
 (hn':ndA A' at_=⟨P1++Pm'++P2,K1++Km'++K2⟩) (hm':Km'.length=Pm'.length+1) (hl:A.length<=A'.length)
 (chg:∀ j,j < A.length->j≠at_->j ∉ Km.flatMap (own A d)->j ∉ fr->ndA A' j=ndA A j)
 (hk:∀ k∈Km',k < A'.length/\4<=(ndA A' k).pairs.length/\(ndA A' k).pairs.length<=9/\nWf A' d (ndA A' k))
 (hfree:∀ f∈fr',f < A'.length/\ndA A' f=nd0)
 (hold:∀ x,x < A.length->(Km'.flatMap (own A' d)).count x+fr'.count x<=(Km.flatMap (own A d)).count x+fr.count x)
 (hnew:∀ x,A.length<=x->(Km'.flatMap (own A' d)).count x+fr'.count x<=1)
 (hcov:(Km'.flatMap (own A' d)).length+fr'.length+A.length=(Km.flatMap (own A d)).length+fr.length+A'.length) :
 Step A fr A' fr' (d+1) at_/\trav A' (d+1) at_=lw (trav A d) K1 P1++weave (trav A' d) Km' Pm'++rwv (trav A d) P2 K2:=by
 have hown:=zds (d:=d) hn
 have hone:∀ x,(if at_=x then 1 else 0)+(K1.flatMap (own A d)).count x+(Km.flatMap (own A d)).count x+(K2.flatMap (own A d)).count x+fr.count x<=1:=by
  intro x;have:=h.one x;rw [hown] at this;simp only [List.count_cons,List.count_append,beq_iff_eq] at this;omega
 have hlt:=own_lt h;rw [hown] at hlt
 have hside:∀ c,c∈K1\/c∈K2->ndA A' c=ndA A c/\own A' d c=own A d c/\trav A' d c=trav A d c/\(nWf A d (ndA A c)->nWf A' d (ndA A' c)):=by
  intro c hc;refine zkp hl fun j hj=>?_
  have hj2:j < A.length:=hlt j (by
   rcases hc with hc | hc
   · simp only [List.mem_cons,List.mem_append,List.mem_flatMap];exact .inr (.inl (.inl ⟨c,hc,hj⟩))
   simp only [List.mem_cons,List.mem_append,List.mem_flatMap];exact .inr (.inr ⟨c,hc,hj⟩))
  have hj3:0 < (K1.flatMap (own A d)).count j\/0 < (K2.flatMap (own A d)).count j:=by
   rcases hc with hc | hc
   · exact .inl (List.count_pos_iff.2 (List.mem_flatMap.2 ⟨c,hc,hj⟩))
   exact .inr (List.count_pos_iff.2 (List.mem_flatMap.2 ⟨c,hc,hj⟩))
  have:=hone j;refine chg j hj2 (fun e=>?_) (List.count_eq_zero.1 (by omega)) (List.count_eq_zero.1 (by omega));rw [if_pos e.symm] at this;omega
 have hown':=zds (d:=d) hn';rw [zbn K1 fun c hc=>(hside c (.inl hc)).2.1,zbn K2 fun c hc=>(hside c (.inr hc)).2.1] at hown';refine ⟨⟨⟨Nat.lt_of_lt_of_le h.lt hl,?_,fun x=>?_,hfree⟩,hl,fun j hj h3 h4=>?_,fun j hj=>?_,?_⟩,?_⟩
 · rw [hn']
   refine ⟨by simp only [List.length_append];omega,fun c hc=>?_⟩
   have hside':∀ c,c∈K1\/c∈K2->c < A'.length/\4<=(ndA A' c).pairs.length/\(ndA A' c).pairs.length<=9/\nWf A' d (ndA A' c):=by
    intro c hc;obtain ⟨b1,_,_,b4⟩:=hside c hc
    have hck:c∈(ndA A at_).kids:=by
     rw [hn];rcases hc with hc | hc <;> simp [hc]
    obtain ⟨hw1,hw2,hw3,hw4⟩:=h.wf.2 c hck;exact ⟨by omega,by rw [b1];exact hw2,by rw [b1];exact hw3,b4 hw4⟩
   rcases List.mem_append.1 hc with hc | hc
   · rcases List.mem_append.1 hc with hc | hc
     · exact hside' c (.inl hc)
     exact hk c hc
   exact hside' c (.inr hc)
 · rw [hown']
   simp only [List.count_cons,List.count_append,beq_iff_eq];have h5:=hone x;by_cases hx:x < A.length
   · have:=hold x hx
     omega
   have:=hnew x (by omega)
   have h7:(K1.flatMap (own A d)).count x=0:=List.count_eq_zero.2 fun hm=>hx (hlt x (by simp only [List.mem_cons,List.mem_append];exact .inr (.inl (.inl hm))));have h8:(K2.flatMap (own A d)).count x=0:=List.count_eq_zero.2 fun hm=>hx (hlt x (by simp only [List.mem_cons,List.mem_append];exact .inr (.inr hm)));have h9:¬ at_=x:=fun e=>hx (e ▸ h.lt);rw [if_neg h9];omega
 · rw [hown] at h3
   simp only [List.mem_cons,List.mem_append,not_or] at h3;exact chg j hj h3.1 h3.2.1.2 h4
 · rw [hown',hown]
   simp only [List.count_cons,List.count_append];have:=hold j hj;omega
 · rw [hown',hown]
   simp only [List.length_cons,List.length_append];omega
 rw [zcw hn' h1 h2 hm',zno K1 P1 fun c hc=>(hside c (.inl hc)).2.2.1,zkk P2 K2 fun c hc=>(hside c (.inr hc)).2.2.1]
theorem Step.kid {A A':Arr} {fr fr':List Nat} {d at_ k:Nat} {P1 P2:Pairs} {K1 K2:List Nat} (h:Pt A fr (d+1) at_) (hn:ndA A at_=⟨P1++[]++P2,K1++[k]++K2⟩) (h1:K1.length=P1.length) (h2:K2.length=P2.length)
 (hs:Step A fr A' fr' d k) (h4:4<=(ndA A' k).pairs.length) (h9:(ndA A' k).pairs.length<=9) :
 Step A fr A' fr' (d+1) at_/\ndA A' at_=ndA A at_/\trav A' (d+1) at_=lw (trav A d) K1 P1++trav A' d k++rwv (trav A d) P2 K2:=by
 have hone:=h.one at_;rw [zds hn] at hone;simp only [List.count_cons,List.count_append,List.flatMap_cons,List.flatMap_nil,List.append_nil,beq_self_eq_true,if_true] at hone;have hat:ndA A' at_=ndA A at_:=hs.chg at_ h.lt (List.count_eq_zero.1 (by omega)) (List.count_eq_zero.1 (by omega))
 have:=Step.node (A':=A') (fr':=fr') (Km':=[k]) (Pm':=[]) h hn h1 h2 (hat.trans hn) rfl hs.len (fun j hj _ h3 h4=>hs.chg j hj (by simpa using h3) h4)
  (fun c hc=>by rw [List.mem_singleton.1 hc];exact ⟨hs.pt.lt,h4,h9,hs.pt.wf⟩) hs.pt.free (fun x hx=>by simpa using hs.new x hx) (fun x _=>by simpa using hs.pt.one x) (by simpa using hs.cover)
 exact ⟨this.1,hat,by rw [this.2];rfl⟩
def takeI (A:Arr) (fr:List Nat):Nat:=(fr.getLast?).getD A.length
def takeA (A:Arr) (fr:List Nat):Arr:=if fr = [] then A++[nd0] else A
structure Took (A:Arr) (fr:List Nat):Prop where
 lt:takeI A fr < (takeA A fr).length
 new:ndA (takeA A fr) (takeI A fr)=nd0
 old:∀ j,j < A.length->ndA (takeA A fr) j=ndA A j
 len:A.length<=(takeA A fr).length
 cnt:∀ x,x < A.length->(if takeI A fr=x then 1 else 0)+fr.dropLast.count x=fr.count x
 far:A.length<=takeI A fr->takeI A fr=A.length/\fr = []
 cover:fr.dropLast.length+1+A.length=fr.length+(takeA A fr).length
theorem took {A:Arr} {fr:List Nat} (hf:∀ f∈fr,f < A.length/\ndA A f=nd0):Took A fr:=by
 by_cases h:fr = []
 · subst h
   refine ⟨by simp [takeI,takeA],?_,fun j hj=>?_,by simp [takeA],fun x hx=>?_,fun _=>⟨rfl,rfl⟩,by simp [takeA];omega⟩
   · show ndA (A++[nd0]) A.length=_
     exact zkx A nd0
   · show ndA (A++[nd0]) j=_
     exact zkw nd0 hj
   show (if A.length=x then 1 else 0)+_=_
   rw [if_neg (by omega)];rfl
 have e1:takeI A fr=fr.getLast h:=by unfold takeI;rw [List.getLast?_eq_some_getLast h];rfl
 have e2:takeA A fr=A:=(by unfold takeA;rw [if_neg h]);have hm:=hf _ (List.getLast_mem h);have hd:=List.dropLast_concat_getLast h;refine ⟨by rw [e1,e2];exact hm.1,by rw [e1,e2];exact hm.2,fun j _=>by rw [e2],by rw [e2];omega,fun x _=>?_,fun hx=>by rw [e1] at hx;omega,?_⟩
 · rw [e1]
   conv=>rhs;rw [<-hd]
   rw [List.count_append,List.count_singleton];simp only [beq_iff_eq];omega
 rw [e2]
 have:=congrArg List.length hd;simp at this;have h0:0 < fr.length:=List.length_pos_iff.2 h;simp;omega
def kidA (A:Arr) (at_ i:Nat):Nat:=(ndA A at_).kids.getD i 0
def splitA (A:Arr) (fr:List Nat) (at_ i:Nat):Arr :=
 (((takeA A fr).set (takeI A fr) ⟨(ndA A (kidA A at_ i)).pairs.drop 5,(ndA A (kidA A at_ i)).kids.drop 5⟩).set (kidA A at_ i) ⟨(ndA A (kidA A at_ i)).pairs.take 4,(ndA A (kidA A at_ i)).kids.take 5⟩).set at_
   ⟨(ndA A at_).pairs.take i++(ndA A (kidA A at_ i)).pairs.getD 4 default :: (ndA A at_).pairs.drop i,(ndA A at_).kids.take (i+1)++takeI A fr :: (ndA A at_).kids.drop (i+1)⟩
theorem zmq {β:Type} [BEq β] [LawfulBEq β] (f:Nat->List β) (k:Nat) (x:β):([k].flatMap f).count x=(f k).count x:=by simp
theorem zne {A:Arr} {fr:List Nat} {d at_ kid:Nat} {P1 P2:Pairs} {K1 K2:List Nat} (h:Pt A fr (d+1) at_) (hn:ndA A at_=⟨P1++[]++P2,K1++[kid]++K2⟩) (h1:K1.length=P1.length) (h2:K2.length=P2.length)
 (h9:(ndA A kid).pairs.length=9):∃ mid,(ndA A kid).pairs[4]? = some mid/\Step A fr (splitA A fr at_ P1.length) fr.dropLast (d+1) at_/\trav (splitA A fr at_ P1.length) (d+1) at_=trav A (d+1) at_ ∧
   ndA (splitA A fr at_ P1.length) at_=⟨P1++[mid]++P2,K1++[kid,takeI A fr]++K2⟩ ∧
   ndA (splitA A fr at_ P1.length) kid=⟨(ndA A kid).pairs.take 4,(ndA A kid).kids.take 5⟩/\ndA (splitA A fr at_ P1.length) (takeI A fr)=⟨(ndA A kid).pairs.drop 5,(ndA A kid).kids.drop 5⟩ ∧
   kid≠at_/\takeI A fr≠at_/\takeI A fr≠kid:=by
 obtain ⟨mid,hmid⟩:∃ mid,(ndA A kid).pairs[4]? = some mid:=⟨_,List.getElem?_eq_getElem (by omega)⟩;have ht:=took h.free;have hkm:kid∈(ndA A at_).kids:=by rw [hn];simp
 have hK:=h.kid hkm;have hown:=zds (d:=d) hn
 have hone:∀ x,(if at_=x then 1 else 0)+(K1.flatMap (own A d)).count x+((if kid=x then 1 else 0)+(nidx A d (ndA A kid)).count x)+(K2.flatMap (own A d)).count x+fr.count x<=1:=by
  intro x;have:=h.one x;rw [hown] at this;simp only [List.count_cons,List.count_append,zmq,beq_iff_eq] at this;have e:(own A d kid).count x=(if kid=x then 1 else 0)+(nidx A d (ndA A kid)).count x:=(by unfold own;rw [List.count_cons];simp only [beq_iff_eq];omega);rw [e] at this;omega
 have hka:kid≠at_:=by
  intro e;have:=hone kid;rw [if_pos e.symm,if_pos rfl] at this;omega
 have hra:takeI A fr≠at_:=by
  intro e;have h3:=ht.cnt at_ h.lt;have h4:=hone at_;rw [if_pos e] at h3;rw [if_pos rfl] at h4;omega
 have hrk:takeI A fr≠kid:=by
  intro e;have h3:=ht.cnt kid hK.lt;have h4:=hone kid;rw [if_pos e] at h3;rw [if_pos rfl] at h4;omega
 have hkid:kidA A at_ P1.length=kid:=by unfold kidA;rw [hn,<-h1];simp
 have hsp:splitA A fr at_ P1.length=(((takeA A fr).set (takeI A fr) ⟨(ndA A kid).pairs.drop 5,(ndA A kid).kids.drop 5⟩).set kid ⟨(ndA A kid).pairs.take 4,(ndA A kid).kids.take 5⟩).set at_ ⟨P1++[mid]++P2,K1++[kid,takeI A fr]++K2⟩:=by
  unfold splitA;rw [hkid,hn]
  congr 2
  · simp [List.getD,hmid]
  have e:K1++[kid]++K2=(K1++[kid])++K2:=rfl
  rw [List.take_append_of_le_length (by simp;omega),List.drop_append_of_le_length (by simp;omega),List.take_of_length_le (by simp;omega),List.drop_of_length_le (by simp;omega)];simp
 have htl:=ht.lt;have htn:=ht.len;have hkl:=hK.lt;have hal:=h.lt;have n1:ndA (splitA A fr at_ P1.length) at_=⟨P1++[mid]++P2,K1++[kid,takeI A fr]++K2⟩:=by rw [hsp];exact zba _ (by simp;omega)
 have n2:ndA (splitA A fr at_ P1.length) kid=⟨(ndA A kid).pairs.take 4,(ndA A kid).kids.take 5⟩:=by
  rw [hsp,zbb _ hka.symm];exact zba _ (by simp;omega)
 have n3:ndA (splitA A fr at_ P1.length) (takeI A fr)=⟨(ndA A kid).pairs.drop 5,(ndA A kid).kids.drop 5⟩:=by
  rw [hsp,zbb _ hra.symm,zbb _ hrk.symm];exact zba _ htl
 have n4:∀ j,j < A.length->j≠at_->j≠kid->j≠takeI A fr->ndA (splitA A fr at_ P1.length) j=ndA A j:=by
  intro j hj a b c;rw [hsp,zbb _ (Ne.symm a),zbb _ (Ne.symm b),zbb _ (Ne.symm c),ht.old j hj]
 have nl:(splitA A fr at_ P1.length).length=(takeA A fr).length:=by rw [hsp];simp
 generalize splitA A fr at_ P1.length=A' at *;obtain ⟨wl,wr⟩:=zhj d (ndA A kid).pairs (ndA A kid).kids 4 hK.wf (by omega);have hpart:=zfo d (ndA A kid).pairs (ndA A kid).kids 4 mid hK.wf hmid
 have hix:nidx A d (ndA A kid)=nidx A d ⟨(ndA A kid).pairs.take 4,(ndA A kid).kids.take 5⟩++nidx A d ⟨(ndA A kid).pairs.drop 5,(ndA A kid).kids.drop 5⟩:=by
  rw [<-zse d _ _ (ndA A kid).pairs,List.take_append_drop]
 have hixl:=zma d _ hK.wf
 have low:∀ j∈nidx A d (ndA A kid),ndA A' j=ndA A j:=by
  intro j hj;have h3:=hone j;have h5:=ht.cnt j (hixl j hj);have h4:0 < (nidx A d (ndA A kid)).count j:=List.count_pos_iff.2 hj;refine n4 j (hixl j hj) (fun e=>?_) (fun e=>?_) (fun e=>?_)
  · rw [if_pos e.symm] at h3;omega
  · rw [if_pos e.symm] at h3;omega
  rw [if_pos e.symm] at h5;omega
 have lowl:∀ j∈nidx A d ⟨(ndA A kid).pairs.take 4,(ndA A kid).kids.take 5⟩,ndA A' j=ndA A j:=fun j hj=>low j (by rw [hix];simp [hj]);have lowr:∀ j∈nidx A d ⟨(ndA A kid).pairs.drop 5,(ndA A kid).kids.drop 5⟩,ndA A' j=ndA A j:=fun j hj=>low j (by rw [hix];simp [hj]);obtain ⟨tl1,tl2⟩:=zck d _ lowl;obtain ⟨tr1,tr2⟩:=zck d _ lowr;have ok:own A' d kid=kid :: nidx A d ⟨(ndA A kid).pairs.take 4,(ndA A kid).kids.take 5⟩:=by unfold own;rw [n2,tl2]
 have orr:own A' d (takeI A fr)=takeI A fr :: nidx A d ⟨(ndA A kid).pairs.drop 5,(ndA A kid).kids.drop 5⟩:=by unfold own;rw [n3,tr2]
 have okid:own A d kid=kid :: (nidx A d ⟨(ndA A kid).pairs.take 4,(ndA A kid).kids.take 5⟩++nidx A d ⟨(ndA A kid).pairs.drop 5,(ndA A kid).kids.drop 5⟩):=by unfold own;rw [hix]
 have hS:=Step.node (A':=A') (fr':=fr.dropLast) (Pm':=[mid]) (Km':=[kid,takeI A fr]) h hn h1 h2 n1 rfl (by omega) (fun j hj a b c=>?chg) ?hk ?hfree (fun x hx=>?hold) (fun x hx=>?hnew) ?hcov
 case chg =>
  have b':j ∉ own A d kid:=(by simpa using b);refine n4 j hj a (fun e=>b' (by rw [e,okid];simp)) (fun e=>?_);have h5:=ht.cnt j hj;rw [if_pos e.symm,List.count_eq_zero.2 c] at h5;omega
 case hk =>
  intro c hc;have hc':c=kid\/c=takeI A fr:=(by simpa using hc);rcases hc' with rfl | rfl
  · rw [n2]
    exact ⟨by omega,by simp;omega,by simp;omega,zdu (by omega) d _ lowl wl⟩
  rw [n3]
  exact ⟨by omega,by simp;omega,by simp;omega,zdu (by omega) d _ lowr wr⟩
 case hfree =>
  intro f hf;have hm:f∈fr:=List.dropLast_subset _ hf;obtain ⟨hfl,hfn⟩:=h.free f hm;have h3:=hone f;have h4:0 < fr.count f:=List.count_pos_iff.2 hm;have h5:=ht.cnt f hfl;have h6:0 < fr.dropLast.count f:=List.count_pos_iff.2 hf;refine ⟨by omega,?_⟩;rw [n4 f hfl (fun e=>by rw [if_pos e.symm] at h3;omega) (fun e=>by rw [if_pos e.symm] at h3;omega) (fun e=>by rw [if_pos e.symm] at h5;omega)];exact hfn
 case hold =>
  have h5:=ht.cnt x hx;simp only [List.flatMap_cons,List.flatMap_nil,List.append_nil,List.count_append,ok,orr,okid,List.count_cons,beq_iff_eq];omega
 case hnew =>
  have e1:(nidx A d ⟨(ndA A kid).pairs.take 4,(ndA A kid).kids.take 5⟩).count x=0:=List.count_eq_zero.2 fun hm=>by have:=hixl x (by rw [hix];simp [hm]);omega
  have e2:(nidx A d ⟨(ndA A kid).pairs.drop 5,(ndA A kid).kids.drop 5⟩).count x=0:=List.count_eq_zero.2 fun hm=>by have:=hixl x (by rw [hix];simp [hm]);omega
  have e3:fr.dropLast.count x=0:=List.count_eq_zero.2 fun hm=>by have:=(h.free x (List.dropLast_subset _ hm)).1;omega
  have e4:¬ kid=x:=(by omega);simp only [List.flatMap_cons,List.flatMap_nil,List.append_nil,List.count_append,ok,orr,List.count_cons,beq_iff_eq,e1,e2,e3,if_neg e4]
  split <;> omega
 case hcov =>
  have h5:=ht.cover;simp only [List.flatMap_cons,List.flatMap_nil,List.append_nil,List.length_append,ok,orr,okid,List.length_cons];omega
 refine ⟨mid,hmid,hS.1,?_,n1,n2,n3,hka,hra,hrk⟩;rw [hS.2,zcw hn h1 h2 rfl]
 congr 2
 simp only [weave];unfold trav;rw [n2,n3,tl1,tr1];exact hpart.symm
end Go.Proofs.Ythljnnjpmdgkoaa