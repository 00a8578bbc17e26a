/- The package index in plain terms: the whole tree (GoodT): New, Set, Delete, Get, and the order of a walk. No program is run. -/
import Derived.Test.YthljnnjpmdgkoaaN03
namespace Go.Proofs.Ythljnnjpmdgkoaa
open Go Go.RowKit
structure GoodD (A:Arr) (fr:List Nat) (root D:Nat) (T:Pairs):Prop where
 pt:Pt A fr D root
 hi:(ndA A root).pairs.length<=9
 lo:D=0\/1<=(ndA A root).pairs.length
 trav:trav A D root=T
 sorted:Sorted T
 cover:(own A D root).length+fr.length=A.length
def GoodT (A:Arr) (fr:List Nat) (root:Nat) (T:Pairs):Prop:=∃ D,GoodD A fr root D T
theorem zjz (f:Nat->Pairs) (g:Nat->Nat):∀ (K:List Nat) (P:Pairs),K.length=P.length+1->(∀ k∈K,g k<=(f k).length)->(K.map g).sum+P.length<=(weave f K P).length
 | [],_,h,_=>by simp at h
 | [k],[],_,h=>by simp [weave];exact h k (by simp)
 | _ :: _ :: _,[],h,_=>by simp at h
 | k :: K,p :: P,h,hf=>by
   have ih:=zjz f g K P (by simpa using h) fun c hc=>hf c (by simp [hc]);have:=hf k (by simp);simp only [weave,List.map_cons,List.sum_cons,List.length_cons,List.length_append];omega
theorem znl {A:Arr}:∀ (d:Nat) (nd:Nd),nWf A d nd->(nidx A d nd).length+nd.pairs.length<=(ntrav A d nd).length
 | 0,nd,_=>by simp [nidx,ntrav]
 | d+1,nd,h=>by
   have h1:∀ k∈nd.kids,(nidx A d (ndA A k)).length+1<=(ntrav A d (ndA A k)).length:=by
    intro k hk;obtain ⟨_,h4,_,hw⟩:=h.2 k hk;have:=znl d _ hw;omega
   have h2:=zjz (fun k=>ntrav A d (ndA A k)) (fun k=>(nidx A d (ndA A k)).length+1) nd.kids nd.pairs h.1 h1
   have h3:(nidx A (d+1) nd).length=(nd.kids.map fun k=>(nidx A d (ndA A k)).length+1).sum:=by
    simp only [nidx,List.length_flatMap,List.length_cons]
   rw [h3];exact h2
theorem GoodD.len {A:Arr} {fr:List Nat} {root D:Nat} {T:Pairs} (h:GoodD A fr root D T):(own A D root).length<=T.length+1:=by
 have:=znl D _ h.pt.wf;have h2:(ntrav A D (ndA A root)).length=T.length:=by rw [<-h.trav];rfl
 unfold own;simp only [List.length_cons];omega
theorem zsp:GoodT [nd0] [] 0 []:=by
 refine ⟨0,⟨by simp,rfl,fun x=>?_,by simp⟩,by simp [ndA,nd0],.inl rfl,rfl,List.Pairwise.nil,by simp [own,nidx]⟩;simp [own,nidx,List.count_cons]
 split <;> omega
/-! A full root is put below a new one. -/
def topA (A:Arr) (fr:List Nat) (root:Nat):Arr:=(takeA A fr).set (takeI A fr) ⟨[],[root]⟩
theorem top_ok {A:Arr} {fr:List Nat} {root D:Nat} {T:Pairs} (h:GoodD A fr root D T) (h9:(ndA A root).pairs.length=9) :
 Pt (topA A fr root) fr.dropLast (D+1) (takeI A fr)/\ndA (topA A fr root) (takeI A fr)=⟨[],[root]⟩/\ndA (topA A fr root) root=ndA A root/\trav (topA A fr root) (D+1) (takeI A fr)=T ∧
  (own (topA A fr root) (D+1) (takeI A fr)).length+fr.dropLast.length=(topA A fr root).length/\(topA A fr root).length=(takeA A fr).length:=by
 have ht:=took h.pt.free;have hn:ndA (topA A fr root) (takeI A fr)=⟨[],[root]⟩:=zba _ ht.lt;have hl:(topA A fr root).length=(takeA A fr).length:=by unfold topA;simp
 have hlt:=own_lt h.pt
 have hne:∀ j∈own A D root,j≠takeI A fr:=by
  intro j hj e;have h1:=h.pt.one j;have h2:0 < (own A D root).count j:=List.count_pos_iff.2 hj;have h3:=ht.cnt j (hlt j hj);rw [if_pos e.symm] at h3;omega
 have hold:∀ j,j < A.length->j≠takeI A fr->ndA (topA A fr root) j=ndA A j:=by
  intro j hj hjn;unfold topA;rw [zbb _ (Ne.symm hjn),ht.old j hj]
 have htl:=ht.len;obtain ⟨a1,a2,a3,a4⟩:=zkp (A':=topA A fr root) (d:=D) (c:=root) (by omega) fun j hj=>hold j (hlt j hj) (hne j hj)
 have hown:own (topA A fr root) (D+1) (takeI A fr)=takeI A fr :: own A D root:=by
  unfold own at a2 ⊢
  rw [hn];simp only [nidx,List.flatMap_cons,List.flatMap_nil,List.append_nil];rw [a2]
 refine ⟨⟨by rw [hl];exact ht.lt,?_,fun x=>?_,fun f hf=>?_⟩,hn,a1,?_,?_,hl⟩
 · rw [hn]
   refine ⟨rfl,fun k hk=>?_⟩;obtain rfl:k=root:=by simpa using hk
   have:=h.pt.lt;exact ⟨by omega,by rw [a1];omega,by rw [a1];omega,a4 h.pt.wf⟩
 · rw [hown]
   simp only [List.count_cons,beq_iff_eq];have h1:=h.pt.one x;by_cases hx:x < A.length
   · have:=ht.cnt x hx;omega
   have h2:(own A D root).count x=0:=List.count_eq_zero.2 fun hm=>hx (hlt x hm)
   have h3:fr.dropLast.count x=0:=List.count_eq_zero.2 fun hm=>hx (h.pt.free x (List.dropLast_subset _ hm)).1;rw [h2,h3]
   split <;> omega
 · have hm:f∈fr:=List.dropLast_subset _ hf
   obtain ⟨hfl,hfn⟩:=h.pt.free f hm;have h1:=h.pt.one f;have h2:=ht.cnt f hfl;have h3:0 < fr.dropLast.count f:=List.count_pos_iff.2 hf;refine ⟨by omega,?_⟩;rw [hold f hfl fun e=>by rw [if_pos e.symm] at h2;omega];exact hfn
 · rw [<-h.trav,<-a3]
   unfold trav;rw [hn];simp [ntrav,weave]
 rw [hown,hl]
 have:=h.cover;have:=ht.cover;simp only [List.length_cons];omega
def growA (A:Arr) (fr:List Nat) (root:Nat):Arr × List Nat × Nat :=
 if (ndA A root).pairs.length=9 then (splitA (topA A fr root) fr.dropLast (takeI A fr) 0,fr.dropLast.dropLast,takeI A fr) else (A,fr,root)
theorem ztm {A:Arr} {fr:List Nat} {root D:Nat} {T:Pairs} (h:GoodD A fr root D T):∃ D',GoodD (growA A fr root).1 (growA A fr root).2.1 (growA A fr root).2.2 D' T/\(ndA (growA A fr root).1 (growA A fr root).2.2).pairs.length<=8:=by
 by_cases h9:(ndA A root).pairs.length=9
 · obtain ⟨t1,t2,t3,t4,t5,t6⟩:=top_ok h h9
   obtain ⟨mid,_,q1,q2,q3,_⟩:=zne (P1:=[]) (P2:=[]) (K1:=[]) (K2:=[]) t1 (by rw [t2];rfl) rfl rfl (by rw [t3];exact h9);have e:growA A fr root=(splitA (topA A fr root) fr.dropLast (takeI A fr) 0,fr.dropLast.dropLast,takeI A fr):=(by unfold growA;rw [if_pos h9]);rw [e];have hc:=q1.cover;dsimp only;simp only [List.length_nil] at q1 q2 q3 hc;exact ⟨D+1,⟨q1.pt,by rw [q3];simp,.inr (by rw [q3];simp),by rw [q2,t4],h.sorted,by omega⟩,by rw [q3];simp⟩
 have e:growA A fr root=(A,fr,root):=by unfold growA;rw [if_neg h9]
 rw [e];exact ⟨D,h,by have:=h.hi;dsimp only;omega⟩
theorem znt (key:ByteArray) (n:Int):∀ T:Pairs,Sorted T->(insT T key n).length=T.length+if (getT T key).2 then 0 else 1:=by
 intro T hT;rw [zqw T hT,zmk T hT];have:=zbm T key;cases hitOf T key <;> simp <;> omega
theorem zje (key:ByteArray) (n:Int):∀ (g:Nat) (A:Arr) (fr:List Nat) (at_:Nat),(setA g A fr at_ key n).1.length=A.length\/(setA g A fr at_ key n).2.1 = []
 | 0,A,fr,at_=>.inl rfl
 | g+1,A,fr,at_=>by
   unfold setA
   split
   · exact .inl (by simp)
   split
   · exact .inl (by simp)
   split
   · rcases zje key n g (splitA A fr at_ (spotOf (ndA A at_).pairs key)) fr.dropLast at_ with e | e
     · by_cases hf:fr = []
       · right
         have:∀ (g:Nat) (A:Arr) (at_:Nat),(setA g A [] at_ key n).2.1 = []:=by
          intro g
          induction g with
          | zero=>intro A at_;rfl
          | succ g ih =>
            intro A at_;unfold setA
            split
            · rfl
            split
            · rfl
            split
            · exact ih _ _
            exact ih _ _
         rw [hf];exact this _ _ _
       left
       rw [e];unfold splitA takeA;rw [if_neg hf];simp
     exact .inr e
   exact zje key n g A fr _
theorem ztc {A:Arr} {fr:List Nat} {root:Nat} {T:Pairs} (h:GoodT A fr root T) (key:ByteArray) (n:Int) (N:Nat) (hN:A.length<=N+2) (hT:T.length < N) :
 ∃ g,zfm g (growA A fr root).1 (growA A fr root).2.1 (growA A fr root).2.2 key/\(setA g (growA A fr root).1 (growA A fr root).2.1 (growA A fr root).2.2 key n).2.2 = !(getT T key).2 ∧
  GoodT (setA g (growA A fr root).1 (growA A fr root).2.1 (growA A fr root).2.2 key n).1 (setA g (growA A fr root).1 (growA A fr root).2.1 (growA A fr root).2.2 key n).2.1 (growA A fr root).2.2 (insT T key n) ∧
  (setA g (growA A fr root).1 (growA A fr root).2.1 (growA A fr root).2.2 key n).1.length<=N+2/\(growA A fr root).1.length<=N+2:=by
 obtain ⟨D,hD⟩:=h
 have hgl:(growA A fr root).1.length=A.length\/(growA A fr root).2.1 = []:=by
  unfold growA
  split
  · by_cases h1:fr.dropLast = []
    · right
      show fr.dropLast.dropLast = []
      rw [h1];rfl
    left
    have h2:fr≠[]:=fun e=>h1 (by rw [e];rfl);unfold splitA topA takeA;rw [if_neg h1,if_neg h2];simp
  exact .inl rfl
 obtain ⟨D',hG,h8⟩:=ztm hD;have hl0:=hG.len;have hc0:=hG.cover;generalize growA A fr root=r at *;obtain ⟨A1,fr1,root1⟩:=r;dsimp only at *;have hS:=zlu key n D' (2 * D'+1) A1 fr1 root1 (Nat.le_refl _) hG.pt h8 (by rw [hG.trav];exact hG.sorted);have hlen:=zje key n (2 * D'+1) A1 fr1 root1;have hsafe:=hS.safe;have hst:=hS.step;have htr:=hS.trav;have hlo:=hS.lo;have hhi:=hS.hi;have hnw:=hS.new;rw [hG.trav] at htr hnw;generalize hq:setA (2 * D'+1) A1 fr1 root1 key n=q at *;obtain ⟨A2,fr2,b⟩:=q;dsimp only at *;have hc2:=hst.cover
 have hgd:GoodD A2 fr2 root1 D' (insT T key n):=⟨hst.pt,hhi,by rcases hG.lo with e | e
                                                               · exact .inl e
                                                               exact .inr (by omega),htr,(zhu T hG.sorted key n).1,by omega⟩
 have hl2:=hgd.len;have hil:=znt key n T hG.sorted
 have hA1:A1.length<=N+2:=by
  rcases hgl with e | e
  · omega
  subst e;simp only [List.length_nil] at hc0;omega
 have h01:(insT T key n).length<=T.length+1:=by rw [hil];split <;> omega
 refine ⟨2 * D'+1,hsafe,?_⟩;rw [hq];refine ⟨hnw,⟨D',hgd⟩,?_,hA1⟩;dsimp only;rcases hlen with e | e
 · omega
 subst e;simp only [List.length_nil] at hc2 hc0;omega
/-! The order in which a walk comes by. -/
def fromT (T:Pairs) (frm:ByteArray):Pairs:=T.filter fun p=>!klt p.1 frm
theorem zgb {T:Pairs} {frm:ByteArray} (h:∀ q∈T,klt q.1 frm=true):fromT T frm = []:=List.filter_eq_nil_iff.2 fun q hq=>by rw [h q hq];simp
theorem zdx (T U:Pairs) (frm:ByteArray):fromT (T++U) frm=fromT T frm++fromT U frm:=List.filter_append _ _
theorem zoe {A:Arr} {d at_:Nat} {frm:ByteArray} (hw:nWf A (d+1) (ndA A at_)) (hs:Sorted (trav A (d+1) at_)) :
 fromT (trav A (d+1) at_) frm=(if hitOf (ndA A at_).pairs frm then [] else fromT (trav A d (kidA A at_ (spotOf (ndA A at_).pairs frm))) frm) ++
  rwv (fun k=>fromT (trav A d k) frm) ((ndA A at_).pairs.drop (spotOf (ndA A at_).pairs frm)) ((ndA A at_).kids.drop (spotOf (ndA A at_).pairs frm+1)):=by
 have hl:(ndA A at_).kids.length=(ndA A at_).pairs.length+1:=hw.1;have hsl:=zbm (ndA A at_).pairs frm;have hP:Sorted (ndA A at_).pairs:=hs.sub (zkt (d+1) _ hw);obtain ⟨k,hk⟩:∃ k,(ndA A at_).kids[spotOf (ndA A at_).pairs frm]? = some k:=⟨_,List.getElem?_eq_getElem (by omega)⟩;have hki:kidA A at_ (spotOf (ndA A at_).pairs frm)=k:=by unfold kidA;simp [List.getD,hk]
 have hn:ndA A at_=⟨(ndA A at_).pairs.take (spotOf (ndA A at_).pairs frm)++[]++(ndA A at_).pairs.drop (spotOf (ndA A at_).pairs frm),(ndA A at_).kids.take (spotOf (ndA A at_).pairs frm)++[k]++(ndA A at_).kids.drop (spotOf (ndA A at_).pairs frm+1)⟩:=by
  generalize ndA A at_=nd at *;obtain ⟨P,K⟩:=nd;dsimp only at *;generalize spotOf P frm=i at *
  have e2:K.take i++[k]++K.drop (i+1)=K:=by
   have:=List.take_append_drop i K;rw [List.drop_eq_getElem_cons (by omega),(List.getElem?_eq_some_iff.1 hk).2] at this;simpa using this
  rw [e2];simp
 have h1:((ndA A at_).kids.take (spotOf (ndA A at_).pairs frm)).length=((ndA A at_).pairs.take (spotOf (ndA A at_).pairs frm)).length:=by simp;omega
 have h2:((ndA A at_).kids.drop (spotOf (ndA A at_).pairs frm+1)).length=((ndA A at_).pairs.drop (spotOf (ndA A at_).pairs frm)).length:=by simp;omega
 have ht:=zcw (d:=d) hn h1 h2 rfl;rw [ht] at hs;have hbef:=zhm _ _ hs.left.left (key:=frm) (zgw (T:=(ndA A at_).pairs) (key:=frm));rw [hki,ht,zdx,zdx,zgb hbef,List.nil_append];simp only [weave];simp only [weave] at hs
 have hrw:∀ (P:Pairs) (K:List Nat),Sorted (rwv (trav A d) P K)->(∀ p∈P,klt p.1 frm=false)->fromT (rwv (trav A d) P K) frm=rwv (fun k=>fromT (trav A d k) frm) P K:=by
  intro P
  induction P with
  | nil=>intro K _ _;simp [rwv,fromT]
  | cons p P ih =>
    intro K hs hp
    cases K with
    | nil=>simp [rwv,fromT]
    | cons c K =>
      simp only [rwv] at hs ⊢
      have h3:fromT (p :: (trav A d c++rwv (trav A d) P K)) frm=p :: fromT (trav A d c++rwv (trav A d) P K) frm:=by
       unfold fromT;rw [List.filter_cons,hp p (by simp)]
       rfl
      rw [h3,zdx,ih K ((hs.sub (List.sublist_cons_self _ _)).right) fun q hq=>hp q (by simp [hq])]
 have hdp:∀ p∈(ndA A at_).pairs.drop (spotOf (ndA A at_).pairs frm),klt p.1 frm=false:=by
  rw [zcy _ hP];intro p hp;simpa using (List.mem_filter.1 hp).2
 rw [hrw _ _ hs.right hdp]
 cases hh:hitOf (ndA A at_).pairs frm with
 | false=>simp
 | true =>
   obtain ⟨m,hm⟩:=hit_at hh;have hil:=(List.getElem?_eq_some_iff.1 hm).1
   have hd:(ndA A at_).pairs.drop (spotOf (ndA A at_).pairs frm)=(frm,m) :: (ndA A at_).pairs.drop (spotOf (ndA A at_).pairs frm+1):=by
    rw [List.drop_eq_getElem_cons hil,(List.getElem?_eq_some_iff.1 hm).2]
   have hmem:(frm,m)∈rwv (trav A d) ((ndA A at_).pairs.drop (spotOf (ndA A at_).pairs frm)) ((ndA A at_).kids.drop (spotOf (ndA A at_).pairs frm+1)):=by
    rw [hd]
    cases hK:(ndA A at_).kids.drop (spotOf (ndA A at_).pairs frm+1) with
    | nil=>rw [hd,hK] at h2;simp at h2
    | cons c K=>simp [rwv]
   have:fromT (trav A d k) frm = []:=zgb fun q hq=>hs.cross q (List.mem_append_right _ hq) (frm,m) hmem;rw [this];simp
theorem zpm {A:Arr} {at_:Nat} {frm:ByteArray} (hs:Sorted (trav A 0 at_)):fromT (trav A 0 at_) frm=(ndA A at_).pairs.drop (spotOf (ndA A at_).pairs frm):=(zcy _ hs frm).symm
end Go.Proofs.Ythljnnjpmdgkoaa
