/- Own lemmas and contracts that the claim's proof needs, laid together. The conditions stand in each. -/
import Derived.Test.YthljnnjpmdgkoaaGreatB03
import Derived.Test.YthljnnjpmdgkoaaGreatB01
namespace Go.Proofs.YthljnnjpmdgkoaaGreat
open Go Go.RowKit
structure GoodD (A:Arr) (fr:List Nat) (root D:Nat) (T:Pairs):Prop where
 pt:Pt A fr D root
 hi:(ndA A root).pairs.length<=9
 lo:D=0\/1<=(ndA A root).pairs.length
 trav:trav A D root=T
 sorted:Sorted T
 cover:(own A D root).length+fr.length=A.length
def GoodT (A:Arr) (fr:List Nat) (root:Nat) (T:Pairs):Prop:=∃ D,GoodD A fr root D T
theorem zla (f:Nat->Pairs) (g:Nat->Nat):∀ (K:List Nat) (P:Pairs),K.length=P.length+1->(∀ k∈K,g k<=(f k).length)->(K.map g).sum+P.length<=(weave f K P).length
 | [],_,h,_=>by simp at h
 | [k],[],_,h=>by simp [weave];exact h k (by simp)
 | _ :: _ :: _,[],h,_=>by simp at h
 | k :: K,p :: P,h,hf=>by
   have ih:=zla f g K P (by simpa using h) fun c hc=>hf c (by simp [hc]);have:=hf k (by simp);simp only [weave,List.map_cons,List.sum_cons,List.length_cons,List.length_append];omega
theorem zpc {A:Arr}:∀ (d:Nat) (nd:Nd),nWf A d nd->(nidx A d nd).length+nd.pairs.length<=(ntrav A d nd).length
 | 0,nd,_=>by simp [nidx,ntrav]
 | d+1,nd,h=>by
   have h1:∀ k∈nd.kids,(nidx A d (ndA A k)).length+1<=(ntrav A d (ndA A k)).length:=by
    intro k hk;obtain ⟨_,h4,_,hw⟩:=h.2 k hk;have:=zpc d _ hw;omega
   have h2:=zla (fun k=>ntrav A d (ndA A k)) (fun k=>(nidx A d (ndA A k)).length+1) nd.kids nd.pairs h.1 h1
   have h3:(nidx A (d+1) nd).length=(nd.kids.map fun k=>(nidx A d (ndA A k)).length+1).sum:=by
    simp only [nidx,List.length_flatMap,List.length_cons]
   rw [h3];exact h2
theorem GoodD.len {A:Arr} {fr:List Nat} {root D:Nat} {T:Pairs} (h:GoodD A fr root D T):(own A D root).length<=T.length+1:=by
 have:=zpc D _ h.pt.wf;have h2:(ntrav A D (ndA A root)).length=T.length:=by rw [<-h.trav];rfl
 unfold own;simp only [List.length_cons];omega
theorem zva:GoodT [nd0] [] 0 []:=by
 refine ⟨0,⟨by simp,rfl,fun x=>?_,by simp⟩,by simp [ndA,nd0],.inl rfl,rfl,List.Pairwise.nil,by simp [own,nidx]⟩;simp [own,nidx,List.count_cons]
 split <;> omega
/-! A full root is put below a new one. -/
def topA (A:Arr) (fr:List Nat) (root:Nat):Arr:=(takeA A fr).set (takeI A fr) ⟨[],[root]⟩
theorem top_ok {A:Arr} {fr:List Nat} {root D:Nat} {T:Pairs} (h:GoodD A fr root D T) (h9:(ndA A root).pairs.length=9) :
 Pt (topA A fr root) fr.dropLast (D+1) (takeI A fr)/\ndA (topA A fr root) (takeI A fr)=⟨[],[root]⟩/\ndA (topA A fr root) root=ndA A root/\trav (topA A fr root) (D+1) (takeI A fr)=T ∧
  (own (topA A fr root) (D+1) (takeI A fr)).length+fr.dropLast.length=(topA A fr root).length/\(topA A fr root).length=(takeA A fr).length:=by
 have ht:=took h.pt.free;have hn:ndA (topA A fr root) (takeI A fr)=⟨[],[root]⟩:=zaq _ ht.lt;have hl:(topA A fr root).length=(takeA A fr).length:=by unfold topA;simp
 have hlt:=own_lt h.pt
 have hne:∀ j∈own A D root,j≠takeI A fr:=by
  intro j hj e;have h1:=h.pt.one j;have h2:0 < (own A D root).count j:=List.count_pos_iff.2 hj;have h3:=ht.cnt j (hlt j hj);rw [if_pos e.symm] at h3;omega
 have hold:∀ j,j < A.length->j≠takeI A fr->ndA (topA A fr root) j=ndA A j:=by
  intro j hj hjn;unfold topA;rw [zah _ (Ne.symm hjn),ht.old j hj]
 have htl:=ht.len;obtain ⟨a1,a2,a3,a4⟩:=zdi (A':=topA A fr root) (d:=D) (c:=root) (by omega) fun j hj=>hold j (hlt j hj) (hne j hj)
 have hown:own (topA A fr root) (D+1) (takeI A fr)=takeI A fr :: own A D root:=by
  unfold own at a2 ⊢
  rw [hn];simp only [nidx,List.flatMap_cons,List.flatMap_nil,List.append_nil];rw [a2]
 refine ⟨⟨by rw [hl];exact ht.lt,?_,fun x=>?_,fun f hf=>?_⟩,hn,a1,?_,?_,hl⟩
 · rw [hn]
   refine ⟨rfl,fun k hk=>?_⟩;obtain rfl:k=root:=by simpa using hk
   have:=h.pt.lt;exact ⟨by omega,by rw [a1];omega,by rw [a1];omega,a4 h.pt.wf⟩
 · rw [hown]
   simp only [List.count_cons,beq_iff_eq];have h1:=h.pt.one x;by_cases hx:x < A.length
   · have:=ht.cnt x hx;omega
   have h2:(own A D root).count x=0:=List.count_eq_zero.2 fun hm=>hx (hlt x hm)
   have h3:fr.dropLast.count x=0:=List.count_eq_zero.2 fun hm=>hx (h.pt.free x (List.dropLast_subset _ hm)).1;rw [h2,h3]
   split <;> omega
 · have hm:f∈fr:=List.dropLast_subset _ hf
   obtain ⟨hfl,hfn⟩:=h.pt.free f hm;have h1:=h.pt.one f;have h2:=ht.cnt f hfl;have h3:0 < fr.dropLast.count f:=List.count_pos_iff.2 hf;refine ⟨by omega,?_⟩;rw [hold f hfl fun e=>by rw [if_pos e.symm] at h2;omega];exact hfn
 · rw [<-h.trav,<-a3]
   unfold trav;rw [hn];simp [ntrav,weave]
 rw [hown,hl]
 have:=h.cover;have:=ht.cover;simp only [List.length_cons];omega
def growA (A:Arr) (fr:List Nat) (root:Nat):Arr × List Nat × Nat :=
 if (ndA A root).pairs.length=9 then (splitA (topA A fr root) fr.dropLast (takeI A fr) 0,fr.dropLast.dropLast,takeI A fr) else (A,fr,root)
theorem zvz {A:Arr} {fr:List Nat} {root D:Nat} {T:Pairs} (h:GoodD A fr root D T):∃ D',GoodD (growA A fr root).1 (growA A fr root).2.1 (growA A fr root).2.2 D' T/\(ndA (growA A fr root).1 (growA A fr root).2.2).pairs.length<=8:=by
 by_cases h9:(ndA A root).pairs.length=9
 · obtain ⟨t1,t2,t3,t4,t5,t6⟩:=top_ok h h9
   obtain ⟨mid,_,q1,q2,q3,_⟩:=zow (P1:=[]) (P2:=[]) (K1:=[]) (K2:=[]) t1 (by rw [t2];rfl) rfl rfl (by rw [t3];exact h9);have e:growA A fr root=(splitA (topA A fr root) fr.dropLast (takeI A fr) 0,fr.dropLast.dropLast,takeI A fr):=(by unfold growA;rw [if_pos h9]);rw [e];have hc:=q1.cover;dsimp only;simp only [List.length_nil] at q1 q2 q3 hc;exact ⟨D+1,⟨q1.pt,by rw [q3];simp,.inr (by rw [q3];simp),by rw [q2,t4],h.sorted,by omega⟩,by rw [q3];simp⟩
 have e:growA A fr root=(A,fr,root):=by unfold growA;rw [if_neg h9]
 rw [e];exact ⟨D,h,by have:=h.hi;dsimp only;omega⟩
theorem zpm (key:ByteArray) (n:Int):∀ T:Pairs,Sorted T->(insT T key n).length=T.length+if (getT T key).2 then 0 else 1:=by
 intro T hT;rw [zsx T hT,zkk T hT];have:=zbo T key;cases hitOf T key <;> simp <;> omega
theorem zjw (key:ByteArray) (n:Int):∀ (g:Nat) (A:Arr) (fr:List Nat) (at_:Nat),(setA g A fr at_ key n).1.length=A.length\/(setA g A fr at_ key n).2.1 = []
 | 0,A,fr,at_=>.inl rfl
 | g+1,A,fr,at_=>by
   unfold setA
   split
   · exact .inl (by simp)
   split
   · exact .inl (by simp)
   split
   · rcases zjw key n g (splitA A fr at_ (spotOf (ndA A at_).pairs key)) fr.dropLast at_ with e | e
     · by_cases hf:fr = []
       · right
         have:∀ (g:Nat) (A:Arr) (at_:Nat),(setA g A [] at_ key n).2.1 = []:=by
          intro g
          induction g with
          | zero=>intro A at_;rfl
          | succ g ih =>
            intro A at_;unfold setA
            split
            · rfl
            split
            · rfl
            split
            · exact ih _ _
            exact ih _ _
         rw [hf];exact this _ _ _
       left
       rw [e];unfold splitA takeA;rw [if_neg hf];simp
     exact .inr e
   exact zjw key n g A fr _
theorem zvp {A:Arr} {fr:List Nat} {root:Nat} {T:Pairs} (h:GoodT A fr root T) (key:ByteArray) (n:Int) (N:Nat) (hN:A.length<=N+2) (hT:T.length < N) :
 ∃ g,zgm g (growA A fr root).1 (growA A fr root).2.1 (growA A fr root).2.2 key/\(setA g (growA A fr root).1 (growA A fr root).2.1 (growA A fr root).2.2 key n).2.2 = !(getT T key).2 ∧
  GoodT (setA g (growA A fr root).1 (growA A fr root).2.1 (growA A fr root).2.2 key n).1 (setA g (growA A fr root).1 (growA A fr root).2.1 (growA A fr root).2.2 key n).2.1 (growA A fr root).2.2 (insT T key n) ∧
  (setA g (growA A fr root).1 (growA A fr root).2.1 (growA A fr root).2.2 key n).1.length<=N+2/\(growA A fr root).1.length<=N+2:=by
 obtain ⟨D,hD⟩:=h
 have hgl:(growA A fr root).1.length=A.length\/(growA A fr root).2.1 = []:=by
  unfold growA
  split
  · by_cases h1:fr.dropLast = []
    · right
      show fr.dropLast.dropLast = []
      rw [h1];rfl
    left
    have h2:fr≠[]:=fun e=>h1 (by rw [e];rfl);unfold splitA topA takeA;rw [if_neg h1,if_neg h2];simp
  exact .inl rfl
 obtain ⟨D',hG,h8⟩:=zvz hD;have hl0:=hG.len;have hc0:=hG.cover;generalize growA A fr root=r at *;obtain ⟨A1,fr1,root1⟩:=r;dsimp only at *;have hS:=znc key n D' (2 * D'+1) A1 fr1 root1 (Nat.le_refl _) hG.pt h8 (by rw [hG.trav];exact hG.sorted);have hlen:=zjw key n (2 * D'+1) A1 fr1 root1;have hsafe:=hS.safe;have hst:=hS.step;have htr:=hS.trav;have hlo:=hS.lo;have hhi:=hS.hi;have hnw:=hS.new;rw [hG.trav] at htr hnw;generalize hq:setA (2 * D'+1) A1 fr1 root1 key n=q at *;obtain ⟨A2,fr2,b⟩:=q;dsimp only at *;have hc2:=hst.cover
 have hgd:GoodD A2 fr2 root1 D' (insT T key n):=⟨hst.pt,hhi,by rcases hG.lo with e | e
                                                               · exact .inl e
                                                               exact .inr (by omega),htr,(zif T hG.sorted key n).1,by omega⟩
 have hl2:=hgd.len;have hil:=zpm key n T hG.sorted
 have hA1:A1.length<=N+2:=by
  rcases hgl with e | e
  · omega
  subst e;simp only [List.length_nil] at hc0;omega
 have h01:(insT T key n).length<=T.length+1:=by rw [hil];split <;> omega
 refine ⟨2 * D'+1,hsafe,?_⟩;rw [hq];refine ⟨hnw,⟨D',hgd⟩,?_,hA1⟩;dsimp only;rcases hlen with e | e
 · omega
 subst e;simp only [List.length_nil] at hc2 hc0;omega
/-! Delete, whole. -/
def zcu (A:Arr) (fr:List Nat) (root:Nat):Arr × List Nat × Nat :=
 if (ndA A root).pairs.length=0/\(ndA A root).kids≠[] then (A.set root nd0,fr++[root],kidA A root 0) else (A,fr,root)
theorem zvf (key:ByteArray) (T:Pairs) (hT:Sorted T) (h:(getT T key).2=true):(delT T key).length+1=T.length:=by
 have hh:=zjn hT h;obtain ⟨m,hm⟩:=hit_at hh;have hil:=(List.getElem?_eq_some_iff.1 hm).1
 have e:T=T.take (spotOf T key)++(key,m) :: T.drop (spotOf T key+1):=by
  have:=List.take_append_drop (spotOf T key) T;rw [List.drop_eq_getElem_cons hil,(List.getElem?_eq_some_iff.1 hm).2] at this;exact this.symm
 have hb:=zdr (T:=T) (key:=key);generalize spotOf T key=i at *;have hs2:Sorted (T.take i++(key,m) :: T.drop (i+1)):=by rw [<-e];exact hT
 have h2:=zfh key m _ _ hb fun q hq=>(List.pairwise_cons.1 hs2.right).1 q hq;rw [<-e] at h2;rw [h2];simp;omega
theorem zwc {A:Arr} {fr:List Nat} {root:Nat} {T:Pairs} (h:GoodT A fr root T) (key:ByteArray) (hk:(getT T key).2=true) :
 ∃ g,zed g A fr root key/\(delA g A fr root key).1.length=A.length/\root < A.length/\(ndA (delA g A fr root key).1 root).pairs.length<=9/\((delA g A fr root key).2.length<=A.length) ∧
  ((ndA (delA g A fr root key).1 root).kids≠[]->(ndA (delA g A fr root key).1 root).kids[0]? = some (kidA (delA g A fr root key).1 root 0)) ∧
  GoodT (zcu (delA g A fr root key).1 (delA g A fr root key).2 root).1 (zcu (delA g A fr root key).1 (delA g A fr root key).2 root).2.1 (zcu (delA g A fr root key).1 (delA g A fr root key).2 root).2.2 (delT T key):=by
 obtain ⟨D,hD⟩:=h;have hO:=ziq D (D+1) A fr root key (Nat.le_refl _) hD.pt (by rw [hD.trav];exact hD.sorted) (by rw [hD.trav];exact hk) hD.lo hD.hi (by have:=hD.cover;omega)
 have hlen:∀ (g:Nat) (A:Arr) (fr:List Nat) (at_:Nat) (key:ByteArray),(delA g A fr at_ key).1.length=A.length:=by
  intro g
  induction g with
  | zero=>intros;rfl
  | succ g ih =>
    intro A fr at_ key
    have hf:∀ i,(fillA A fr at_ i).1.length=A.length:=by
     intro i;unfold fillA
     split
     · rfl
     split
     · simp [lendL]
     split
     · split
       · simp [lendR]
       simp [joinA]
     simp [joinA]
    unfold delA
    split
    · simp
    split
    · rw [ih,hf]
    split
    · rw [ih];simp
    split
    · rw [ih];simp
    rw [ih];simp [joinA]
 have hl:=hlen (D+1) A fr root key;have hst:=hO.step;have htr:=hO.trav;have hhi:=hO.hi;have hlo:=hO.lo;rw [hD.trav] at htr;refine ⟨D+1,hO.safe,hl,hD.pt.lt,hhi,?_,?_,?_⟩
 · have:=hst.cover;have:=hD.cover;omega
 · intro hne
   generalize (delA (D+1) A fr root key).1=A1 at *;unfold kidA
   cases hkk:(ndA A1 root).kids with
   | nil=>exact absurd hkk hne
   | cons k K=>rfl
 generalize delA (D+1) A fr root key=r at *
 obtain ⟨A1,fr1⟩:=r;dsimp only at *;have hsT:Sorted (delT T key):=hD.sorted.filter _;have hc:(own A1 D root).length+fr1.length=A1.length:=(by have:=hst.cover;have:=hD.cover;omega);by_cases hs:(ndA A1 root).pairs.length=0/\(ndA A1 root).kids≠[]
 · have e:zcu A1 fr1 root=(A1.set root nd0,fr1++[root],kidA A1 root 0):=by unfold zcu;rw [if_pos hs]
   rw [e];dsimp only
   cases D with
   | zero=>exact absurd hst.pt.wf hs.2
   | succ D =>
     have hw:=hst.pt.wf;have hkl:(ndA A1 root).kids.length=1:=(by have h1:(ndA A1 root).kids.length=(ndA A1 root).pairs.length+1:=hw.1;omega)
     obtain ⟨k,hkk⟩:∃ k,(ndA A1 root).kids = [k]:=by
      cases hq:(ndA A1 root).kids with
      | nil=>rw [hq] at hkl;simp at hkl
      | cons k K =>
        cases K with
        | nil=>exact ⟨k,rfl⟩
        | cons _ _=>rw [hq] at hkl;simp at hkl
     have hpp:(ndA A1 root).pairs = []:=List.eq_nil_of_length_eq_zero hs.1
     have hn:ndA A1 root=⟨[]++[]++[],[]++[k]++[]⟩:=by
      show ndA A1 root=⟨[],[k]⟩
      rw [<-hpp,<-hkk]
     have hk0:kidA A1 root 0=k:=(by unfold kidA;rw [hkk];rfl);have hkm:k∈(ndA A1 root).kids:=(by rw [hkk];simp);obtain ⟨a1,a2,a3,a4⟩:=hw.2 k hkm;have hown:=zbu (d:=D) hn;simp only [List.flatMap_nil,List.nil_append,List.append_nil,List.flatMap_cons] at hown;have hpk:=hst.pt.kid hkm;have hlt:=own_lt hpk
     have hne:∀ j∈own A1 D k,j≠root:=by
      intro j hj e;have h1:=hst.pt.one j;rw [hown] at h1;have h2:0 < (own A1 D k).count j:=List.count_pos_iff.2 hj;rw [List.count_cons,e] at h1;simp only [beq_self_eq_true,if_true] at h1;rw [e] at h2;omega
     obtain ⟨b1,b2,b3,b4⟩:=zdi (A':=A1.set root nd0) (d:=D) (c:=k) (by simp) fun j hj=>zah _ (Ne.symm (hne j hj));rw [hk0];refine ⟨D,⟨by simp;exact a1,b4 a4,fun x=>?_,fun f hf=>?_⟩,by rw [b1];exact a3,.inr (by rw [b1];omega),?_,hsT,?_⟩
     · rw [b2]
       have h1:=hst.pt.one x;rw [hown] at h1;simp only [List.count_cons,List.count_append,List.count_nil] at h1 ⊢
       omega
     · rcases List.mem_append.1 hf with hf | hf
       · have h1:=hst.pt.one f
         have h2:0 < fr1.count f:=List.count_pos_iff.2 hf;rw [zah _ fun e=>by rw [<-e] at h1 h2;rw [hown] at h1;simp only [List.count_cons,beq_self_eq_true,if_true] at h1;omega];exact ⟨by simp;exact (hst.pt.free f hf).1,(hst.pt.free f hf).2⟩
       obtain rfl:f=root:=by simpa using hf
       exact ⟨by simp;exact hst.pt.lt,zaq _ hst.pt.lt⟩
     · rw [b3,<-htr]
       have:=zbc (d:=D) hn rfl rfl rfl;rw [this];simp [lw,rwv,weave]
     rw [b2]
     rw [hown] at hc;simp only [List.length_cons,List.length_append,List.length_nil,List.length_set] at hc ⊢
     omega
 have e:zcu A1 fr1 root=(A1,fr1,root):=by unfold zcu;rw [if_neg hs]
 rw [e];refine ⟨D,hst.pt,hhi,?_,htr,hsT,hc⟩
 cases D with
 | zero=>exact .inl rfl
 | succ D =>
   right
   have hkl:(ndA A1 root).kids.length=(ndA A1 root).pairs.length+1:=hst.pt.wf.1;rcases Nat.eq_zero_or_pos (ndA A1 root).pairs.length with h0 | h0
   · exact absurd ⟨h0,fun e=>by rw [e] at hkl;simp at hkl⟩ hs
   exact h0
/-! The order in which a walk comes by. -/
def fromT (T:Pairs) (frm:ByteArray):Pairs:=T.filter fun p=>!klt p.1 frm
theorem zgz {T:Pairs} {frm:ByteArray} (h:∀ q∈T,klt q.1 frm=true):fromT T frm = []:=List.filter_eq_nil_iff.2 fun q hq=>by rw [h q hq];simp
theorem zev (T U:Pairs) (frm:ByteArray):fromT (T++U) frm=fromT T frm++fromT U frm:=List.filter_append _ _
theorem zpz {A:Arr} {d at_:Nat} {frm:ByteArray} (hw:nWf A (d+1) (ndA A at_)) (hs:Sorted (trav A (d+1) at_)) :
 fromT (trav A (d+1) at_) frm=(if hitOf (ndA A at_).pairs frm then [] else fromT (trav A d (kidA A at_ (spotOf (ndA A at_).pairs frm))) frm) ++
  rwv (fun k=>fromT (trav A d k) frm) ((ndA A at_).pairs.drop (spotOf (ndA A at_).pairs frm)) ((ndA A at_).kids.drop (spotOf (ndA A at_).pairs frm+1)):=by
 have hl:(ndA A at_).kids.length=(ndA A at_).pairs.length+1:=hw.1;have hsl:=zbo (ndA A at_).pairs frm;have hP:Sorted (ndA A at_).pairs:=hs.sub (zga (d+1) _ hw);obtain ⟨k,hk⟩:∃ k,(ndA A at_).kids[spotOf (ndA A at_).pairs frm]? = some k:=⟨_,List.getElem?_eq_getElem (by omega)⟩;have hki:kidA A at_ (spotOf (ndA A at_).pairs frm)=k:=by unfold kidA;simp [List.getD,hk]
 have hn:ndA A at_=⟨(ndA A at_).pairs.take (spotOf (ndA A at_).pairs frm)++[]++(ndA A at_).pairs.drop (spotOf (ndA A at_).pairs frm),(ndA A at_).kids.take (spotOf (ndA A at_).pairs frm)++[k]++(ndA A at_).kids.drop (spotOf (ndA A at_).pairs frm+1)⟩:=by
  generalize ndA A at_=nd at *;obtain ⟨P,K⟩:=nd;dsimp only at *;generalize spotOf P frm=i at *
  have e2:K.take i++[k]++K.drop (i+1)=K:=by
   have:=List.take_append_drop i K;rw [List.drop_eq_getElem_cons (by omega),(List.getElem?_eq_some_iff.1 hk).2] at this;simpa using this
  rw [e2];simp
 have h1:((ndA A at_).kids.take (spotOf (ndA A at_).pairs frm)).length=((ndA A at_).pairs.take (spotOf (ndA A at_).pairs frm)).length:=by simp;omega
 have h2:((ndA A at_).kids.drop (spotOf (ndA A at_).pairs frm+1)).length=((ndA A at_).pairs.drop (spotOf (ndA A at_).pairs frm)).length:=by simp;omega
 have ht:=zbc (d:=d) hn h1 h2 rfl;rw [ht] at hs;have hbef:=zhz _ _ hs.left.left (key:=frm) (zdr (T:=(ndA A at_).pairs) (key:=frm));rw [hki,ht,zev,zev,zgz hbef,List.nil_append];simp only [weave];simp only [weave] at hs
 have hrw:∀ (P:Pairs) (K:List Nat),Sorted (rwv (trav A d) P K)->(∀ p∈P,klt p.1 frm=false)->fromT (rwv (trav A d) P K) frm=rwv (fun k=>fromT (trav A d k) frm) P K:=by
  intro P
  induction P with
  | nil=>intro K _ _;simp [rwv,fromT]
  | cons p P ih =>
    intro K hs hp
    cases K with
    | nil=>simp [rwv,fromT]
    | cons c K =>
      simp only [rwv] at hs ⊢
      have h3:fromT (p :: (trav A d c++rwv (trav A d) P K)) frm=p :: fromT (trav A d c++rwv (trav A d) P K) frm:=by
       unfold fromT;rw [List.filter_cons,hp p (by simp)]
       rfl
      rw [h3,zev,ih K ((hs.sub (List.sublist_cons_self _ _)).right) fun q hq=>hp q (by simp [hq])]
 have hdp:∀ p∈(ndA A at_).pairs.drop (spotOf (ndA A at_).pairs frm),klt p.1 frm=false:=by
  rw [zdm _ hP];intro p hp;simpa using (List.mem_filter.1 hp).2
 rw [hrw _ _ hs.right hdp]
 cases hh:hitOf (ndA A at_).pairs frm with
 | false=>simp
 | true =>
   obtain ⟨m,hm⟩:=hit_at hh;have hil:=(List.getElem?_eq_some_iff.1 hm).1
   have hd:(ndA A at_).pairs.drop (spotOf (ndA A at_).pairs frm)=(frm,m) :: (ndA A at_).pairs.drop (spotOf (ndA A at_).pairs frm+1):=by
    rw [List.drop_eq_getElem_cons hil,(List.getElem?_eq_some_iff.1 hm).2]
   have hmem:(frm,m)∈rwv (trav A d) ((ndA A at_).pairs.drop (spotOf (ndA A at_).pairs frm)) ((ndA A at_).kids.drop (spotOf (ndA A at_).pairs frm+1)):=by
    rw [hd]
    cases hK:(ndA A at_).kids.drop (spotOf (ndA A at_).pairs frm+1) with
    | nil=>rw [hd,hK] at h2;simp at h2
    | cons c K=>simp [rwv]
   have:fromT (trav A d k) frm = []:=zgz fun q hq=>hs.cross q (List.mem_append_right _ hq) (frm,m) hmem;rw [this];simp
theorem zrm {A:Arr} {at_:Nat} {frm:ByteArray} (hs:Sorted (trav A 0 at_)):fromT (trav A 0 at_) frm=(ndA A at_).pairs.drop (spotOf (ndA A at_).pairs frm):=(zdm _ hs frm).symm
open Go Go.Proofs Go.RowKit
set_option maxRecDepth 100000
def nat1 (n:Nat):List Value:=[.int .i64 n]
theorem zag (n:Nat):(nat1 n).length=1:=rfl
structure Nz where
 nd:Nd
 pv:Value
 kv:Value
def nzC (z:Nz):List Value:=[z.pv,z.kv]
theorem zbq (z:Nz):(nzC z).length=2:=rfl
def zown (z:Nz) (b:Nat):Prop:=z.pv.ownBlock=some b\/z.kv.ownBlock=some b
theorem SlF.mapped {α β:Type} {f:β->List Value} {g:α->β} {h:α->List Value} {w:World} {e sz:Nat} {v:Value} {L:List α} (hg:∀ x,f (g x)=h x) (hs:SlF w e sz h v L):SlF w e sz f v (L.map g):=by
 have e1:(L.map g).flatMap f=L.flatMap h:=by
  rw [List.flatMap_map];exact zca _ fun x _=>hg x
 unfold SlF at hs ⊢
 rw [List.length_map,e1];exact hs
structure TreeR (w:World) (t:Nat) (nv fv:Value) (Z:List Nz) (fr:List Nat) (root:Nat) (many:Int):Prop where
 obj:Has w t [nv,fv,.int .i64 root,.int .i64 many]
 nodes:SlF w 231 2 nzC nv Z
 free:SlF w 3 1 nat1 fv fr
 pairs:∀ (i:Nat) z,Z[i]? = some z->SlF w 122 2 pairC z.pv z.nd.pairs
 kids:∀ (i:Nat) z,Z[i]? = some z->SlF w 3 1 nat1 z.kv z.nd.kids
 a1:nv.ownBlock≠some t/\fv.ownBlock≠some t/\∀ b,nv.ownBlock=some b->fv.ownBlock≠some b
 a2:∀ (i:Nat) z b,Z[i]? = some z->zown z b->b≠t/\nv.ownBlock≠some b/\fv.ownBlock≠some b
 a3:∀ (i:Nat) z b,Z[i]? = some z->z.pv.ownBlock=some b->z.kv.ownBlock≠some b
 a4:∀ (i j:Nat) z y b,Z[i]? = some z->Z[j]? = some y->zown z b->zown y b->i=j
def treeF (t:Nat) (nv fv:Value) (Z:List Nz) (b:Nat):Prop:=b=t\/nv.ownBlock=some b\/fv.ownBlock=some b\/∃ (i:Nat) (z:Nz),Z[i]? = some z/\zown z b
section
variable {w w':World} {t:Nat} {nv fv:Value} {Z:List Nz} {fl:List Nat} {root:Nat} {many:Int}
theorem TreeR.zlt (h:TreeR w t nv fv Z fl root many) {i:Nat} {z:Nz} {b:Nat} (hz:Z[i]? = some z) (hb:zown z b):b < w.heap.size:=by
 rcases hb with hb | hb
 · exact (h.pairs i z hz).lt b hb
 exact (h.kids i z hz).lt b hb
theorem TreeR.lt (h:TreeR w t nv fv Z fl root many):∀ b,treeF t nv fv Z b->b < w.heap.size:=by
 rintro b (rfl | e | e | ⟨i,z,hz,hb⟩)
 · exact h.obj.lt
 · exact h.nodes.lt b e
 · exact h.free.lt b e
 exact h.zlt hz hb
theorem TreeR.fr {S:Nat->Prop} (h:TreeR w t nv fv Z fl root many) (hf:Fr S w w') (hn:∀ b,treeF t nv fv Z b->¬ S b):TreeR w' t nv fv Z fl root many where
 obj:=h.obj.fr hf (hn t (.inl rfl))
 nodes:=h.nodes.fr hf fun b hb=>hn b (.inr (.inl hb))
 free:=h.free.fr hf fun b hb=>hn b (.inr (.inr (.inl hb)))
 pairs i z hz:=(h.pairs i z hz).fr hf fun b hb=>hn b (.inr (.inr (.inr ⟨i,z,hz,.inl hb⟩)))
 kids i z hz:=(h.kids i z hz).fr hf fun b hb=>hn b (.inr (.inr (.inr ⟨i,z,hz,.inr hb⟩)))
 a1:=h.a1
 a2:=h.a2
 a3:=h.a3
 a4:=h.a4
theorem TreeR.fr0 (h:TreeR w t nv fv Z fl root many) (hf:Fr No w w'):TreeR w' t nv fv Z fl root many:=h.fr hf fun _ _ s=>s
theorem zet {Z:List Nz} {i j:Nat} {z' y:Nz} (h:(Z.set i z')[j]? = some y):(j=i/\y=z'/\i < Z.length)\/(j≠i/\Z[j]? = some y):=by
 rw [List.getElem?_set] at h;by_cases e:i=j
 · subst e
   rw [if_pos rfl] at h
   split at h
   · cases h;exact .inl ⟨rfl,rfl,by assumption⟩
   cases h
 rw [if_neg e] at h
 exact .inr ⟨Ne.symm e,h⟩
theorem TreeR.setNode {S:Nat->Prop} (h:TreeR w t nv fv Z fl root many) (i:Nat) (z z':Nz) (hz:Z[i]? = some z) (hf:Fr S w w') (hS:∀ b,S b->nv.ownBlock=some b\/zown z b)
 (hn:SlF w' 231 2 nzC nv (Z.set i z')) (hp:SlF w' 122 2 pairC z'.pv z'.nd.pairs) (hk:SlF w' 3 1 nat1 z'.kv z'.nd.kids) (hown:∀ b,zown z' b->zown z b\/w.heap.size<=b)
 (hpk:∀ b,z'.pv.ownBlock=some b->z'.kv.ownBlock≠some b):TreeR w' t nv fv (Z.set i z') fl root many where
 obj:=h.obj.fr hf fun s=>by
  rcases hS t s with e | e
  · exact h.a1.1 e
  exact (h.a2 i z t hz e).1 rfl
 nodes:=hn
 free:=h.free.fr hf fun b hb s=>by
  rcases hS b s with e | e
  · exact h.a1.2.2 b e hb
  exact (h.a2 i z b hz e).2.2 hb
 pairs j y hy:=by
  rcases zet hy with ⟨_,rfl,_⟩ | ⟨hj,hy⟩
  · exact hp
  refine (h.pairs j y hy).fr hf fun b hb s=>?_
  rcases hS b s with e | e
  · exact (h.a2 j y b hy (.inl hb)).2.1 e
  exact hj (h.a4 j i y z b hy hz (.inl hb) e)
 kids j y hy:=by
  rcases zet hy with ⟨_,rfl,_⟩ | ⟨hj,hy⟩
  · exact hk
  refine (h.kids j y hy).fr hf fun b hb s=>?_
  rcases hS b s with e | e
  · exact (h.a2 j y b hy (.inr hb)).2.1 e
  exact hj (h.a4 j i y z b hy hz (.inr hb) e)
 a1:=h.a1
 a2 j y b hy hb:=by
  rcases zet hy with ⟨_,rfl,_⟩ | ⟨hj,hy⟩
  · rcases hown b hb with e | e
    · exact h.a2 i z b hz e
    refine ⟨fun e'=>?_,fun e'=>?_,fun e'=>?_⟩
    · have:=h.obj.lt;omega
    · have:=h.nodes.lt b e';omega
    have:=h.free.lt b e';omega
  exact h.a2 j y b hy hb
 a3 j y b hy hb:=by
  rcases zet hy with ⟨_,rfl,_⟩ | ⟨hj,hy⟩
  · exact hpk b hb
  exact h.a3 j y b hy hb
 a4 j k y x b hy hx h1 h2:=by
  rcases zet hy with ⟨ej,ey,_⟩ | ⟨hj,hy2⟩
  · rcases zet hx with ⟨ek,ex,_⟩ | ⟨hk',hx2⟩
    · omega
    rw [ey] at h1
    rcases hown b h1 with e | e
    · rw [ej];exact h.a4 _ k z x b hz hx2 e h2
    have:=h.zlt hx2 h2;omega
  rcases zet hx with ⟨ek,ex,_⟩ | ⟨hk',hx2⟩
  · rw [ex] at h2
    rcases hown b h2 with e | e
    · rw [ek];exact h.a4 j _ y z b hy2 hz h1 e
    have:=h.zlt hy2 h1;omega
  exact h.a4 j k y x b hy2 hx2 h1 h2
theorem zbe {i:Nat} {z z':Nz} {B:Nat} (hz:Z[i]? = some z) (hown:∀ b,zown z' b->zown z b\/B<=b):∀ b,treeF t nv fv (Z.set i z') b->treeF t nv fv Z b\/B<=b:=by
 rintro b (e | e | e | ⟨j,y,hy,hb⟩)
 · exact .inl (.inl e)
 · exact .inl (.inr (.inl e))
 · exact .inl (.inr (.inr (.inl e)))
 rcases zet hy with ⟨_,rfl,_⟩ | ⟨_,hy⟩
 · rcases hown b hb with e | e
   · exact .inl (.inr (.inr (.inr ⟨i,z,hz,e⟩)))
   exact .inr e
 exact .inl (.inr (.inr (.inr ⟨j,y,hy,hb⟩)))
theorem TreeR.setPairs {w1:World} {nb no ncap:Nat} {pv':Value} {P':Pairs} (h:TreeR w t (.slice (some ⟨nb,no,none⟩) Z.length ncap) fv Z fl root many) (i:Nat) (z:Nz) (hz:Z[i]? = some z)
 (hf:Fr (fun b=>z.pv.ownBlock=some b) w w1) (hs:SlF w1 122 2 pairC pv' P') (hown:∀ b,pv'.ownBlock=some b->z.pv.ownBlock=some b\/w.heap.size<=b) :
 TreeR (w1.setCell ⟨nb,no+i * 2,none⟩ pv') t (.slice (some ⟨nb,no,none⟩) Z.length ncap) fv (Z.set i ⟨⟨P',z.nd.kids⟩,pv',z.kv⟩) fl root many ∧
  Fr (fun b=>b=nb\/z.pv.ownBlock=some b) w (w1.setCell ⟨nb,no+i * 2,none⟩ pv')/\(∀ b,zown ⟨⟨P',z.nd.kids⟩,pv',z.kv⟩ b->zown z b\/w.heap.size<=b):=by
 have hnl:=h.nodes.lt nb rfl;have hne:∀ b,zown z b->b≠nb:=fun b hb e=>(h.a2 i z b hz hb).2.1 (by rw [e];rfl)
 have hne':∀ b,pv'.ownBlock=some b->b≠nb:=fun b hb=>by
  rcases hown b hb with e | e
  · exact hne b (.inl e)
  omega
 have hzo:∀ b,zown ⟨⟨P',z.nd.kids⟩,pv',z.kv⟩ b->zown z b\/w.heap.size<=b:=by
  rintro b (e | e)
  · rcases hown b e with e | e
    · exact .inl (.inl e)
    exact .inr e
  exact .inl (.inr e)
 have hF:Fr (fun b=>b=nb\/z.pv.ownBlock=some b) w (w1.setCell ⟨nb,no+i * 2,none⟩ pv'):=(hf.mono fun b _ e=>.inr e).setCell (.inl (.inl rfl)) _;refine ⟨h.setNode i z _ hz hF (fun b e=>?_) ?_ (hs.other _ _ fun e=>hne' nb e rfl) ?_ hzo fun b e e'=>?_,hF,hzo⟩
 · rcases e with e | e
   · left;rw [e];rfl
   exact .inr (.inl e)
 · have h1:=h.nodes.fr hf fun b hb e=>(h.a2 i z b hz (.inl e)).2.1 hb
   have h2:=SlF.set zbq h1 i 0 (by omega) z ⟨⟨P',z.nd.kids⟩,pv',z.kv⟩ pv' hz rfl;rw [Nat.add_zero] at h2;unfold SlF at h2 ⊢
   rw [List.length_set] at h2 ⊢
   exact h2
 · exact ((h.kids i z hz).fr hf fun b hb e=>h.a3 i z b hz e hb).other _ _ fun e=>hne nb (.inr e) rfl
 rcases hown b e with e1 | e1
 · exact h.a3 i z b hz e1 e'
 have:=h.zlt hz (.inr e');omega
theorem TreeR.setKids {w1:World} {nb no ncap:Nat} {kv':Value} {K':List Nat} (h:TreeR w t (.slice (some ⟨nb,no,none⟩) Z.length ncap) fv Z fl root many) (i:Nat) (z:Nz) (hz:Z[i]? = some z)
 (hf:Fr (fun b=>z.kv.ownBlock=some b) w w1) (hs:SlF w1 3 1 nat1 kv' K') (hown:∀ b,kv'.ownBlock=some b->z.kv.ownBlock=some b\/w.heap.size<=b) :
 TreeR (w1.setCell ⟨nb,no+i * 2+1,none⟩ kv') t (.slice (some ⟨nb,no,none⟩) Z.length ncap) fv (Z.set i ⟨⟨z.nd.pairs,K'⟩,z.pv,kv'⟩) fl root many ∧
  Fr (fun b=>b=nb\/z.kv.ownBlock=some b) w (w1.setCell ⟨nb,no+i * 2+1,none⟩ kv')/\(∀ b,zown ⟨⟨z.nd.pairs,K'⟩,z.pv,kv'⟩ b->zown z b\/w.heap.size<=b):=by
 have hnl:=h.nodes.lt nb rfl;have hne:∀ b,zown z b->b≠nb:=fun b hb e=>(h.a2 i z b hz hb).2.1 (by rw [e];rfl)
 have hne':∀ b,kv'.ownBlock=some b->b≠nb:=fun b hb=>by
  rcases hown b hb with e | e
  · exact hne b (.inr e)
  omega
 have hzo:∀ b,zown ⟨⟨z.nd.pairs,K'⟩,z.pv,kv'⟩ b->zown z b\/w.heap.size<=b:=by
  rintro b (e | e)
  · exact .inl (.inl e)
  rcases hown b e with e | e
  · exact .inl (.inr e)
  exact .inr e
 have hF:Fr (fun b=>b=nb\/z.kv.ownBlock=some b) w (w1.setCell ⟨nb,no+i * 2+1,none⟩ kv'):=(hf.mono fun b _ e=>.inr e).setCell (.inl (.inl rfl)) _;refine ⟨h.setNode i z _ hz hF (fun b e=>?_) ?_ ?_ (hs.other _ _ fun e=>hne' nb e rfl) hzo fun b e e'=>?_,hF,hzo⟩
 · rcases e with e | e
   · left;rw [e];rfl
   exact .inr (.inr e)
 · have h1:=h.nodes.fr hf fun b hb e=>(h.a2 i z b hz (.inr e)).2.1 hb
   have h2:=SlF.set zbq h1 i 1 (by omega) z ⟨⟨z.nd.pairs,K'⟩,z.pv,kv'⟩ kv' hz rfl;unfold SlF at h2 ⊢
   rw [List.length_set] at h2 ⊢
   exact h2
 · exact ((h.pairs i z hz).fr hf fun b hb e=>h.a3 i z b hz hb e).other _ _ fun e=>hne nb (.inl e) rfl
 rcases hown b e' with e1 | e1
 · exact h.a3 i z b hz e e1
 have:=h.zlt hz (.inl e);omega
theorem TreeR.setPair {w1:World} {pb po pcap:Nat} {P':Pairs} (h:TreeR w t nv fv Z fl root many) (i:Nat) (z:Nz) (hz:Z[i]? = some z) (hpv:z.pv = .slice (some ⟨pb,po,none⟩) z.nd.pairs.length pcap)
 (hf:Fr (fun b=>b=pb) w w1) (hs:SlF w1 122 2 pairC z.pv P'):TreeR w1 t nv fv (Z.set i ⟨⟨P',z.nd.kids⟩,z.pv,z.kv⟩) fl root many:=by
 have hb0:z.pv.ownBlock=some pb:=by rw [hpv];rfl
 refine h.setNode i z _ hz hf (fun b e=>.inr (.inl (by rw [e];exact hb0))) ?_ hs ?_ (fun b e=>.inl e) (h.a3 i z · hz)
 · have h1:=h.nodes.fr hf fun b hb (e:b=pb)=>(h.a2 i z pb hz (.inl hb0)).2.1 (e ▸ hb)
   unfold SlF at h1 ⊢
   have e1:(Z.set i ⟨⟨P',z.nd.kids⟩,z.pv,z.kv⟩).flatMap nzC=Z.flatMap nzC:=by
    have hi:=(List.getElem?_eq_some_iff.1 hz).1;have:=zpo zbq Z i 0 (by omega) z ⟨⟨P',z.nd.kids⟩,z.pv,z.kv⟩ z.pv hz rfl;rw [<-this];apply List.ext_getElem?;intro j;rw [List.getElem?_set]
    split
    · rename_i e
      subst e;have h3:=zpp zbq Z i 0 (by omega);rw [hz] at h3;have hl:=zao zbq Z;have:(i+1) * 2<=Z.length * 2:=Nat.mul_le_mul_right _ hi;rw [if_pos (by omega),h3]
      rfl
    rfl
   rw [List.length_set,e1];exact h1
 exact (h.kids i z hz).fr hf fun b hb (e:b=pb)=>h.a3 i z pb hz hb0 (e ▸ hb)
theorem TreeR.setObj (h:TreeR w t nv fv Z fl root many) (hf:Fr (fun b=>b=t) w w') (root':Nat) (many':Int) (ho:Has w' t [nv,fv,.int .i64 root',.int .i64 many']):TreeR w' t nv fv Z fl root' many' where
 obj:=ho
 nodes:=h.nodes.fr hf fun _b hb e=>h.a1.1 (e ▸ hb)
 free:=h.free.fr hf fun _b hb e=>h.a1.2.1 (e ▸ hb)
 pairs i z hz:=(h.pairs i z hz).fr hf fun b hb e=>(h.a2 i z b hz (.inl hb)).1 e
 kids i z hz:=(h.kids i z hz).fr hf fun b hb e=>(h.a2 i z b hz (.inr hb)).1 e
 a1:=h.a1
 a2:=h.a2
 a3:=h.a3
 a4:=h.a4
theorem TreeR.setFree {w1:World} {fv':Value} {fl':List Nat} (h:TreeR w t nv fv Z fl root many) (hf:Fr (fun b=>fv.ownBlock=some b) w w1) (hs:SlF w1 3 1 nat1 fv' fl') (hown:∀ b,fv'.ownBlock=some b->fv.ownBlock=some b\/w.heap.size<=b) :
 TreeR (w1.setCell ⟨t,1,none⟩ fv') t nv fv' Z fl' root many/\Fr (fun b=>b=t\/fv.ownBlock=some b) w (w1.setCell ⟨t,1,none⟩ fv')/\(∀ b,treeF t nv fv' Z b->treeF t nv fv Z b\/w.heap.size<=b):=by
 have htl:=h.obj.lt;have hF:Fr (fun b=>b=t\/fv.ownBlock=some b) w (w1.setCell ⟨t,1,none⟩ fv'):=(hf.mono fun b _ e=>.inr e).setCell (.inl (.inl rfl)) _
 have hne':∀ b,fv'.ownBlock=some b->b≠t/\nv.ownBlock≠some b/\∀ (i:Nat) z,Z[i]? = some z->¬ zown z b:=by
  intro b hb;rcases hown b hb with e | e
  · exact ⟨fun e'=>h.a1.2.1 (e' ▸ e),fun e'=>h.a1.2.2 b e' e,fun i z hz hz'=>(h.a2 i z b hz hz').2.2 e⟩
  exact ⟨by omega,fun e'=>by have:=h.nodes.lt b e';omega,fun i z hz hz'=>by have:=h.zlt hz hz';omega⟩
 refine ⟨⟨?_,?_,hs.other _ _ fun e=>(hne' t e).1 rfl,fun i z hz=>?_,fun i z hz=>?_,⟨h.a1.1,fun e=>(hne' t e).1 rfl,fun b e e'=>(hne' b e').2.1 e⟩,fun i z b hz hb=>?_,h.a3,h.a4⟩,hF,?_⟩
 · exact (h.obj.fr hf h.a1.2.1).set 1 fv'
 · exact h.nodes.fr hF fun b hb e=>by
    rcases e with e | e
    · exact h.a1.1 (e ▸ hb)
    exact h.a1.2.2 b hb e
 · exact (h.pairs i z hz).fr hF fun b hb e=>by
    rcases e with e | e
    · exact (h.a2 i z b hz (.inl hb)).1 e
    exact (h.a2 i z b hz (.inl hb)).2.2 e
 · exact (h.kids i z hz).fr hF fun b hb e=>by
    rcases e with e | e
    · exact (h.a2 i z b hz (.inr hb)).1 e
    exact (h.a2 i z b hz (.inr hb)).2.2 e
 · exact ⟨(h.a2 i z b hz hb).1,(h.a2 i z b hz hb).2.1,fun e=>(hne' b e).2.2 i z hz hb⟩
 rintro b (e | e | e | e)
 · exact .inl (.inl e)
 · exact .inl (.inr (.inl e))
 · rcases hown b e with e | e
   · exact .inl (.inr (.inr (.inl e)))
   exact .inr e
 exact .inl (.inr (.inr (.inr e)))
theorem TreeR.snoc {w1:World} {nv':Value} (h:TreeR w t nv fv Z fl root many) (hf:Fr (fun b=>nv.ownBlock=some b) w w1) (hs:SlF w1 231 2 nzC nv' (Z++[⟨nd0,.slice none 0 0,.slice none 0 0⟩]))
 (hown:∀ b,nv'.ownBlock=some b->nv.ownBlock=some b\/w.heap.size<=b) :
 TreeR (w1.setCell ⟨t,0,none⟩ nv') t nv' fv (Z++[⟨nd0,.slice none 0 0,.slice none 0 0⟩]) fl root many/\Fr (fun b=>b=t\/nv.ownBlock=some b) w (w1.setCell ⟨t,0,none⟩ nv') ∧
  (∀ b,treeF t nv' fv (Z++[⟨nd0,.slice none 0 0,.slice none 0 0⟩]) b->treeF t nv fv Z b\/w.heap.size<=b):=by
 have htl:=h.obj.lt;have hF:Fr (fun b=>b=t\/nv.ownBlock=some b) w (w1.setCell ⟨t,0,none⟩ nv'):=(hf.mono fun b _ e=>.inr e).setCell (.inl (.inl rfl)) _
 have hne':∀ b,nv'.ownBlock=some b->b≠t/\fv.ownBlock≠some b/\∀ (i:Nat) z,Z[i]? = some z->¬ zown z b:=by
  intro b hb;rcases hown b hb with e | e
  · exact ⟨fun e'=>h.a1.1 (e' ▸ e),h.a1.2.2 b e,fun i z hz hz'=>(h.a2 i z b hz hz').2.1 e⟩
  exact ⟨by omega,fun e'=>by have:=h.free.lt b e';omega,fun i z hz hz'=>by have:=h.zlt hz hz';omega⟩
 have hcase:∀ (i:Nat) z,(Z++[⟨nd0,.slice none 0 0,.slice none 0 0⟩])[i]? = some z->Z[i]? = some z\/z=⟨nd0,.slice none 0 0,.slice none 0 0⟩:=by
  intro i z hz;rcases Nat.lt_or_ge i Z.length with hi | hi
  · rw [List.getElem?_append_left hi] at hz;exact .inl hz
  rw [List.getElem?_append_right hi] at hz
  right
  have:=List.mem_of_getElem? hz;simpa using this
 have hnil:∀ b,¬ zown ⟨nd0,.slice none 0 0,.slice none 0 0⟩ b:=by
  rintro b (e | e) <;> simp [Value.ownBlock] at e
 refine ⟨⟨?_,hs.other _ _ fun e=>(hne' t e).1 rfl,?_,fun i z hz=>?_,fun i z hz=>?_,⟨fun e=>(hne' t e).1 rfl,h.a1.2.1,fun b e=>(hne' b e).2.1⟩,fun i z b hz hb=>?_,fun i z b hz hb=>?_,fun i j z y b hz hy h1 h2=>?_⟩,hF,?_⟩
 · exact (h.obj.fr hf h.a1.1).set 0 nv'
 · exact h.free.fr hF fun b hb e=>by
    rcases e with e | e
    · exact h.a1.2.1 (e ▸ hb)
    exact h.a1.2.2 b e hb
 · rcases hcase i z hz with hz | rfl
   · exact (h.pairs i z hz).fr hF fun b hb e=>by
      rcases e with e | e
      · exact (h.a2 i z b hz (.inl hb)).1 e
      exact (h.a2 i z b hz (.inl hb)).2.1 e
   exact SlF.nil _ _ _ _
 · rcases hcase i z hz with hz | rfl
   · exact (h.kids i z hz).fr hF fun b hb e=>by
      rcases e with e | e
      · exact (h.a2 i z b hz (.inr hb)).1 e
      exact (h.a2 i z b hz (.inr hb)).2.1 e
   exact SlF.nil _ _ _ _
 · rcases hcase i z hz with hz | rfl
   · exact ⟨(h.a2 i z b hz hb).1,fun e=>(hne' b e).2.2 i z hz hb,(h.a2 i z b hz hb).2.2⟩
   exact absurd hb (hnil b)
 · rcases hcase i z hz with hz | rfl
   · exact h.a3 i z b hz hb
   simp [Value.ownBlock] at hb
 · rcases hcase i z hz with hz | rfl
   · rcases hcase j y hy with hy | rfl
     · exact h.a4 i j z y b hz hy h1 h2
     exact absurd h2 (hnil b)
   exact absurd h1 (hnil b)
 rintro b (e | e | e | ⟨i,z,hz,hb⟩)
 · exact .inl (.inl e)
 · rcases hown b e with e | e
   · exact .inl (.inr (.inl e))
   exact .inr e
 · exact .inl (.inr (.inr (.inl e)))
 rcases hcase i z hz with hz | rfl
 · exact .inl (.inr (.inr (.inr ⟨i,z,hz,hb⟩)))
 exact absurd hb (hnil b)
end
def ndsZ (Z:List Nz):Arr:=Z.map (·.nd)
theorem zng {Z:List Nz} {i:Nat} {z:Nz} (h:Z[i]? = some z):ndA (ndsZ Z) i=z.nd:=by unfold ndA ndsZ;rw [List.getElem?_map,h];rfl
theorem zav (Z:List Nz):(ndsZ Z).length=Z.length:=by unfold ndsZ;simp
theorem zax (Z:List Nz) (i:Nat) (z:Nz):ndsZ (Z.set i z)=(ndsZ Z).set i z.nd:=by unfold ndsZ;rw [List.map_set]
theorem zcm {Z:List Nz} {i:Nat} (h:i < (ndsZ Z).length):∃ z,Z[i]? = some z/\ndA (ndsZ Z) i=z.nd:=by
 rw [zav] at h;exact ⟨Z[i],List.getElem?_eq_getElem h,zng (List.getElem?_eq_getElem h)⟩
def TreeZ (w:World) (t:Nat) (A:Arr) (fr:List Nat) (root:Nat) (many:Int) (F:Nat->Prop):Prop :=
 ∃ nv fv Z,TreeR w t nv fv Z fr root many/\ndsZ Z=A/\∀ b,F b ↔ treeF t nv fv Z b
theorem TreeZ.lt {w:World} {t:Nat} {A:Arr} {fr:List Nat} {root:Nat} {many:Int} {F:Nat->Prop} (h:TreeZ w t A fr root many F):∀ b,F b->b < w.heap.size:=by
 obtain ⟨nv,fv,Z,h,_,hF⟩:=h;exact fun b hb=>h.lt b ((hF b).1 hb)
theorem TreeZ.fr {w w':World} {t:Nat} {A:Arr} {fr:List Nat} {root:Nat} {many:Int} {F S:Nat->Prop} (h:TreeZ w t A fr root many F) (hf:Fr S w w') (hn:∀ b,F b->¬ S b):TreeZ w' t A fr root many F:=by
 obtain ⟨nv,fv,Z,h,h2,hF⟩:=h;exact ⟨nv,fv,Z,h.fr hf fun b hb=>hn b ((hF b).2 hb),h2,hF⟩
theorem TreeZ.fr0 {w w':World} {t:Nat} {A:Arr} {fr:List Nat} {root:Nat} {many:Int} {F:Nat->Prop} (h:TreeZ w t A fr root many F) (hf:Fr No w w'):TreeZ w' t A fr root many F:=h.fr hf fun _ _ s=>s
end Go.Proofs.YthljnnjpmdgkoaaGreat