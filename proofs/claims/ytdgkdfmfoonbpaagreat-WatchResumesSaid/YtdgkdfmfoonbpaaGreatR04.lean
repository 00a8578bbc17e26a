/- Own lemmas. -/
import Derived.Test.YtdgkdfmfoonbpaaGreatR03
import Derived.Test.YtdgkdfmfoonbpaaGreatR01
namespace Go.Proofs.YtdgkdfmfoonbpaaGreat
open Go Go.RowKit
structure GoodD (A:Arr) (fr:List Nat) (root D:Nat) (T:Pairs):Prop where
 pt:Pt A fr D root
 hi:(ndA A root).pairs.length<=9
 lo:D=0\/1<=(ndA A root).pairs.length
 trav:trav A D root=T
 sorted:Sorted T
 cover:(own A D root).length+fr.length=A.length
def GoodT (A:Arr) (fr:List Nat) (root:Nat) (T:Pairs):Prop:=∃ D,GoodD A fr root D T
theorem zla (f:Nat->Pairs) (g:Nat->Nat):∀ (K:List Nat) (P:Pairs),K.length=P.length+1->(∀ k∈K,g k<=(f k).length)->(K.map g).sum+P.length<=(weave f K P).length
 | [],_,h,_=>by simp at h
 | [k],[],_,h=>by simp [weave];exact h k (by simp)
 | _ :: _ :: _,[],h,_=>by simp at h
 | k :: K,p :: P,h,hf=>by
   have ih:=zla f g K P (by simpa using h) fun c hc=>hf c (by simp [hc]);have:=hf k (by simp);simp only [weave,List.map_cons,List.sum_cons,List.length_cons,List.length_append];omega
theorem zov {A:Arr}:∀ (d:Nat) (nd:Nd),nWf A d nd->(nidx A d nd).length+nd.pairs.length<=(ntrav A d nd).length
 | 0,nd,_=>by simp [nidx,ntrav]
 | d+1,nd,h=>by
   have h1:∀ k∈nd.kids,(nidx A d (ndA A k)).length+1<=(ntrav A d (ndA A k)).length:=by
    intro k c;obtain ⟨_,f,_,e⟩:=h.2 k c;have:=zov d _ e;omega
   have a:=zla (fun k=>ntrav A d (ndA A k)) (fun k=>(nidx A d (ndA A k)).length+1) nd.kids nd.pairs h.1 h1
   have b:(nidx A (d+1) nd).length=(nd.kids.map fun k=>(nidx A d (ndA A k)).length+1).sum:=by
    simp only [nidx,List.length_flatMap,List.length_cons]
   rw [b];exact a
theorem GoodD.len {A:Arr} {fr:List Nat} {root D:Nat} {T:Pairs} (h:GoodD A fr root D T):(own A D root).length<=T.length+1:=by
 have:=zov D _ h.pt.wf;have a:(ntrav A D (ndA A root)).length=T.length:=by rw [<-h.trav];rfl
 unfold own;simp only [List.length_cons];omega
theorem zvg:GoodT [nd0] [] 0 []:=by
 refine ⟨0,⟨by simp,rfl,fun x=>?_,by simp⟩,by simp [ndA,nd0],.inl rfl,rfl,List.Pairwise.nil,by simp [own,nidx]⟩;simp [own,nidx,List.count_cons]
 split <;> omega
/-! A full root is put below a new one. -/
def topA (A:Arr) (fr:List Nat) (root:Nat):Arr:=(takeA A fr).set (takeI A fr) ⟨[],[root]⟩
theorem top_ok {A:Arr} {fr:List Nat} {root D:Nat} {T:Pairs} (h:GoodD A fr root D T) (h9:(ndA A root).pairs.length=9) :
 Pt (topA A fr root) fr.dropLast (D+1) (takeI A fr)/\ndA (topA A fr root) (takeI A fr)=⟨[],[root]⟩/\ndA (topA A fr root) root=ndA A root/\trav (topA A fr root) (D+1) (takeI A fr)=T ∧
  (own (topA A fr root) (D+1) (takeI A fr)).length+fr.dropLast.length=(topA A fr root).length/\(topA A fr root).length=(takeA A fr).length:=by
 have g:=took h.pt.free;have r:ndA (topA A fr root) (takeI A fr)=⟨[],[root]⟩:=zap _ g.lt;have v:(topA A fr root).length=(takeA A fr).length:=by unfold topA;simp
 have l:=own_lt h.pt
 have w:∀ j∈own A D root,j≠takeI A fr:=by
  intro j i e;have z:=h.pt.one j;have o:0<(own A D root).count j:=List.count_pos_iff.2 i;have q:=g.cnt j (l j i);rw [if_pos e.symm] at q;omega
 have a:∀ j,j<A.length->j≠takeI A fr->ndA (topA A fr root) j=ndA A j:=by
  intro j i u;unfold topA;rw [zah _ (Ne.symm u),g.old j i]
 have E:=g.len;obtain ⟨s,y,B,C⟩:=zdj (A':=topA A fr root) (d:=D) (c:=root) (by omega) fun j i=>a j (l j i) (w j i)
 have b:own (topA A fr root) (D+1) (takeI A fr)=takeI A fr :: own A D root:=by
  unfold own at y ⊢
  rw [r];simp only [nidx,List.flatMap_cons,List.flatMap_nil,List.append_nil];rw [y]
 refine ⟨⟨by rw [v];exact g.lt,?_,fun x=>?_,fun f hf=>?_⟩,r,s,?_,?_,v⟩
 · rw [r]
   refine ⟨rfl,fun k hk=>?_⟩;obtain rfl:k=root:=by simpa using hk
   have:=h.pt.lt;exact ⟨by omega,by rw [s];omega,by rw [s];omega,C h.pt.wf⟩
 · rw [b]
   simp only [List.count_cons,beq_iff_eq];have z:=h.pt.one x;by_cases hx:x<A.length
   · have:=g.cnt x hx;omega
   have o:(own A D root).count x=0:=List.count_eq_zero.2 fun n=>hx (l x n)
   have q:fr.dropLast.count x=0:=List.count_eq_zero.2 fun n=>hx (h.pt.free x (List.dropLast_subset _ n)).1;rw [o,q]
   split <;> omega
 · have n:f∈fr:=List.dropLast_subset _ hf
   obtain ⟨m,t⟩:=h.pt.free f n;have z:=h.pt.one f;have o:=g.cnt f m;have q:0<fr.dropLast.count f:=List.count_pos_iff.2 hf;refine ⟨by omega,?_⟩;rw [a f m fun e=>by rw [if_pos e.symm] at o;omega];exact t
 · rw [<-h.trav,<-B]
   unfold trav;rw [r];simp [ntrav,weave]
 rw [b,v]
 have:=h.cover;have:=g.cover;simp only [List.length_cons];omega
def growA (A:Arr) (fr:List Nat) (root:Nat):Arr×List Nat×Nat :=
 if (ndA A root).pairs.length=9 then (splitA (topA A fr root) fr.dropLast (takeI A fr) 0,fr.dropLast.dropLast,takeI A fr) else (A,fr,root)
theorem zwk {A:Arr} {fr:List Nat} {root D:Nat} {T:Pairs} (h:GoodD A fr root D T):∃ D',GoodD (growA A fr root).1 (growA A fr root).2.1 (growA A fr root).2.2 D' T/\(ndA (growA A fr root).1 (growA A fr root).2.2).pairs.length<=8:=by
 by_cases h9:(ndA A root).pairs.length=9
 · obtain ⟨g,i,j,k,l,m⟩:=top_ok h h9
   obtain ⟨f,_,b,c,a,_⟩:=zoo (P1:=[]) (P2:=[]) (K1:=[]) (K2:=[]) g (by rw [i];rfl) rfl rfl (by rw [j];exact h9);have e:growA A fr root=(splitA (topA A fr root) fr.dropLast (takeI A fr) 0,fr.dropLast.dropLast,takeI A fr):=(by unfold growA;rw [if_pos h9]);rw [e];have d:=b.cover;dsimp only;simp only [List.length_nil] at b c a d;exact ⟨D+1,⟨b.pt,by rw [a];simp,.inr (by rw [a];simp),by rw [c,k],h.sorted,by omega⟩,by rw [a];simp⟩
 have e:growA A fr root=(A,fr,root):=by unfold growA;rw [if_neg h9]
 rw [e];exact ⟨D,h,by have:=h.hi;dsimp only;omega⟩
theorem zpe (key:ByteArray) (n:Int):∀ T:Pairs,Sorted T->(insT T key n).length=T.length+if (getT T key).2 then 0 else 1:=by
 intro T a;rw [zsy T a,zkk T a];have:=zbm T key;cases hitOf T key <;> simp <;> omega
theorem zjw (key:ByteArray) (n:Int):∀ (g:Nat) (A:Arr) (fr:List Nat) (at_:Nat),(setA g A fr at_ key n).1.length=A.length\/(setA g A fr at_ key n).2.1 = []
 | 0,A,fr,at_=>.inl rfl
 | g+1,A,fr,at_=>by
   unfold setA
   split
   · exact .inl (by simp)
   split
   · exact .inl (by simp)
   split
   · rcases zjw key n g (splitA A fr at_ (spotOf (ndA A at_).pairs key)) fr.dropLast at_ with e | e
     · by_cases hf:fr = []
       · right
         have:∀ (g:Nat) (A:Arr) (at_:Nat),(setA g A [] at_ key n).2.1 = []:=by
          intro g
          induction g with
          | zero=>intro A at_;rfl
          | succ g ih =>
            intro A at_;unfold setA
            split
            · rfl
            split
            · rfl
            split
            · exact ih _ _
            exact ih _ _
         rw [hf];exact this _ _ _
       left
       rw [e];unfold splitA takeA;rw [if_neg hf];simp
     exact .inr e
   exact zjw key n g A fr _
theorem zvz {A:Arr} {fr:List Nat} {root:Nat} {T:Pairs} (h:GoodT A fr root T) (key:ByteArray) (n:Int) (N:Nat) (hN:A.length<=N+2) (hT:T.length<N) :
 ∃ g,zgp g (growA A fr root).1 (growA A fr root).2.1 (growA A fr root).2.2 key/\(setA g (growA A fr root).1 (growA A fr root).2.1 (growA A fr root).2.2 key n).2.2 = !(getT T key).2 ∧
  GoodT (setA g (growA A fr root).1 (growA A fr root).2.1 (growA A fr root).2.2 key n).1 (setA g (growA A fr root).1 (growA A fr root).2.1 (growA A fr root).2.2 key n).2.1 (growA A fr root).2.2 (insT T key n) ∧
  (setA g (growA A fr root).1 (growA A fr root).2.1 (growA A fr root).2.2 key n).1.length<=N+2/\(growA A fr root).1.length<=N+2:=by
 obtain ⟨D,H⟩:=h
 have y:(growA A fr root).1.length=A.length\/(growA A fr root).2.1 = []:=by
  unfold growA
  split
  · by_cases h1:fr.dropLast = []
    · right
      show fr.dropLast.dropLast = []
      rw [h1];rfl
    left
    have F:fr≠[]:=fun e=>h1 (by rw [e];rfl);unfold splitA topA takeA;rw [if_neg h1,if_neg F];simp
  exact .inl rfl
 obtain ⟨d,c,G⟩:=zwk H;have I:=c.len;have k:=c.cover;generalize growA A fr root=r at *;obtain ⟨u,f,a⟩:=r;dsimp only at *;have j:=zmz key n d (2 * d+1) u f a (Nat.le_refl _) c.pt G (by rw [c.trav];exact c.sorted);have m:=zjw key n (2 * d+1) u f a;have i:=j.safe;have s:=j.step;have t:=j.trav;have K:=j.lo;have z:=j.hi;have o:=j.new;rw [c.trav] at t o;generalize L:setA (2 * d+1) u f a key n=q at *;obtain ⟨C,v,b⟩:=q;dsimp only at *;have x:=s.cover
 have l:GoodD C v a d (insT T key n):=⟨s.pt,z,by rcases c.lo with e | e
                                                 · exact .inl e
                                                 exact .inr (by omega),t,(zil T c.sorted key n).1,by omega⟩
 have J:=l.len;have B:=zpe key n T c.sorted
 have w:u.length<=N+2:=by
  rcases y with e | e
  · omega
  subst e;simp only [List.length_nil] at k;omega
 have E:(insT T key n).length<=T.length+1:=by rw [B];split <;> omega
 refine ⟨2 * d+1,i,?_⟩;rw [L];refine ⟨o,⟨d,l⟩,?_,w⟩;dsimp only;rcases m with e | e
 · omega
 subst e;simp only [List.length_nil] at x k;omega
/-! Delete, whole. -/
def zcn (A:Arr) (fr:List Nat) (root:Nat):Arr×List Nat×Nat :=
 if (ndA A root).pairs.length=0/\(ndA A root).kids≠[] then (A.set root nd0,fr++[root],kidA A root 0) else (A,fr,root)
theorem zvk (key:ByteArray) (T:Pairs) (hT:Sorted T) (h:(getT T key).2=true):(delT T key).length+1=T.length:=by
 have g:=zjo hT h;obtain ⟨m,d⟩:=hit_at g;have a:=(List.getElem?_eq_some_iff.1 d).1
 have e:T=T.take (spotOf T key)++(key,m) :: T.drop (spotOf T key+1):=by
  have:=List.take_append_drop (spotOf T key) T;rw [List.drop_eq_getElem_cons a,(List.getElem?_eq_some_iff.1 d).2] at this;exact this.symm
 have f:=zdu (T:=T) (key:=key);generalize spotOf T key=i at *;have b:Sorted (T.take i++(key,m) :: T.drop (i+1)):=by rw [<-e];exact hT
 have c:=zfj key m _ _ f fun q hq=>(List.pairwise_cons.1 b.right).1 q hq;rw [<-e] at c;rw [c];simp;omega
theorem zwq {A:Arr} {fr:List Nat} {root:Nat} {T:Pairs} (h:GoodT A fr root T) (key:ByteArray) (hk:(getT T key).2=true) :
 ∃ g,zeg g A fr root key/\(delA g A fr root key).1.length=A.length/\root<A.length/\(ndA (delA g A fr root key).1 root).pairs.length<=9/\((delA g A fr root key).2.length<=A.length) ∧
  ((ndA (delA g A fr root key).1 root).kids≠[]->(ndA (delA g A fr root key).1 root).kids[0]?=some (kidA (delA g A fr root key).1 root 0)) ∧
  GoodT (zcn (delA g A fr root key).1 (delA g A fr root key).2 root).1 (zcn (delA g A fr root key).1 (delA g A fr root key).2 root).2.1 (zcn (delA g A fr root key).1 (delA g A fr root key).2 root).2.2 (delT T key):=by
 obtain ⟨D,o⟩:=h;have y:=zir D (D+1) A fr root key (Nat.le_refl _) o.pt (by rw [o.trav];exact o.sorted) (by rw [o.trav];exact hk) o.lo o.hi (by have:=o.cover;omega)
 have C:∀ (g:Nat) (A:Arr) (fr:List Nat) (u:Nat) (key:ByteArray),(delA g A fr u key).1.length=A.length:=by
  intro g
  induction g with
  | zero=>intros;rfl
  | succ g ih =>
    intro A fr u key
    have t:∀ i,(fillA A fr u i).1.length=A.length:=by
     intro i;unfold fillA
     split
     · rfl
     split
     · simp [lendL]
     split
     · split
       · simp [lendR]
       simp [joinA]
     simp [joinA]
    unfold delA
    split
    · simp
    split
    · rw [ih,t]
    split
    · rw [ih];simp
    split
    · rw [ih];simp
    rw [ih];simp [joinA]
 have V:=C (D+1) A fr root key;have a:=y.step;have w:=y.trav;have z:=y.hi;have W:=y.lo;rw [o.trav] at w;refine ⟨D+1,y.safe,V,o.pt.lt,z,?_,?_,?_⟩
 · have:=a.cover;have:=o.cover;omega
 · intro v
   generalize (delA (D+1) A fr root key).1=b at *;unfold kidA
   cases s:(ndA b root).kids with
   | nil=>exact absurd s v
   | cons k K=>rfl
 generalize delA (D+1) A fr root key=r at *
 obtain ⟨b,n⟩:=r;dsimp only at *;have E:Sorted (delT T key):=o.sorted.filter _;have H:(own b D root).length+n.length=b.length:=(by have:=a.cover;have:=o.cover;omega);by_cases hs:(ndA b root).pairs.length=0/\(ndA b root).kids≠[]
 · have e:zcn b n root=(b.set root nd0,n++[root],kidA b root 0):=by unfold zcn;rw [if_pos hs]
   rw [e];dsimp only
   cases D with
   | zero=>exact absurd a.pt.wf hs.2
   | succ D =>
     have O:=a.pt.wf;have m:(ndA b root).kids.length=1:=(by have q:(ndA b root).kids.length=(ndA b root).pairs.length+1:=O.1;omega)
     obtain ⟨k,s⟩:∃ k,(ndA b root).kids = [k]:=by
      cases hq:(ndA b root).kids with
      | nil=>rw [hq] at m;simp at m
      | cons k K =>
        cases K with
        | nil=>exact ⟨k,rfl⟩
        | cons _ _=>rw [hq] at m;simp at m
     have M:(ndA b root).pairs = []:=List.eq_nil_of_length_eq_zero hs.1
     have N:ndA b root=⟨[]++[]++[],[]++[k]++[]⟩:=by
      show ndA b root=⟨[],[k]⟩
      rw [<-M,<-s]
     have J:kidA b root 0=k:=(by unfold kidA;rw [s];rfl);have B:k∈(ndA b root).kids:=(by rw [s];simp);obtain ⟨P,Y,Q,R⟩:=O.2 k B;have l:=zbr (d:=D) N;simp only [List.flatMap_nil,List.nil_append,List.append_nil,List.flatMap_cons] at l;have L:=a.pt.kid B;have X:=own_lt L
     have v:∀ j∈own b D k,j≠root:=by
      intro j I e;have q:=a.pt.one j;rw [l] at q;have G:0<(own b D k).count j:=List.count_pos_iff.2 I;rw [List.count_cons,e] at q;simp only [beq_self_eq_true,if_true] at q;rw [e] at G;omega
     obtain ⟨b1,b2,S,U⟩:=zdj (A':=b.set root nd0) (d:=D) (c:=k) (by simp) fun j I=>zah _ (Ne.symm (v j I));rw [J];refine ⟨D,⟨by simp;exact P,U R,fun x=>?_,fun f t=>?_⟩,by rw [b1];exact Q,.inr (by rw [b1];omega),?_,E,?_⟩
     · rw [b2]
       have q:=a.pt.one x;rw [l] at q;simp only [List.count_cons,List.count_append,List.count_nil] at q ⊢
       omega
     · rcases List.mem_append.1 t with t | t
       · have q:=a.pt.one f
         have G:0<n.count f:=List.count_pos_iff.2 t;rw [zah _ fun e=>by rw [<-e] at q G;rw [l] at q;simp only [List.count_cons,beq_self_eq_true,if_true] at q;omega];exact ⟨by simp;exact (a.pt.free f t).1,(a.pt.free f t).2⟩
       obtain rfl:f=root:=by simpa using t
       exact ⟨by simp;exact a.pt.lt,zap _ a.pt.lt⟩
     · rw [S,<-w]
       have:=zbb (d:=D) N rfl rfl rfl;rw [this];simp [lw,rwv,weave]
     rw [b2]
     rw [l] at H;simp only [List.length_cons,List.length_append,List.length_nil,List.length_set] at H ⊢
     omega
 have e:zcn b n root=(b,n,root):=by unfold zcn;rw [if_neg hs]
 rw [e];refine ⟨D,a.pt,z,?_,w,E,H⟩
 cases D with
 | zero=>exact .inl rfl
 | succ D =>
   right
   have m:(ndA b root).kids.length=(ndA b root).pairs.length+1:=a.pt.wf.1;rcases Nat.eq_zero_or_pos (ndA b root).pairs.length with F | F
   · exact absurd ⟨F,fun e=>by rw [e] at m;simp at m⟩ hs
   exact F
/-! The order in which a walk comes by. -/
def fromT (T:Pairs) (frm:ByteArray):Pairs:=T.filter fun p=>!klt p.1 frm
theorem zhb {T:Pairs} {frm:ByteArray} (h:∀ q∈T,klt q.1 frm=true):fromT T frm = []:=List.filter_eq_nil_iff.2 fun q hq=>by rw [h q hq];simp
theorem zey (T U:Pairs) (frm:ByteArray):fromT (T++U) frm=fromT T frm++fromT U frm:=List.filter_append _ _
theorem zpo {A:Arr} {d at_:Nat} {frm:ByteArray} (hw:nWf A (d+1) (ndA A at_)) (hs:Sorted (trav A (d+1) at_)) :
 fromT (trav A (d+1) at_) frm=(if hitOf (ndA A at_).pairs frm then [] else fromT (trav A d (kidA A at_ (spotOf (ndA A at_).pairs frm))) frm) ++
  rwv (fun k=>fromT (trav A d k) frm) ((ndA A at_).pairs.drop (spotOf (ndA A at_).pairs frm)) ((ndA A at_).kids.drop (spotOf (ndA A at_).pairs frm+1)):=by
 have C:(ndA A at_).kids.length=(ndA A at_).pairs.length+1:=hw.1;have z:=zbm (ndA A at_).pairs frm;have x:Sorted (ndA A at_).pairs:=hs.sub (zfx (d+1) _ hw);obtain ⟨k,r⟩:∃ k,(ndA A at_).kids[spotOf (ndA A at_).pairs frm]?=some k:=⟨_,List.getElem?_eq_getElem (by omega)⟩;have l:kidA A at_ (spotOf (ndA A at_).pairs frm)=k:=by unfold kidA;simp [List.getD,r]
 have y:ndA A at_=⟨(ndA A at_).pairs.take (spotOf (ndA A at_).pairs frm)++[]++(ndA A at_).pairs.drop (spotOf (ndA A at_).pairs frm),(ndA A at_).kids.take (spotOf (ndA A at_).pairs frm)++[k]++(ndA A at_).kids.drop (spotOf (ndA A at_).pairs frm+1)⟩:=by
  generalize ndA A at_=B at *;obtain ⟨P,K⟩:=B;dsimp only at *;generalize spotOf P frm=i at *
  have u:K.take i++[k]++K.drop (i+1)=K:=by
   have:=List.take_append_drop i K;rw [List.drop_eq_getElem_cons (by omega),(List.getElem?_eq_some_iff.1 r).2] at this;simpa using this
  rw [u];simp
 have v:((ndA A at_).kids.take (spotOf (ndA A at_).pairs frm)).length=((ndA A at_).pairs.take (spotOf (ndA A at_).pairs frm)).length:=by simp;omega
 have f:((ndA A at_).kids.drop (spotOf (ndA A at_).pairs frm+1)).length=((ndA A at_).pairs.drop (spotOf (ndA A at_).pairs frm)).length:=by simp;omega
 have t:=zbb (d:=d) y v f rfl;rw [t] at hs;have a:=zih _ _ hs.left.left (key:=frm) (zdu (T:=(ndA A at_).pairs) (key:=frm));rw [l,t,zey,zey,zhb a,List.nil_append];simp only [weave];simp only [weave] at hs
 have n:∀ (P:Pairs) (K:List Nat),Sorted (rwv (trav A d) P K)->(∀ p∈P,klt p.1 frm=false)->fromT (rwv (trav A d) P K) frm=rwv (fun k=>fromT (trav A d k) frm) P K:=by
  intro P
  induction P with
  | nil=>intro K _ _;simp [rwv,fromT]
  | cons p P ih =>
    intro K hs e
    cases K with
    | nil=>simp [rwv,fromT]
    | cons c K =>
      simp only [rwv] at hs ⊢
      have w:fromT (p :: (trav A d c++rwv (trav A d) P K)) frm=p :: fromT (trav A d c++rwv (trav A d) P K) frm:=by
       unfold fromT;rw [List.filter_cons,e p (by simp)]
       rfl
      rw [w,zey,ih K ((hs.sub (List.sublist_cons_self _ _)).right) fun q hq=>e q (by simp [hq])]
 have g:∀ p∈(ndA A at_).pairs.drop (spotOf (ndA A at_).pairs frm),klt p.1 frm=false:=by
  rw [zdm _ x];intro p e;simpa using (List.mem_filter.1 e).2
 rw [n _ _ hs.right g]
 cases hh:hitOf (ndA A at_).pairs frm with
 | false=>simp
 | true =>
   obtain ⟨m,s⟩:=hit_at hh;have j:=(List.getElem?_eq_some_iff.1 s).1
   have o:(ndA A at_).pairs.drop (spotOf (ndA A at_).pairs frm)=(frm,m) :: (ndA A at_).pairs.drop (spotOf (ndA A at_).pairs frm+1):=by
    rw [List.drop_eq_getElem_cons j,(List.getElem?_eq_some_iff.1 s).2]
   have b:(frm,m)∈rwv (trav A d) ((ndA A at_).pairs.drop (spotOf (ndA A at_).pairs frm)) ((ndA A at_).kids.drop (spotOf (ndA A at_).pairs frm+1)):=by
    rw [o]
    cases hK:(ndA A at_).kids.drop (spotOf (ndA A at_).pairs frm+1) with
    | nil=>rw [o,hK] at f;simp at f
    | cons c K=>simp [rwv]
   have:fromT (trav A d k) frm = []:=zhb fun q hq=>hs.cross q (List.mem_append_right _ hq) (frm,m) b;rw [this];simp
theorem zrk {A:Arr} {at_:Nat} {frm:ByteArray} (hs:Sorted (trav A 0 at_)):fromT (trav A 0 at_) frm=(ndA A at_).pairs.drop (spotOf (ndA A at_).pairs frm):=(zdm _ hs frm).symm
open Go Go.Proofs Go.RowKit
set_option maxRecDepth 100000
def nat1 (n:Nat):List Value:=[.int .i64 n]
theorem zag (n:Nat):(nat1 n).length=1:=rfl
structure Nz where
 nd:Nd
 pv:Value
 kv:Value
def nzC (z:Nz):List Value:=[z.pv,z.kv]
theorem zbo (z:Nz):(nzC z).length=2:=rfl
def zown (z:Nz) (b:Nat):Prop:=z.pv.ownBlock=some b\/z.kv.ownBlock=some b
theorem SlF.mapped {α β:Type} {f:β->List Value} {g:α->β} {h:α->List Value} {w:World} {e sz:Nat} {v:Value} {L:List α} (hg:∀ x,f (g x)=h x) (hs:SlF w e sz h v L):SlF w e sz f v (L.map g):=by
 have a:(L.map g).flatMap f=L.flatMap h:=by
  rw [List.flatMap_map];exact zby _ fun x _=>hg x
 unfold SlF at hs ⊢
 rw [List.length_map,a];exact hs
structure TreeR (w:World) (t:Nat) (nv fv:Value) (Z:List Nz) (fr:List Nat) (root:Nat) (many:Int):Prop where
 obj:Has w t [nv,fv,.int .i64 root,.int .i64 many]
 nodes:SlF w 194 2 nzC nv Z
 free:SlF w 3 1 nat1 fv fr
 pairs:∀ (i:Nat) z,Z[i]?=some z->SlF w 125 2 pairC z.pv z.nd.pairs
 kids:∀ (i:Nat) z,Z[i]?=some z->SlF w 3 1 nat1 z.kv z.nd.kids
 a1:nv.ownBlock≠some t/\fv.ownBlock≠some t/\∀ b,nv.ownBlock=some b->fv.ownBlock≠some b
 a2:∀ (i:Nat) z b,Z[i]?=some z->zown z b->b≠t/\nv.ownBlock≠some b/\fv.ownBlock≠some b
 a3:∀ (i:Nat) z b,Z[i]?=some z->z.pv.ownBlock=some b->z.kv.ownBlock≠some b
 a4:∀ (i j:Nat) z y b,Z[i]?=some z->Z[j]?=some y->zown z b->zown y b->i=j
def treeF (t:Nat) (nv fv:Value) (Z:List Nz) (b:Nat):Prop:=b=t\/nv.ownBlock=some b\/fv.ownBlock=some b\/∃ (i:Nat) (z:Nz),Z[i]?=some z/\zown z b
section
variable {w w':World} {t:Nat} {nv fv:Value} {Z:List Nz} {fl:List Nat} {root:Nat} {many:Int}
theorem TreeR.zlt (h:TreeR w t nv fv Z fl root many) {i:Nat} {z:Nz} {b:Nat} (hz:Z[i]?=some z) (hb:zown z b):b<w.heap.size:=by
 rcases hb with hb | hb
 · exact (h.pairs i z hz).lt b hb
 exact (h.kids i z hz).lt b hb
theorem TreeR.lt (h:TreeR w t nv fv Z fl root many):∀ b,treeF t nv fv Z b->b<w.heap.size:=by
 rintro b (rfl | e | e | ⟨i,z,c,a⟩)
 · exact h.obj.lt
 · exact h.nodes.lt b e
 · exact h.free.lt b e
 exact h.zlt c a
theorem TreeR.fr {S:Nat->Prop} (h:TreeR w t nv fv Z fl root many) (hf:Fr S w w') (hn:∀ b,treeF t nv fv Z b->¬ S b):TreeR w' t nv fv Z fl root many where
 obj:=h.obj.fr hf (hn t (.inl rfl))
 nodes:=h.nodes.fr hf fun b hb=>hn b (.inr (.inl hb))
 free:=h.free.fr hf fun b hb=>hn b (.inr (.inr (.inl hb)))
 pairs i z hz:=(h.pairs i z hz).fr hf fun b hb=>hn b (.inr (.inr (.inr ⟨i,z,hz,.inl hb⟩)))
 kids i z hz:=(h.kids i z hz).fr hf fun b hb=>hn b (.inr (.inr (.inr ⟨i,z,hz,.inr hb⟩)))
 a1:=h.a1
 a2:=h.a2
 a3:=h.a3
 a4:=h.a4
theorem TreeR.fr0 (h:TreeR w t nv fv Z fl root many) (hf:Fr No w w'):TreeR w' t nv fv Z fl root many:=h.fr hf fun _ _ s=>s
theorem zeu {Z:List Nz} {i j:Nat} {z' y:Nz} (h:(Z.set i z')[j]?=some y):(j=i/\y=z'/\i<Z.length)\/(j≠i/\Z[j]?=some y):=by
 rw [List.getElem?_set] at h;by_cases e:i=j
 · subst e
   rw [if_pos rfl] at h
   split at h
   · cases h;exact .inl ⟨rfl,rfl,by assumption⟩
   cases h
 rw [if_neg e] at h
 exact .inr ⟨Ne.symm e,h⟩
theorem TreeR.setNode {S:Nat->Prop} (h:TreeR w t nv fv Z fl root many) (i:Nat) (z z':Nz) (hz:Z[i]?=some z) (hf:Fr S w w') (hS:∀ b,S b->nv.ownBlock=some b\/zown z b)
 (hn:SlF w' 194 2 nzC nv (Z.set i z')) (hp:SlF w' 125 2 pairC z'.pv z'.nd.pairs) (hk:SlF w' 3 1 nat1 z'.kv z'.nd.kids) (hown:∀ b,zown z' b->zown z b\/w.heap.size<=b)
 (hpk:∀ b,z'.pv.ownBlock=some b->z'.kv.ownBlock≠some b):TreeR w' t nv fv (Z.set i z') fl root many where
 obj:=h.obj.fr hf fun s=>by
  rcases hS t s with e | e
  · exact h.a1.1 e
  exact (h.a2 i z t hz e).1 rfl
 nodes:=hn
 free:=h.free.fr hf fun b hb s=>by
  rcases hS b s with e | e
  · exact h.a1.2.2 b e hb
  exact (h.a2 i z b hz e).2.2 hb
 pairs j y hy:=by
  rcases zeu hy with ⟨_,rfl,_⟩ | ⟨d,hy⟩
  · exact hp
  refine (h.pairs j y hy).fr hf fun b hb s=>?_
  rcases hS b s with e | e
  · exact (h.a2 j y b hy (.inl hb)).2.1 e
  exact d (h.a4 j i y z b hy hz (.inl hb) e)
 kids j y hy:=by
  rcases zeu hy with ⟨_,rfl,_⟩ | ⟨d,hy⟩
  · exact hk
  refine (h.kids j y hy).fr hf fun b hb s=>?_
  rcases hS b s with e | e
  · exact (h.a2 j y b hy (.inr hb)).2.1 e
  exact d (h.a4 j i y z b hy hz (.inr hb) e)
 a1:=h.a1
 a2 j y b hy hb:=by
  rcases zeu hy with ⟨_,rfl,_⟩ | ⟨d,hy⟩
  · rcases hown b hb with e | e
    · exact h.a2 i z b hz e
    refine ⟨fun e'=>?_,fun e'=>?_,fun e'=>?_⟩
    · have:=h.obj.lt;omega
    · have:=h.nodes.lt b e';omega
    have:=h.free.lt b e';omega
  exact h.a2 j y b hy hb
 a3 j y b hy hb:=by
  rcases zeu hy with ⟨_,rfl,_⟩ | ⟨d,hy⟩
  · exact hpk b hb
  exact h.a3 j y b hy hb
 a4 j k y x b hy hx h1 h2:=by
  rcases zeu hy with ⟨m,n,_⟩ | ⟨d,c⟩
  · rcases zeu hx with ⟨g,l,_⟩ | ⟨f,a⟩
    · omega
    rw [n] at h1
    rcases hown b h1 with e | e
    · rw [m];exact h.a4 _ k z x b hz a e h2
    have:=h.zlt a h2;omega
  rcases zeu hx with ⟨g,l,_⟩ | ⟨f,a⟩
  · rw [l] at h2
    rcases hown b h2 with e | e
    · rw [g];exact h.a4 j _ y z b c hz h1 e
    have:=h.zlt c h1;omega
  exact h.a4 j k y x b c a h1 h2
theorem zbe {i:Nat} {z z':Nz} {B:Nat} (hz:Z[i]?=some z) (hown:∀ b,zown z' b->zown z b\/B<=b):∀ b,treeF t nv fv (Z.set i z') b->treeF t nv fv Z b\/B<=b:=by
 rintro b (e | e | e | ⟨j,y,a,c⟩)
 · exact .inl (.inl e)
 · exact .inl (.inr (.inl e))
 · exact .inl (.inr (.inr (.inl e)))
 rcases zeu a with ⟨_,rfl,_⟩ | ⟨_,a⟩
 · rcases hown b c with e | e
   · exact .inl (.inr (.inr (.inr ⟨i,z,hz,e⟩)))
   exact .inr e
 exact .inl (.inr (.inr (.inr ⟨j,y,a,c⟩)))
theorem TreeR.setPairs {w1:World} {nb no ncap:Nat} {pv':Value} {P':Pairs} (h:TreeR w t (.slice (some ⟨nb,no,none⟩) Z.length ncap) fv Z fl root many) (i:Nat) (z:Nz) (hz:Z[i]?=some z)
 (hf:Fr (fun b=>z.pv.ownBlock=some b) w w1) (hs:SlF w1 125 2 pairC pv' P') (hown:∀ b,pv'.ownBlock=some b->z.pv.ownBlock=some b\/w.heap.size<=b) :
 TreeR (w1.setCell ⟨nb,no+i * 2,none⟩ pv') t (.slice (some ⟨nb,no,none⟩) Z.length ncap) fv (Z.set i ⟨⟨P',z.nd.kids⟩,pv',z.kv⟩) fl root many ∧
  Fr (fun b=>b=nb\/z.pv.ownBlock=some b) w (w1.setCell ⟨nb,no+i * 2,none⟩ pv')/\(∀ b,zown ⟨⟨P',z.nd.kids⟩,pv',z.kv⟩ b->zown z b\/w.heap.size<=b):=by
 have k:=h.nodes.lt nb rfl;have a:∀ b,zown z b->b≠nb:=fun b hb e=>(h.a2 i z b hz hb).2.1 (by rw [e];rfl)
 have c:∀ b,pv'.ownBlock=some b->b≠nb:=fun b hb=>by
  rcases hown b hb with e | e
  · exact a b (.inl e)
  omega
 have d:∀ b,zown ⟨⟨P',z.nd.kids⟩,pv',z.kv⟩ b->zown z b\/w.heap.size<=b:=by
  rintro b (e | e)
  · rcases hown b e with e | e
    · exact .inl (.inl e)
    exact .inr e
  exact .inl (.inr e)
 have hF:Fr (fun b=>b=nb\/z.pv.ownBlock=some b) w (w1.setCell ⟨nb,no+i * 2,none⟩ pv'):=(hf.mono fun b _ e=>.inr e).setCell (.inl (.inl rfl)) _;refine ⟨h.setNode i z _ hz hF (fun b e=>?_) ?_ (hs.other _ _ fun e=>c nb e rfl) ?_ d fun b e e'=>?_,hF,d⟩
 · rcases e with e | e
   · left;rw [e];rfl
   exact .inr (.inl e)
 · have j:=h.nodes.fr hf fun b hb e=>(h.a2 i z b hz (.inl e)).2.1 hb
   have f:=SlF.set zbo j i 0 (by omega) z ⟨⟨P',z.nd.kids⟩,pv',z.kv⟩ pv' hz rfl;rw [Nat.add_zero] at f;unfold SlF at f ⊢
   rw [List.length_set] at f ⊢
   exact f
 · exact ((h.kids i z hz).fr hf fun b hb e=>h.a3 i z b hz e hb).other _ _ fun e=>a nb (.inr e) rfl
 rcases hown b e with g | g
 · exact h.a3 i z b hz g e'
 have:=h.zlt hz (.inr e');omega
theorem TreeR.setKids {w1:World} {nb no ncap:Nat} {kv':Value} {K':List Nat} (h:TreeR w t (.slice (some ⟨nb,no,none⟩) Z.length ncap) fv Z fl root many) (i:Nat) (z:Nz) (hz:Z[i]?=some z)
 (hf:Fr (fun b=>z.kv.ownBlock=some b) w w1) (hs:SlF w1 3 1 nat1 kv' K') (hown:∀ b,kv'.ownBlock=some b->z.kv.ownBlock=some b\/w.heap.size<=b) :
 TreeR (w1.setCell ⟨nb,no+i * 2+1,none⟩ kv') t (.slice (some ⟨nb,no,none⟩) Z.length ncap) fv (Z.set i ⟨⟨z.nd.pairs,K'⟩,z.pv,kv'⟩) fl root many ∧
  Fr (fun b=>b=nb\/z.kv.ownBlock=some b) w (w1.setCell ⟨nb,no+i * 2+1,none⟩ kv')/\(∀ b,zown ⟨⟨z.nd.pairs,K'⟩,z.pv,kv'⟩ b->zown z b\/w.heap.size<=b):=by
 have k:=h.nodes.lt nb rfl;have a:∀ b,zown z b->b≠nb:=fun b hb e=>(h.a2 i z b hz hb).2.1 (by rw [e];rfl)
 have c:∀ b,kv'.ownBlock=some b->b≠nb:=fun b hb=>by
  rcases hown b hb with e | e
  · exact a b (.inr e)
  omega
 have d:∀ b,zown ⟨⟨z.nd.pairs,K'⟩,z.pv,kv'⟩ b->zown z b\/w.heap.size<=b:=by
  rintro b (e | e)
  · exact .inl (.inl e)
  rcases hown b e with e | e
  · exact .inl (.inr e)
  exact .inr e
 have hF:Fr (fun b=>b=nb\/z.kv.ownBlock=some b) w (w1.setCell ⟨nb,no+i * 2+1,none⟩ kv'):=(hf.mono fun b _ e=>.inr e).setCell (.inl (.inl rfl)) _;refine ⟨h.setNode i z _ hz hF (fun b e=>?_) ?_ ?_ (hs.other _ _ fun e=>c nb e rfl) d fun b e e'=>?_,hF,d⟩
 · rcases e with e | e
   · left;rw [e];rfl
   exact .inr (.inr e)
 · have j:=h.nodes.fr hf fun b hb e=>(h.a2 i z b hz (.inr e)).2.1 hb
   have f:=SlF.set zbo j i 1 (by omega) z ⟨⟨z.nd.pairs,K'⟩,z.pv,kv'⟩ kv' hz rfl;unfold SlF at f ⊢
   rw [List.length_set] at f ⊢
   exact f
 · exact ((h.pairs i z hz).fr hf fun b hb e=>h.a3 i z b hz hb e).other _ _ fun e=>a nb (.inl e) rfl
 rcases hown b e' with g | g
 · exact h.a3 i z b hz e g
 have:=h.zlt hz (.inl e);omega
theorem TreeR.setPair {w1:World} {pb po pcap:Nat} {P':Pairs} (h:TreeR w t nv fv Z fl root many) (i:Nat) (z:Nz) (hz:Z[i]?=some z) (hpv:z.pv=.slice (some ⟨pb,po,none⟩) z.nd.pairs.length pcap)
 (hf:Fr (fun b=>b=pb) w w1) (hs:SlF w1 125 2 pairC z.pv P'):TreeR w1 t nv fv (Z.set i ⟨⟨P',z.nd.kids⟩,z.pv,z.kv⟩) fl root many:=by
 have a:z.pv.ownBlock=some pb:=by rw [hpv];rfl
 refine h.setNode i z _ hz hf (fun b e=>.inr (.inl (by rw [e];exact a))) ?_ hs ?_ (fun b e=>.inl e) (h.a3 i z · hz)
 · have c:=h.nodes.fr hf fun b hb (e:b=pb)=>(h.a2 i z pb hz (.inl a)).2.1 (e▸hb)
   unfold SlF at c ⊢
   have f:(Z.set i ⟨⟨P',z.nd.kids⟩,z.pv,z.kv⟩).flatMap nzC=Z.flatMap nzC:=by
    have g:=(List.getElem?_eq_some_iff.1 hz).1;have:=zpf zbo Z i 0 (by omega) z ⟨⟨P',z.nd.kids⟩,z.pv,z.kv⟩ z.pv hz rfl;rw [<-this];apply List.ext_getElem?;intro j;rw [List.getElem?_set]
    split
    · rename_i e
      subst e;have d:=zkm zbo Z i 0 (by omega);rw [hz] at d;have k:=zak zbo Z;have:(i+1) * 2<=Z.length * 2:=Nat.mul_le_mul_right _ g;rw [if_pos (by omega),d]
      rfl
    rfl
   rw [List.length_set,f];exact c
 exact (h.kids i z hz).fr hf fun b hb (e:b=pb)=>h.a3 i z pb hz a (e▸hb)
theorem TreeR.setObj (h:TreeR w t nv fv Z fl root many) (hf:Fr (fun b=>b=t) w w') (root':Nat) (many':Int) (ho:Has w' t [nv,fv,.int .i64 root',.int .i64 many']):TreeR w' t nv fv Z fl root' many' where
 obj:=ho
 nodes:=h.nodes.fr hf fun _b hb e=>h.a1.1 (e▸hb)
 free:=h.free.fr hf fun _b hb e=>h.a1.2.1 (e▸hb)
 pairs i z hz:=(h.pairs i z hz).fr hf fun b hb e=>(h.a2 i z b hz (.inl hb)).1 e
 kids i z hz:=(h.kids i z hz).fr hf fun b hb e=>(h.a2 i z b hz (.inr hb)).1 e
 a1:=h.a1
 a2:=h.a2
 a3:=h.a3
 a4:=h.a4
theorem TreeR.setFree {w1:World} {fv':Value} {fl':List Nat} (h:TreeR w t nv fv Z fl root many) (hf:Fr (fun b=>fv.ownBlock=some b) w w1) (hs:SlF w1 3 1 nat1 fv' fl') (hown:∀ b,fv'.ownBlock=some b->fv.ownBlock=some b\/w.heap.size<=b) :
 TreeR (w1.setCell ⟨t,1,none⟩ fv') t nv fv' Z fl' root many/\Fr (fun b=>b=t\/fv.ownBlock=some b) w (w1.setCell ⟨t,1,none⟩ fv')/\(∀ b,treeF t nv fv' Z b->treeF t nv fv Z b\/w.heap.size<=b):=by
 have d:=h.obj.lt;have hF:Fr (fun b=>b=t\/fv.ownBlock=some b) w (w1.setCell ⟨t,1,none⟩ fv'):=(hf.mono fun b _ e=>.inr e).setCell (.inl (.inl rfl)) _
 have c:∀ b,fv'.ownBlock=some b->b≠t/\nv.ownBlock≠some b/\∀ (i:Nat) z,Z[i]?=some z->¬ zown z b:=by
  intro b a;rcases hown b a with e | e
  · exact ⟨fun e'=>h.a1.2.1 (e'▸e),fun e'=>h.a1.2.2 b e' e,fun i z hz hz'=>(h.a2 i z b hz hz').2.2 e⟩
  exact ⟨by omega,fun e'=>by have:=h.nodes.lt b e';omega,fun i z hz hz'=>by have:=h.zlt hz hz';omega⟩
 refine ⟨⟨?_,?_,hs.other _ _ fun e=>(c t e).1 rfl,fun i z hz=>?_,fun i z hz=>?_,⟨h.a1.1,fun e=>(c t e).1 rfl,fun b e e'=>(c b e').2.1 e⟩,fun i z b hz a=>?_,h.a3,h.a4⟩,hF,?_⟩
 · exact (h.obj.fr hf h.a1.2.1).set 1 fv'
 · exact h.nodes.fr hF fun b a e=>by
    rcases e with e | e
    · exact h.a1.1 (e▸a)
    exact h.a1.2.2 b a e
 · exact (h.pairs i z hz).fr hF fun b a e=>by
    rcases e with e | e
    · exact (h.a2 i z b hz (.inl a)).1 e
    exact (h.a2 i z b hz (.inl a)).2.2 e
 · exact (h.kids i z hz).fr hF fun b a e=>by
    rcases e with e | e
    · exact (h.a2 i z b hz (.inr a)).1 e
    exact (h.a2 i z b hz (.inr a)).2.2 e
 · exact ⟨(h.a2 i z b hz a).1,(h.a2 i z b hz a).2.1,fun e=>(c b e).2.2 i z hz a⟩
 rintro b (e | e | e | e)
 · exact .inl (.inl e)
 · exact .inl (.inr (.inl e))
 · rcases hown b e with e | e
   · exact .inl (.inr (.inr (.inl e)))
   exact .inr e
 exact .inl (.inr (.inr (.inr e)))
theorem TreeR.snoc {w1:World} {nv':Value} (h:TreeR w t nv fv Z fl root many) (hf:Fr (fun b=>nv.ownBlock=some b) w w1) (hs:SlF w1 194 2 nzC nv' (Z++[⟨nd0,.slice none 0 0,.slice none 0 0⟩]))
 (hown:∀ b,nv'.ownBlock=some b->nv.ownBlock=some b\/w.heap.size<=b) :
 TreeR (w1.setCell ⟨t,0,none⟩ nv') t nv' fv (Z++[⟨nd0,.slice none 0 0,.slice none 0 0⟩]) fl root many/\Fr (fun b=>b=t\/nv.ownBlock=some b) w (w1.setCell ⟨t,0,none⟩ nv') ∧
  (∀ b,treeF t nv' fv (Z++[⟨nd0,.slice none 0 0,.slice none 0 0⟩]) b->treeF t nv fv Z b\/w.heap.size<=b):=by
 have m:=h.obj.lt;have hF:Fr (fun b=>b=t\/nv.ownBlock=some b) w (w1.setCell ⟨t,0,none⟩ nv'):=(hf.mono fun b _ e=>.inr e).setCell (.inl (.inl rfl)) _
 have f:∀ b,nv'.ownBlock=some b->b≠t/\fv.ownBlock≠some b/\∀ (i:Nat) z,Z[i]?=some z->¬ zown z b:=by
  intro b d;rcases hown b d with e | e
  · exact ⟨fun e'=>h.a1.1 (e'▸e),h.a1.2.2 b e,fun i z a hz'=>(h.a2 i z b a hz').2.1 e⟩
  exact ⟨by omega,fun e'=>by have:=h.free.lt b e';omega,fun i z a hz'=>by have:=h.zlt a hz';omega⟩
 have c:∀ (i:Nat) z,(Z++[⟨nd0,.slice none 0 0,.slice none 0 0⟩])[i]?=some z->Z[i]?=some z\/z=⟨nd0,.slice none 0 0,.slice none 0 0⟩:=by
  intro i z a;rcases Nat.lt_or_ge i Z.length with k | k
  · rw [List.getElem?_append_left k] at a;exact .inl a
  rw [List.getElem?_append_right k] at a
  right
  have:=List.mem_of_getElem? a;simpa using this
 have g:∀ b,¬ zown ⟨nd0,.slice none 0 0,.slice none 0 0⟩ b:=by
  rintro b (e | e) <;> simp [Value.ownBlock] at e
 refine ⟨⟨?_,hs.other _ _ fun e=>(f t e).1 rfl,?_,fun i z a=>?_,fun i z a=>?_,⟨fun e=>(f t e).1 rfl,h.a1.2.1,fun b e=>(f b e).2.1⟩,fun i z b a d=>?_,fun i z b a d=>?_,fun i j z y b a l h1 h2=>?_⟩,hF,?_⟩
 · exact (h.obj.fr hf h.a1.1).set 0 nv'
 · exact h.free.fr hF fun b d e=>by
    rcases e with e | e
    · exact h.a1.2.1 (e▸d)
    exact h.a1.2.2 b e d
 · rcases c i z a with a | rfl
   · exact (h.pairs i z a).fr hF fun b d e=>by
      rcases e with e | e
      · exact (h.a2 i z b a (.inl d)).1 e
      exact (h.a2 i z b a (.inl d)).2.1 e
   exact SlF.nil _ _ _ _
 · rcases c i z a with a | rfl
   · exact (h.kids i z a).fr hF fun b d e=>by
      rcases e with e | e
      · exact (h.a2 i z b a (.inr d)).1 e
      exact (h.a2 i z b a (.inr d)).2.1 e
   exact SlF.nil _ _ _ _
 · rcases c i z a with a | rfl
   · exact ⟨(h.a2 i z b a d).1,fun e=>(f b e).2.2 i z a d,(h.a2 i z b a d).2.2⟩
   exact absurd d (g b)
 · rcases c i z a with a | rfl
   · exact h.a3 i z b a d
   simp [Value.ownBlock] at d
 · rcases c i z a with a | rfl
   · rcases c j y l with l | rfl
     · exact h.a4 i j z y b a l h1 h2
     exact absurd h2 (g b)
   exact absurd h1 (g b)
 rintro b (e | e | e | ⟨i,z,a,d⟩)
 · exact .inl (.inl e)
 · rcases hown b e with e | e
   · exact .inl (.inr (.inl e))
   exact .inr e
 · exact .inl (.inr (.inr (.inl e)))
 rcases c i z a with a | rfl
 · exact .inl (.inr (.inr (.inr ⟨i,z,a,d⟩)))
 exact absurd d (g b)
end
def ndsZ (Z:List Nz):Arr:=Z.map (·.nd)
theorem znd {Z:List Nz} {i:Nat} {z:Nz} (h:Z[i]?=some z):ndA (ndsZ Z) i=z.nd:=by unfold ndA ndsZ;rw [List.getElem?_map,h];rfl
theorem zas (Z:List Nz):(ndsZ Z).length=Z.length:=by unfold ndsZ;simp
theorem zau (Z:List Nz) (i:Nat) (z:Nz):ndsZ (Z.set i z)=(ndsZ Z).set i z.nd:=by unfold ndsZ;rw [List.map_set]
theorem zcj {Z:List Nz} {i:Nat} (h:i<(ndsZ Z).length):∃ z,Z[i]?=some z/\ndA (ndsZ Z) i=z.nd:=by
 rw [zas] at h;exact ⟨Z[i],List.getElem?_eq_getElem h,znd (List.getElem?_eq_getElem h)⟩
def TreeZ (w:World) (t:Nat) (A:Arr) (fr:List Nat) (root:Nat) (many:Int) (F:Nat->Prop):Prop :=
 ∃ nv fv Z,TreeR w t nv fv Z fr root many/\ndsZ Z=A/\∀ b,F b↔treeF t nv fv Z b
theorem TreeZ.lt {w:World} {t:Nat} {A:Arr} {fr:List Nat} {root:Nat} {many:Int} {F:Nat->Prop} (h:TreeZ w t A fr root many F):∀ b,F b->b<w.heap.size:=by
 obtain ⟨nv,fv,Z,h,_,hF⟩:=h;exact fun b hb=>h.lt b ((hF b).1 hb)
theorem TreeZ.fr {w w':World} {t:Nat} {A:Arr} {fr:List Nat} {root:Nat} {many:Int} {F S:Nat->Prop} (h:TreeZ w t A fr root many F) (hf:Fr S w w') (hn:∀ b,F b->¬ S b):TreeZ w' t A fr root many F:=by
 obtain ⟨nv,fv,Z,h,a,hF⟩:=h;exact ⟨nv,fv,Z,h.fr hf fun b hb=>hn b ((hF b).2 hb),a,hF⟩
theorem TreeZ.fr0 {w w':World} {t:Nat} {A:Arr} {fr:List Nat} {root:Nat} {many:Int} {F:Nat->Prop} (h:TreeZ w t A fr root many F) (hf:Fr No w w'):TreeZ w' t A fr root many F:=h.fr hf fun _ _ s=>s
end Go.Proofs.YtdgkdfmfoonbpaaGreat