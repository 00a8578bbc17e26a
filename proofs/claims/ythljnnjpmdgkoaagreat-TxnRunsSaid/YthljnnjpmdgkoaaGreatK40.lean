/- Own lemmas. -/
import Derived.Test.YthljnnjpmdgkoaaGreatK39
import Derived.Test.YthljnnjpmdgkoaaGreatK30
import Derived.Test.YthljnnjpmdgkoaaGreatK23
import Derived.Test.YthljnnjpmdgkoaaGreatK36
import Derived.ProofKit
import Derived.Deep.Slices
import Derived.Deep.Fields
import Derived.ChangeSame
namespace Go.Proofs.YthljnnjpmdgkoaaGreat
open Go Go.Proofs Go.RowKit
structure RInv (D:Doc):Prop where
 kv:∀ k∈D.kvs,MayP k D.mark
 ev:∀ e∈D.events,EvW e
 pm:∀ e∈D.events,e.kv.mod=D.mark->PrevW e
 mkd:∀ e∈D.events,e.kv.mod=D.mark->hasL D.kvs e.kv.key=if e.kind=1 then some e.kv else none
 fr:∀ k∈D.kvs,k.mod=D.mark->∃ e∈D.events,e.kind=1/\e.kv=k
theorem RInv.prevs {n:Nat} {D:Doc} (h:RInv D) (hd:DocOk n D) (hK:KeysOk D) (hs:KSorted D.kvs):∀ (i:Nat) (e:Ev),D.events[i]?=some e->PrevW e:=by
 intro i
 induction i using Nat.strongRecOn with
 | _ i ih =>
   intro e k;have f:=List.mem_of_getElem? k;have s:=hd.lo e f;by_cases hm:e.kv.mod=D.mark
   · exact h.pm e f hm
   have o:=hd.prev_at k (by omega)
   cases hh:hasL (foldTo D i) e.kv.key with
   | none=>left;rw [o,hh];rfl
   | some y =>
     right
     rw [hh] at o;have l:e.prev=y:=o;have q:=List.mem_of_find?_eq_some hh;have g:y.key=e.kv.key:=zas.1 (by have:=List.find?_some hh;exact this);rw [l];refine ⟨g,?_⟩;rcases zco hs _ y q with m | ⟨d,m,r,p⟩
     · exact (h.kv y m).mono (by omega)
     obtain ⟨v,w⟩:=List.mem_filter.1 m
     obtain ⟨j,c⟩:=List.mem_iff_getElem?.1 v
     have b:j<i:=by
      have:=(List.getElem?_eq_some_iff.1 c).1;simp at this;omega
     rw [List.getElem?_take,if_pos b] at c;have u:=zcv hd.es c k (by omega);have t:d.kv.mod≠e.kv.mod:=fun hq=>hd.uniq_at c k b hq (by rw [<-p];exact g);have a:=List.mem_of_getElem? c;have:=zvb (h.ev d a) r (hK.evs d a) (hd.lo d a).1 (ih j b d c);rw [p];exact this.mono (by omega)
theorem RInv.prevM {n:Nat} {D:Doc} (h:RInv D) (hd:DocOk n D) (hK:KeysOk D) (hs:KSorted D.kvs) {e:Ev} (he:e∈D.events):PrevW e:=by
 obtain ⟨i,a⟩:=List.mem_iff_getElem?.1 he;exact h.prevs hd hK hs i e a
theorem RInv.mayAt {n:Nat} {D:Doc} (h:RInv D) (hd:DocOk n D) (hK:KeysOk D) (hs:KSorted D.kvs) {r:Int} (hr:D.mark<=r) {y:Kv} (hy:y∈D.at r):MayP y r:=by
 rcases zco hs _ y hy with b | ⟨e,b,d,rfl⟩
 · exact (h.kv y b).mono hr
 obtain ⟨a,c⟩:=List.mem_filter.1 b
 simp only [Bool.and_eq_true,decide_eq_true_eq] at c;exact (zvb (h.ev e a) d (hK.evs e a) (hd.lo e a).1 (h.prevM hd hK hs a)).mono c.2
theorem RInv.new:RInv newD:=⟨fun k hk=>by simp [newD] at hk,fun e he=>by simp [newD] at he,fun e he=>by simp [newD] at he,fun e he=>by simp [newD] at he,fun k hk=>by simp [newD] at hk⟩
theorem RInv.adds {D:Doc} (h:RInv D) (E:List Ev) (hE:∀ e∈E,EvW e) (hm:∀ e∈E,D.mark<e.kv.mod):RInv (D.adds E):=by
 obtain ⟨a,b,c⟩:=Doc.adds_parts D E
 have f:∀ e∈(D.adds E).events,e.kv.mod=D.mark->e∈D.events:=fun e d h1=>by
  rw [c] at d;rcases List.mem_append.1 d with d | d
  · exact d
  have:=hm e d;omega
 refine ⟨fun k hk=>?_,fun e d=>?_,fun e d h1=>?_,fun e d h1=>?_,fun k hk h1=>?_⟩
 · rw [b] at hk;rw [a];exact h.kv k hk
 · rw [c] at d
   rcases List.mem_append.1 d with d | d
   · exact h.ev e d
   exact hE e d
 · rw [a] at h1;exact h.pm e (f e d h1) h1
 · rw [a] at h1;rw [b];exact h.mkd e (f e d h1) h1
 rw [b] at hk;rw [a] at h1
 obtain ⟨e,d,g⟩:=h.fr k hk h1;exact ⟨e,by rw [c];exact List.mem_append_left _ d,g⟩
theorem RInv.cut {n:Nat} {D:Doc} (h:RInv D) (hd:DocOk n D) (hK:KeysOk D) (hs:KSorted D.kvs) {R:Int} (h1:D.mark<R):RInv (D.cut R):=by
 have a:∀ e∈(D.cut R).events,e∈D.events:=fun e he=>(List.mem_filter.1 he).1;refine ⟨fun k hk=>h.mayAt hd hK hs (by show D.mark<=R;omega) hk,fun e he=>h.ev e (a e he),fun e he _=>h.prevM hd hK hs (a e he),fun e he hm=>?_,fun k hk hm=>?_⟩
 · have j:e.kv.mod=R:=hm
   obtain ⟨i,q⟩:=List.mem_iff_getElem?.1 (a e he);obtain ⟨A,B,b⟩:=List.append_of_mem (a e he)
   show hasL (D.at R) e.kv.key=_
   unfold Doc.at;rw [b,List.filter_append,List.filter_cons,if_pos (by simp;omega)];refine zkm hs _ _ _ fun y hy hk=>?_;obtain ⟨c,l⟩:=List.mem_filter.1 hy;simp only [Bool.and_eq_true,decide_eq_true_eq] at l;have f:=hd.es;have d:=hd.uniq;rw [b] at f d;have r:=(List.pairwise_cons.1 (List.pairwise_append.1 f).2.1).1 y c;have o:=(List.pairwise_cons.1 (List.pairwise_append.1 d).2.1).1 y c;exact o (by omega) hk.symm
 have j:k.mod=R:=hm
 rcases zco hs _ k hk with g | ⟨e,g,p,rfl⟩
 · have:=(h.kv k g).ver;omega
 obtain ⟨m,s⟩:=List.mem_filter.1 g
 refine ⟨e,List.mem_filter.2 ⟨m,?_⟩,p,rfl⟩;have:=(hd.lo e m).2.2;simp;omega
theorem Good.evw {k:Nat} {S:St} {D:Doc} (h:Good k S D) (hk:k<=70) {ops:List Opr} (hc:checkE ops=0) (hw:Go.Proofs.YthljnnjpmdgkoaaGreat.whenAll S ops=0) (hks:∀ o∈ops,o.rg.key.size<=1099511627776) :
 ∀ i≤ ops.length,∀ e∈(Go.Proofs.YthljnnjpmdgkoaaGreat.runD D (ops.take i)).E,EvW e:=by
 intro i
 induction i with
 | zero=>intro _ e b;simp [Go.Proofs.YthljnnjpmdgkoaaGreat.runD] at b
 | succ i ih =>
   intro t;have c:=ih (by omega);obtain ⟨n,u,v⟩:=h.runD hk hc hw hks i (by omega);obtain ⟨o,m⟩:∃ o,ops[i]?=some o:=⟨_,List.getElem?_eq_getElem (by omega)⟩;have j:=List.mem_of_getElem? m;have a:=(zch hc).2.1 o j;obtain ⟨⟨s,_⟩,_⟩:=h.runs hk hc hks i (by omega);rw [ziz _ _ m];generalize Go.Proofs.YthljnnjpmdgkoaaGreat.runD D (ops.take i)=q at *;generalize runR (D.rev+1) ⟨S,[],[]⟩ (ops.take i)=r at *;have d:KSorted (D.adds r.E).kvs:=(by rw [(Doc.adds_parts D r.E).2.1];exact h.cpl.ks);rcases znn a with f | p | g
   · unfold stepD
     rw [if_pos f];intro e b;rcases List.mem_append.1 b with b | b
     · exact c e b
     rw [List.mem_singleton.1 b]
     unfold oneE at a;rw [if_neg (by omega),if_neg (by omega),if_pos f] at a
     split at a
     · rename_i hq;exact absurd a hq
     split at a
     · cases a
     split at a
     · exact .inl ⟨rfl,by show o.value.size<=1024;omega,by show 0<=o.lease;omega,rfl,rfl⟩
     cases a
   · unfold stepD
     rw [if_neg (by omega),if_neg (by omega)];intro e b;rcases List.mem_append.1 b with b | b
     · exact c e b
     obtain ⟨x,l,rfl⟩:=List.mem_map.1 b
     rw [zgz,n] at l;have:=(s.doc.ver_at d (List.mem_filter.1 l).1).1;exact .inr ⟨rfl,by show 0<x.version;omega,rfl⟩
   unfold stepD
   rw [if_neg (by omega),if_pos g];exact c
theorem zsv (D:Doc) (keys:List ByteArray):∀ i≤ keys.length,∀ e∈(dropsQ D (keys.take i)).2,EvW e:=by
 intro i
 induction i with
 | zero=>intro _ e a;simp [dropsQ] at a
 | succ i ih =>
   intro d;have b:=ih (by omega);obtain ⟨x,c⟩:∃ x,keys[i]?=some x:=⟨_,List.getElem?_eq_getElem (by omega)⟩;rw [zju _ _ c];unfold dropQ
   split
   · rename_i hv
     intro e a;rcases List.mem_append.1 a with a | a
     · exact b e a
     rw [List.mem_singleton.1 a]
     exact .inr ⟨rfl,hv,rfl⟩
   exact b
theorem zuk {k:Nat} {S:St} {D:Doc} (h:Good k S D) (hk:k<=70) {q:CalQ} (hq:fewCal q=true) (hK:KeysOk D) (hD:RInv D):RInv (doD S D q):=by
 obtain ⟨p,s,j,r,t⟩:=zfu hq;have n:=h.cpl.m0;unfold doD;by_cases h4:kindN q.1.kind=4
 · rw [if_pos h4];exact hD
 rw [if_neg h4]
 by_cases h5:kindN q.1.kind=5
 · rw [if_pos h5]
   split
   · rename_i hc
     obtain ⟨_,l⟩:=zew hc;rw [h.cpl.mark] at l;exact hD.cut h.doc hK h.cpl.ks l
   exact hD
 rw [if_neg h5]
 by_cases h6:kindN q.1.kind=6
 · rw [if_pos h6];exact hD
 rw [if_neg h6]
 by_cases h7:kindN q.1.kind=7
 · rw [if_pos h7]
   obtain ⟨a,_⟩:=h.drops hk q.2.2 j q.2.2.length (Nat.le_refl _);obtain ⟨_,g,_⟩:=h.dropDoc hk q.2.2 j;have d:dropTo (D.rev+1) S q.2.2 q.2.2.length=q.2.2.foldl (dropR (D.rev+1)) (S,[]):=(by unfold dropTo;rw [List.take_length]);rw [d] at a;have b:=zsv D q.2.2 q.2.2.length (Nat.le_refl _);rw [List.take_length,<-g,h.rev] at b;exact hD.adds _ b fun e d=>by rw [a.mods e d];omega
 rw [if_neg h7]
 by_cases ha:applyE S q.2.1=0
 · rw [if_pos ha]
   have c:∀ o∈q.2.1,o.rg.key.size<=1099511627776:=fun o ho=>by have:=(p o ho).1;omega
   obtain ⟨f,m⟩:=zbe ha;obtain ⟨⟨a,_⟩,_⟩:=h.runs hk f c q.2.1.length (Nat.le_refl _);obtain ⟨_,_,i⟩:=h.runD hk f m c q.2.1.length (Nat.le_refl _);have b:=h.evw hk f m c q.2.1.length (Nat.le_refl _);rw [i] at b;rw [List.take_length] at a b;exact hD.adds _ b fun e d=>by rw [a.mods e d];omega
 rw [if_neg ha];exact hD
theorem zsw {l:List CalQ} (h:zbh l=true):∀ i≤ l.length,RInv (donesT l i).2:=by
 obtain ⟨f,c⟩:=zbm h;have d:=zdg h;have b:=zhw h;intro i
 induction i with
 | zero=>intro _;exact RInv.new
 | succ i ih =>
   intro e;obtain ⟨q,a⟩:∃ q,l[i]?=some q:=⟨_,List.getElem?_eq_getElem (by omega)⟩;rw [zdk l a];exact zuk (d i (by omega)) (by omega) (c q (List.mem_of_getElem? a)) (b i (by omega)) (ih (by omega))
theorem znu {l m:List Kv} (h:l.Pairwise fun a b=>a.key≠b.key) (hs:∀ x∈l,x∈m):l.length<=m.length:=by
 induction l generalizing m with
 | nil=>exact Nat.zero_le _
 | cons x l ih =>
   obtain ⟨a,b,rfl⟩:=List.append_of_mem (hs x List.mem_cons_self);have f:=List.pairwise_cons.1 h
   have:=ih (m:=a++b) f.2 fun y hy=>by
    have c:=f.1 y hy;rcases List.mem_append.1 (hs y (List.mem_cons_of_mem _ hy)) with d | d
    · exact List.mem_append_left _ d
    rcases List.mem_cons.1 d with e | e
    · rw [e] at c;exact absurd rfl c
    exact List.mem_append_right _ e
   simp only [List.length_append,List.length_cons] at this ⊢
   omega
theorem zgq {l:List Ev} (p:Ev->Bool) (h:l.Pairwise fun a b=>p a=true->p b=true->a.kv.key≠b.kv.key):((l.filter p).map fun e=>e.kv).Pairwise fun a b=>a.key≠b.key:=by
 induction l with
 | nil=>exact List.Pairwise.nil
 | cons x l ih =>
   have c:=List.pairwise_cons.1 h;rw [List.filter_cons]
   split
   · rename_i hp
     rw [List.map_cons];refine List.pairwise_cons.2 ⟨fun y hy=>?_,ih c.2⟩;obtain ⟨e,d,rfl⟩:=List.mem_map.1 hy;obtain ⟨f,g⟩:=List.mem_filter.1 d;exact c.1 e f hp g
   exact ih c.2
theorem Good.right {k:Nat} {S:St} {D:Doc} (h:Good k S D) (hk:k<=70) (hK:KeysOk D) (hR:RInv D):zbi D:=by
 have l:=h.cpl.m0;have M:=h.rev1;have s:=h.cpl.ks
 have g:∀ e∈D.events,madeB e e.prev e.kv.mod=true:=fun e f=>by
  have L:wrap64 (e.prev.version+1)=e.prev.version+1:=by
   rcases hR.ev e f with ⟨c,_,_,_,z⟩ | ⟨c,z,_⟩
   · have:=h.doc.ver e f c
     unfold wrap64;omega
   rcases hR.prevM h.doc hK s f with o | ⟨_,o⟩
   · rw [o];show wrap64 (0+1)=0+1;unfold wrap64;omega
   have u:=h.doc.lo e f
   have A:=o.ver
   have:e.prev.version<=200:=by
    obtain ⟨_,_,_,N,O,P,J,E⟩:=o;by_cases hq:e.prev.mod=e.prev.create
    · have:=J hq;omega
    have:=E hq;omega
   unfold wrap64;omega
  unfold madeB;rw [if_neg (by rw [hK.evs e f,zfz];simp),L];rcases hR.ev e f with ⟨c,d,p,t,z⟩ | ⟨c,d,p⟩
  · rw [if_neg (by omega),c,t,z]
    simp [d,p]
  rw [if_pos c,<-p,zfz]
  simp [d]
 refine { m0:=l.1,mr:=l.2,top:=by omega,kvs:=fun i k hi=>⟨zrf.2 (hR.kv k (List.mem_of_getElem? hi)),fun k' h0 hk'=>?_⟩,evs:=fun i x hi=>?_,last:=h.doc.revAt_last l.1 l.2,fresh:=?_ }
 · obtain ⟨B,I⟩:=List.getElem?_eq_some_iff.1 hi
   obtain ⟨G,F⟩:=List.getElem?_eq_some_iff.1 hk';have:=List.pairwise_iff_getElem.1 s (i-1) i G B (by omega);rw [I,F] at this;exact this
 · have m:=List.mem_of_getElem? hi
   have u:=h.doc.lo x m;have K:=h.doc.chain l.1 hi;refine ⟨by omega,by omega,by omega,fun j y hj hy f=>?_,fun hm=>?_,fun hm=>?_⟩
   · have:=h.doc.uniq_at hy hi hj f
     cases hq:keq y.kv.key x.kv.key
     · rfl
     exact absurd (zas.1 hq) this
   · have o:=hR.pm x m hm
     have r:=g x m;have w:=hR.mkd x m hm;rw [hm] at r;unfold zgr;rw [if_neg,w]
     · rcases h.doc.kind x m with c | c
       · rw [if_pos c,if_pos c]
         exact zfz _
       rw [if_neg (by omega),if_neg (by omega)]
       rfl
     rintro (⟨a,b⟩ | a)
     · rcases o with o | ⟨v,q⟩
       · rw [o,zfz] at a;cases a
       rcases b with b | b
       · rw [zas.2 v] at b;cases b
       rw [hm] at q
       rw [zrf.2 q] at b;cases b
     rw [r] at a;cases a
   rw [<-h.doc.prev_at hi (by omega)]
   exact g x m
 unfold freshK freshE
 rw [List.take_length,List.take_length]
 have H:(D.kvs.filter fun k=>k.mod==D.mark).length<=((D.events.filter fun x=>x.kv.mod==D.mark&&x.kind==1).map fun e=>e.kv).length:=by
  refine znu ?_ fun x m=>?_
  · refine List.Pairwise.imp ?_ (List.Pairwise.sublist List.filter_sublist s)
    intro a b n e;rw [e,zbb] at n;cases n
  obtain ⟨c,d⟩:=List.mem_filter.1 m
  obtain ⟨e,f,p,t⟩:=hR.fr x c (by simpa using d);refine List.mem_map.2 ⟨e,List.mem_filter.2 ⟨f,?_⟩,t⟩;rw [t,p];simpa using d
 have C:((D.events.filter fun x=>x.kv.mod==D.mark&&x.kind==1).map fun e=>e.kv).length<=(D.kvs.filter fun k=>k.mod==D.mark).length:=by
  refine znu ?_ fun x m=>?_
  · refine zgq _ (h.doc.uniq.imp fun {a b} n c d=>n ?_)
    simp only [Bool.and_eq_true,beq_iff_eq] at c d;rw [c.1,d.1]
  obtain ⟨e,f,rfl⟩:=List.mem_map.1 m
  obtain ⟨c,d⟩:=List.mem_filter.1 f;simp only [Bool.and_eq_true,beq_iff_eq] at d;have p:=hR.mkd e c d.1;rw [if_pos d.2] at p;refine List.mem_filter.2 ⟨((zbl s _ _).1 p).1,by simpa using d.1⟩
 simp only [List.length_map] at H C;omega
open Go Go.Proofs Go.ChangeShapes Go.WideShapes Go.ChangeAt Go.RowKit Go.Deep
set_option maxRecDepth 100000
theorem zlv {α:Type} (P:Nat->α->Prop):∀ n:Nat,(∀ i,i<n->∃ x,P i x)->∃ L:List α,L.length=n/\∀ (i:Nat) (x:α),L[i]?=some x->P i x
 | 0,_=>⟨[],rfl,fun i x h=>by simp at h⟩
 | n+1,h=>by
   obtain ⟨L,h1,h2⟩:=zlv P n fun i hi=>h i (by omega);obtain ⟨x,hx⟩:=h n (by omega);refine ⟨L++[x],by simp [h1],fun i y hy=>?_⟩;by_cases hi:i<L.length
   · rw [List.getElem?_append_left hi] at hy
     exact h2 i y hy
   rw [List.getElem?_append_right (by omega)] at hy
   have h0:i-L.length=0:=by
    have:=(List.getElem?_eq_some_iff.1 hy).1;simp at this;omega
   rw [h0] at hy;simp at hy;subst hy;rw [show i=n by omega];exact hx
section
variable {H:Type} {enc:TypeId×Value->H} {w:World} {base:Nat} {spare:Nat->Bool} {held:Bool}
theorem zfm {α:Type} {t e:TypeId} {sz:Nat} (f:α->List Value) (hu:Tryz.prog.underlying t=some (.slice e)) (hC:Tryz.prog.cellsOf e=sz) (hsz:0<sz) (hf:∀ x,(f x).length=sz)
 (hel:∀ n cs x,DataW.trod enc Tryz.prog w base spare held n e cs=some x->cs.length=sz->∃ y,cs=f y) {fuel:Nat} {cs:List Value} {x:DataW H×List MemPlace}
 (h:DataW.trod enc Tryz.prog w base spare held fuel t cs=some x):∃ v L,cs = [v]/\SlR w sz f v L/\∀ b,v.ownBlock=some b->base<=b:=by
 rcases open_slice hu h with ⟨rfl,_⟩ | ⟨a,len,cap,m,n,D,O,rfl,N,P,G,r,M,F⟩
 · exact ⟨_,[],rfl,SlR.nil _ _ _,by simp [Value.ownBlock]⟩
 have C:len<=m:=by rw [r];split <;> omega
 obtain ⟨L,z,d⟩:=zlv (fun i y=>∀ j,j<sz->w.cell? ((a.add (i * sz)).add j)=(f y)[j]?) len fun i him=>by
  obtain ⟨I,B,K⟩:=F i (by omega);rw [hC] at B;obtain ⟨_,p,s⟩:=World.cells?_some B;obtain ⟨y,rfl⟩:=hel _ _ _ K p;exact ⟨y,s⟩
 refine ⟨_,L,rfl,⟨some a,cap,by rw [z],by omega,G,fun hp=>?_⟩,fun b hb'=>?_⟩
 · obtain ⟨g,o,A⟩:=a
   have E:A=none:=by
    have c:∃ k,L[0]?=some k:=⟨_,List.getElem?_eq_getElem hp⟩;obtain ⟨k,c⟩:=c;have:=d 0 k c 0 hsz;have l:0<(f k).length:=(by rw [hf];exact hsz);rw [Nat.zero_mul] at this;simp only [Addr.add,if_true] at this;rw [List.getElem?_eq_getElem l] at this;unfold World.cell? at this
    cases A with
    | none=>rfl
    | some q =>
      simp only [Option.isSome_some,if_true] at this
      split at this <;> simp at this
   subst E;refine ⟨g,o,rfl,fun i y hy j u hu'=>?_⟩
   have J:j<sz:=by
    have:=(List.getElem?_eq_some_iff.1 hu').1
    rwa [hf] at this
   have:=d i y hy j J;rw [hu'] at this;rw [<-this]
   congr 1
   unfold Addr.add;by_cases h1:i * sz=0
   · by_cases h2:j=0
     · simp [h1,h2]
     simp [h1,h2]
   by_cases h2:j=0
   · simp [h1,h2]
   simp [h1,h2]
 simp [Value.ownBlock] at hb'
 omega
theorem Tryz.cells9:Tryz.prog.cellsOf 9=1:=by kernel_rfl
theorem Tryz.cells3:Tryz.prog.cellsOf 3=1:=by kernel_rfl
theorem Tryz.cells4:Tryz.prog.cellsOf 4=1:=by kernel_rfl
theorem Tryz.cells35:Tryz.prog.cellsOf 35=7:=by kernel_rfl
theorem Tryz.cells53:Tryz.prog.cellsOf 53=5:=by kernel_rfl
theorem Tryz.cells94:Tryz.prog.cellsOf 94=10:=by kernel_rfl
theorem Tryz.cells55:Tryz.prog.cellsOf 55=1:=by kernel_rfl
theorem Tryz.cells33:Tryz.prog.cellsOf 33=1:=by kernel_rfl
theorem zwy (n:Nat) (cs:List Value) (x:DataW H×List MemPlace) (h:DataW.trod enc Tryz.prog w base spare held n 53 cs=some x) (hl:cs.length=5):∃ y,cs=cmpC y:=by
 obtain ⟨j,b,_,_,_,c,a⟩:=DataW.trod_struct Tryz.underlying53 h
 match cs,hl with
 | [c0,c1,c2,c3,c4],_ =>
   match j,c with
   | [y0,y1,y2,y3,y4],_ =>
     have s:DataW.trod enc Tryz.prog w base spare held b 9 [c0]=some y0:=(by have:=a 0 _ rfl;simpa [Tryz.cells9] using this);have t:DataW.trod enc Tryz.prog w base spare held b 3 [c1]=some y1:=(by have:=a 1 _ rfl;simpa [Tryz.cells3] using this);have k:DataW.trod enc Tryz.prog w base spare held b 3 [c2]=some y2:=(by have:=a 2 _ rfl;simpa [Tryz.cells3] using this);have u:DataW.trod enc Tryz.prog w base spare held b 3 [c3]=some y3:=(by have:=a 3 _ rfl;simpa [Tryz.cells3] using this);have q:DataW.trod enc Tryz.prog w base spare held b 9 [c4]=some y4:=(by have:=a 4 _ rfl;simpa [Tryz.cells9] using this);obtain ⟨r,i,_⟩:=DataW.trod_string Tryz.underlying9 s;obtain ⟨m,g,_⟩:=DataW.trod_int Tryz.underlying3 t;obtain ⟨p,e,_⟩:=DataW.trod_int Tryz.underlying3 k
     obtain ⟨o,f,_⟩:=DataW.trod_int Tryz.underlying3 u;obtain ⟨l,d,_⟩:=DataW.trod_string Tryz.underlying9 q;simp only [List.cons.injEq,and_true] at i g e f d;subst i g e f d;exact ⟨⟨r,m,p,o,l⟩,rfl⟩
theorem zuu (n:Nat) (cs:List Value) (x:DataW H×List MemPlace) (h:DataW.trod enc Tryz.prog w base spare held n 35 cs=some x) (hl:cs.length=7):∃ y,cs=rgC y:=by
 obtain ⟨l,b,_,_,_,c,a⟩:=DataW.trod_struct Tryz.underlying35 h
 match cs,hl with
 | [c0,c1,c2,c3,c4,c5,c6],_ =>
   match l,c with
   | [y0,y1,y2,y3,y4,y5,y6],_ =>
     have B:DataW.trod enc Tryz.prog w base spare held b 9 [c0]=some y0:=(by have:=a 0 _ rfl;simpa [Tryz.cells9] using this);have C:DataW.trod enc Tryz.prog w base spare held b 9 [c1]=some y1:=(by have:=a 1 _ rfl;simpa [Tryz.cells9] using this);have m:DataW.trod enc Tryz.prog w base spare held b 3 [c2]=some y2:=(by have:=a 2 _ rfl;simpa [Tryz.cells3] using this);have D:DataW.trod enc Tryz.prog w base spare held b 3 [c3]=some y3:=(by have:=a 3 _ rfl;simpa [Tryz.cells3] using this);have v:DataW.trod enc Tryz.prog w base spare held b 4 [c4]=some y4:=(by have:=a 4 _ rfl;simpa [Tryz.cells4] using this);have q:DataW.trod enc Tryz.prog w base spare held b 4 [c5]=some y5:=(by have:=a 5 _ rfl;simpa [Tryz.cells4] using this)
     have A:DataW.trod enc Tryz.prog w base spare held b 4 [c6]=some y6:=(by have:=a 6 _ rfl;simpa [Tryz.cells4] using this);obtain ⟨z,k,_⟩:=DataW.trod_string Tryz.underlying9 B;obtain ⟨r,j,_⟩:=DataW.trod_string Tryz.underlying9 C;obtain ⟨t,e,_⟩:=DataW.trod_int Tryz.underlying3 m;obtain ⟨s,i,_⟩:=DataW.trod_int Tryz.underlying3 D;obtain ⟨p,d,_⟩:=DataW.trod_bool Tryz.underlying4 v;obtain ⟨u,f,_⟩:=DataW.trod_bool Tryz.underlying4 q;obtain ⟨o,g,_⟩:=DataW.trod_bool Tryz.underlying4 A;simp only [List.cons.injEq,and_true] at k j e i d f g;subst k j e i d f g;exact ⟨⟨z,r,t,s,p,u,o⟩,rfl⟩
theorem zpd (n:Nat) (cs:List Value) (x:DataW H×List MemPlace) (h:DataW.trod enc Tryz.prog w base spare held n 94 cs=some x) (hl:cs.length=10):∃ y,cs=opC y:=by
 obtain ⟨j,b,_,_,_,d,a⟩:=DataW.trod_struct Tryz.underlying94 h
 match cs,hl with
 | [c0,c1,c2,c3,c4,c5,c6,c7,c8,c9],_ =>
   match j,d with
   | [y0,y1,y2,y3],_ =>
     have o:DataW.trod enc Tryz.prog w base spare held b 3 [c0]=some y0:=(by have:=a 0 _ rfl;simpa [Tryz.cells3] using this);have p:DataW.trod enc Tryz.prog w base spare held b 35 [c1,c2,c3,c4,c5,c6,c7]=some y1:=(by have:=a 1 _ rfl;simpa [Tryz.cells35] using this);have k:DataW.trod enc Tryz.prog w base spare held b 9 [c8]=some y2:=(by have:=a 2 _ rfl;simpa [Tryz.cells9] using this);have q:DataW.trod enc Tryz.prog w base spare held b 3 [c9]=some y3:=(by have:=a 3 _ rfl;simpa [Tryz.cells3] using this);obtain ⟨m,f,_⟩:=DataW.trod_int Tryz.underlying3 o;obtain ⟨r,c⟩:=zuu _ _ _ p rfl;obtain ⟨l,g,_⟩:=DataW.trod_string Tryz.underlying9 k;obtain ⟨i,e,_⟩:=DataW.trod_int Tryz.underlying3 q;unfold rgC at c;simp only [List.cons.injEq,and_true] at f c g e;obtain ⟨rfl,rfl,rfl,rfl,rfl,rfl,rfl⟩:=c
     subst f g e;exact ⟨⟨m,r,l,i⟩,rfl⟩
end
section
variable {H:Type} {enc:TypeId×Value->H} {w:World} {base:Nat} {spare:Nat->Bool} {held:Bool}
theorem Tryz.cells36:Tryz.prog.cellsOf 36=1:=by kernel_rfl
theorem Tryz.cells38:Tryz.prog.cellsOf 38=12:=by kernel_rfl
theorem zwx (n:Nat) (cs:List Value) (x:DataW H×List MemPlace) (h:DataW.trod enc Tryz.prog w base spare held n 9 cs=some x) (_:cs.length=1):∃ y,cs=strC y:=by
 obtain ⟨s,e,_⟩:=DataW.trod_string Tryz.underlying9 h;exact ⟨s,e⟩
theorem zwz (n:Nat) (cs:List Value) (x:DataW H×List MemPlace) (h:DataW.trod enc Tryz.prog w base spare held n 38 cs=some x) (hl:cs.length=12) :
 ∃ q:Cal×List Opr×List ByteArray,cs=calC q/\SlR w 10 opC q.1.ops q.2.1/\SlR w 1 strC q.1.keys q.2.2:=by
 obtain ⟨k,a,_,_,_,d,b⟩:=DataW.trod_struct Tryz.underlying38 h
 match cs,hl with
 | [c0,c1,c2,c3,c4,c5,c6,c7,c8,c9,c10,c11],_ =>
   match k,d with
   | [y0,y1,y2,y3,y4,y5],_ =>
     have A:DataW.trod enc Tryz.prog w base spare held a 3 [c0]=some y0:=(by have:=b 0 _ rfl;simpa [Tryz.cells3,Value.cells] using this);have B:DataW.trod enc Tryz.prog w base spare held a 33 [c1]=some y1:=(by have:=b 1 _ rfl;simpa [Tryz.cells33,Value.cells] using this);have l:DataW.trod enc Tryz.prog w base spare held a 35 [c2,c3,c4,c5,c6,c7,c8]=some y2:=(by have:=b 2 _ rfl;simpa [Tryz.cells35,Value.cells] using this);have C:DataW.trod enc Tryz.prog w base spare held a 3 [c9]=some y3:=(by have:=b 3 _ rfl;simpa [Tryz.cells3,Value.cells] using this);have y:DataW.trod enc Tryz.prog w base spare held a 3 [c10]=some y4:=(by have:=b 4 _ rfl;simpa [Tryz.cells3,Value.cells] using this)
     have p:DataW.trod enc Tryz.prog w base spare held a 36 [c11]=some y5:=(by have:=b 5 _ rfl;simpa [Tryz.cells36,Value.cells] using this);obtain ⟨z,j,_⟩:=DataW.trod_int Tryz.underlying3 A;obtain ⟨D,u,i,s,_⟩:=zfm opC Tryz.underlying33 Tryz.cells94 (by omega) zaf (fun n cs x=>zpd n cs x) B;obtain ⟨r,c⟩:=zuu _ _ _ l rfl;obtain ⟨t,g,_⟩:=DataW.trod_int Tryz.underlying3 C;obtain ⟨o,e,_⟩:=DataW.trod_int Tryz.underlying3 y;obtain ⟨E,m,f,v,_⟩:=zfm strC Tryz.underlying36 Tryz.cells9 (by omega) zej (fun n cs x=>zwx n cs x) p;unfold rgC at c;simp only [List.cons.injEq,and_true] at j i c g e f;obtain ⟨rfl,rfl,rfl,rfl,rfl,rfl,rfl⟩:=c;subst j i g e f;exact ⟨(⟨z,_,r,t,o,_⟩,u,m),rfl,s,v⟩
theorem zsh {b0:Nat} {v:Value} {d:DataW H} {p:List MemPlace} (hv:Value.okWide Tryz.prog w .any b0 22 v) (h:DataW.Trod enc Tryz.prog w base spare held 22 v d p):∃ l,CalR w v l:=by
 obtain ⟨a,len,cap,rfl⟩:=okWide_slice Tryz.underlying22 hv;obtain ⟨fuel,E⟩:=h;simp only [Value.cells] at E;rcases open_slice Tryz.underlying22 E with ⟨r,_⟩ | ⟨a,c,k,m,n,D,S,r,R,T,K,B,Q,J⟩
 · simp only [List.cons.injEq,and_true] at r
   rw [r];exact ⟨[],⟨SlR.nil _ _ _,by simp,by simp⟩⟩
 simp only [List.cons.injEq,and_true] at r
 rw [r];have O:c<=m:=(by rw [B];split <;> omega)
 obtain ⟨L,C,b⟩:=zlv (fun i (y:Cal×List Opr×List ByteArray)=>(∀ j,j<12->w.cell? ((a.add (i * 12)).add j)=(calC y)[j]?)/\SlR w 10 opC y.1.ops y.2.1/\SlR w 1 strC y.1.keys y.2.2) c fun i him=>by
  obtain ⟨P,G,N⟩:=J i (by omega);rw [Tryz.cells38] at G;obtain ⟨_,t,x⟩:=World.cells?_some G;obtain ⟨y,rfl,f,e⟩:=zwz _ _ _ N t;exact ⟨y,x,f,e⟩
 refine ⟨L,⟨⟨some a,k,by rw [C],by omega,K,fun hp=>?_⟩,fun i q hq=>(b i q hq).2.1,fun i q hq=>(b i q hq).2.2⟩⟩;obtain ⟨g,o,F⟩:=a
 have I:F=none:=by
  obtain ⟨s,z⟩:∃ s,L[0]?=some s:=⟨_,List.getElem?_eq_getElem hp⟩;have:=(b 0 s z).1 0 (by decide);have A:0<(calC s).length:=(by rw [zav];decide);rw [Nat.zero_mul] at this;simp only [Addr.add,if_true] at this;rw [List.getElem?_eq_getElem A] at this;unfold World.cell? at this
  cases F with
  | none=>rfl
  | some q =>
    simp only [Option.isSome_some,if_true] at this
    split at this <;> simp at this
 subst I;refine ⟨g,o,rfl,fun i y hy j u hu'=>?_⟩
 have M:j<12:=by
  have:=(List.getElem?_eq_some_iff.1 hu').1
  rwa [zav] at this
 have:=(b i y hy).1 j M;rw [hu'] at this;rw [<-this]
 congr 1
 unfold Addr.add;by_cases f:i * 12=0
 · by_cases e:j=0
   · simp [f,e]
   simp [f,e]
 by_cases e:j=0
 · simp [f,e]
 simp [f,e]
end
section
variable {H:Type} {enc:TypeId×Value->H} {w:World} {base:Nat} {spare:Nat->Bool} {held:Bool}
theorem Tryz.cells57:Tryz.prog.cellsOf 57=3:=by kernel_rfl
theorem zww (n:Nat) (cs:List Value) (x:DataW H×List MemPlace) (h:DataW.trod enc Tryz.prog w base spare held n 57 cs=some x) (hl:cs.length=3) :
 ∃ q:Txq,cs=txnC q/\SlR w 5 cmpC q.v q.cs/\SlR w 10 opC q.va q.la/\SlR w 10 opC q.vb q.lb:=by
 obtain ⟨g,a,_,_,_,c,b⟩:=DataW.trod_struct Tryz.underlying57 h
 match cs,hl with
 | [c0,c1,c2],_ =>
   match g,c with
   | [y0,y1,y2],_ =>
     have s:DataW.trod enc Tryz.prog w base spare held a 55 [c0]=some y0:=(by have:=b 0 _ rfl;simpa [Tryz.cells55,Value.cells] using this);have m:DataW.trod enc Tryz.prog w base spare held a 33 [c1]=some y1:=(by have:=b 1 _ rfl;simpa [Tryz.cells33,Value.cells] using this);have i:DataW.trod enc Tryz.prog w base spare held a 33 [c2]=some y2:=(by have:=b 2 _ rfl;simpa [Tryz.cells33,Value.cells] using this);obtain ⟨y,r,f,k,_⟩:=zfm cmpC Tryz.underlying55 Tryz.cells53 (by omega) zau (fun n cs x=>zwy n cs x) s;obtain ⟨t,o,e,l,_⟩:=zfm opC Tryz.underlying33 Tryz.cells94 (by omega) zaf (fun n cs x=>zpd n cs x) m;obtain ⟨u,p,d,j,_⟩:=zfm opC Tryz.underlying33 Tryz.cells94 (by omega) zaf (fun n cs x=>zpd n cs x) i;simp only [List.cons.injEq,and_true] at f e d;subst f e d
     exact ⟨⟨_,_,_,r,o,p⟩,rfl,k,l,j⟩
theorem zut {b0:Nat} {v:Value} {d:DataW H} {p:List MemPlace} (hv:Value.okWide Tryz.prog w .any b0 63 v) (h:DataW.Trod enc Tryz.prog w base spare held 63 v d p):∃ l,TxnsR w v l:=by
 obtain ⟨a,len,cap,rfl⟩:=okWide_slice Tryz.underlying63 hv;obtain ⟨fuel,E⟩:=h;simp only [Value.cells] at E;rcases open_slice Tryz.underlying63 E with ⟨r,_⟩ | ⟨a,c,k,m,n,D,T,r,S,U,K,B,R,J⟩
 · simp only [List.cons.injEq,and_true] at r
   rw [r];exact ⟨[],⟨SlR.nil _ _ _,by simp,by simp,by simp⟩⟩
 simp only [List.cons.injEq,and_true] at r
 rw [r];have O:c<=m:=(by rw [B];split <;> omega)
 obtain ⟨L,C,b⟩:=zlv (fun i (y:Txq)=>(∀ j,j<3->w.cell? ((a.add (i * 3)).add j)=(txnC y)[j]?)/\SlR w 5 cmpC y.v y.cs/\SlR w 10 opC y.va y.la/\SlR w 10 opC y.vb y.lb) c fun i him=>by
  obtain ⟨P,G,N⟩:=J i (by omega);rw [Tryz.cells57] at G;obtain ⟨_,t,x⟩:=World.cells?_some G;obtain ⟨y,rfl,f,e,Q⟩:=zww _ _ _ N t;exact ⟨y,x,f,e,Q⟩
 refine ⟨L,⟨⟨some a,k,by rw [C],by omega,K,fun hp=>?_⟩,fun i q hq=>(b i q hq).2.1,fun i q hq=>(b i q hq).2.2.1,fun i q hq=>(b i q hq).2.2.2⟩⟩;obtain ⟨g,o,F⟩:=a
 have I:F=none:=by
  obtain ⟨s,z⟩:∃ s,L[0]?=some s:=⟨_,List.getElem?_eq_getElem hp⟩;have:=(b 0 s z).1 0 (by decide);have A:0<(txnC s).length:=(by rw [zcr];decide);rw [Nat.zero_mul] at this;simp only [Addr.add,if_true] at this;rw [List.getElem?_eq_getElem A] at this;unfold World.cell? at this
  cases F with
  | none=>rfl
  | some q =>
    simp only [Option.isSome_some,if_true] at this
    split at this <;> simp at this
 subst I;refine ⟨g,o,rfl,fun i y hy j u hu'=>?_⟩
 have M:j<3:=by
  have:=(List.getElem?_eq_some_iff.1 hu').1
  rwa [zcr] at this
 have:=(b i y hy).1 j M;rw [hu'] at this;rw [<-this]
 congr 1
 unfold Addr.add;by_cases f:i * 3=0
 · by_cases e:j=0
   · simp [f,e]
   simp [f,e]
 by_cases e:j=0
 · simp [f,e]
 simp [f,e]
end
end Go.Proofs.YthljnnjpmdgkoaaGreat