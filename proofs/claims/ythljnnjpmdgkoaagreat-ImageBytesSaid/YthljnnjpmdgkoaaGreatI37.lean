/- Own lemmas. -/
import Derived.Test.YthljnnjpmdgkoaaGreatI36
import Derived.Test.YthljnnjpmdgkoaaGreatI31
import Derived.Test.YthljnnjpmdgkoaaGreatI28
import Derived.Test.YthljnnjpmdgkoaaGreatI30
import Derived.Test.YthljnnjpmdgkoaaGreatI16
import Derived.Test.YthljnnjpmdgkoaaGreatI20
import Derived.Test.YthljnnjpmdgkoaaGreatI18
namespace Go.Proofs.YthljnnjpmdgkoaaGreat
open Go Go.Proofs Go.RowKit
structure RInv (D:Doc):Prop where
 kv:∀ k∈D.kvs,MayP k D.mark
 ev:∀ e∈D.events,EvW e
 pm:∀ e∈D.events,e.kv.mod=D.mark->PrevW e
 mkd:∀ e∈D.events,e.kv.mod=D.mark->hasL D.kvs e.kv.key=if e.kind=1 then some e.kv else none
 fr:∀ k∈D.kvs,k.mod=D.mark->∃ e∈D.events,e.kind=1/\e.kv=k
theorem RInv.prevs {n:Nat} {D:Doc} (h:RInv D) (hd:DocOk n D) (hK:KeysOk D) (hs:KSorted D.kvs):∀ (i:Nat) (e:Ev),D.events[i]?=some e->PrevW e:=by
 intro i
 induction i using Nat.strongRecOn with
 | _ i ih =>
   intro e k;have f:=List.mem_of_getElem? k;have t:=hd.lo e f;by_cases hm:e.kv.mod=D.mark
   · exact h.pm e f hm
   have m:=hd.prev_at k (by omega)
   cases hh:hasL (foldTo D i) e.kv.key with
   | none=>left;rw [m,hh];rfl
   | some y =>
     right
     rw [hh] at m;have o:e.prev=y:=m;have v:=List.mem_of_find?_eq_some hh;have g:y.key=e.kv.key:=zas.1 (by have:=List.find?_some hh;exact this);rw [o];refine ⟨g,?_⟩;rcases zci hs _ y v with l | ⟨d,l,q,p⟩
     · exact (h.kv y l).mono (by omega)
     obtain ⟨r,w⟩:=List.mem_filter.1 l
     obtain ⟨j,c⟩:=List.mem_iff_getElem?.1 r
     have b:j<i:=by
      have:=(List.getElem?_eq_some_iff.1 c).1;simp at this;omega
     rw [List.getElem?_take,if_pos b] at c;have s:=zcy hd.es c k (by omega);have u:d.kv.mod≠e.kv.mod:=fun hq=>hd.uniq_at c k b hq (by rw [<-p];exact g);have a:=List.mem_of_getElem? c;have:=znj (h.ev d a) q (hK.evs d a) (hd.lo d a).1 (ih j b d c);rw [p];exact this.mono (by omega)
theorem RInv.prevM {n:Nat} {D:Doc} (h:RInv D) (hd:DocOk n D) (hK:KeysOk D) (hs:KSorted D.kvs) {e:Ev} (he:e∈D.events):PrevW e:=by
 obtain ⟨i,a⟩:=List.mem_iff_getElem?.1 he;exact h.prevs hd hK hs i e a
theorem RInv.mayAt {n:Nat} {D:Doc} (h:RInv D) (hd:DocOk n D) (hK:KeysOk D) (hs:KSorted D.kvs) {r:Int} (hr:D.mark<=r) {y:Kv} (hy:y∈D.at r):MayP y r:=by
 rcases zci hs _ y hy with b | ⟨e,b,d,rfl⟩
 · exact (h.kv y b).mono hr
 obtain ⟨a,c⟩:=List.mem_filter.1 b
 simp only [Bool.and_eq_true,decide_eq_true_eq] at c;exact (znj (h.ev e a) d (hK.evs e a) (hd.lo e a).1 (h.prevM hd hK hs a)).mono c.2
theorem RInv.new:RInv newD:=⟨fun k hk=>by simp [newD] at hk,fun e he=>by simp [newD] at he,fun e he=>by simp [newD] at he,fun e he=>by simp [newD] at he,fun k hk=>by simp [newD] at hk⟩
theorem RInv.adds {D:Doc} (h:RInv D) (E:List Ev) (hE:∀ e∈E,EvW e) (hm:∀ e∈E,D.mark<e.kv.mod):RInv (D.adds E):=by
 obtain ⟨a,b,c⟩:=Doc.adds_parts D E
 have f:∀ e∈(D.adds E).events,e.kv.mod=D.mark->e∈D.events:=fun e d h1=>by
  rw [c] at d;rcases List.mem_append.1 d with d | d
  · exact d
  have:=hm e d;omega
 refine ⟨fun k hk=>?_,fun e d=>?_,fun e d h1=>?_,fun e d h1=>?_,fun k hk h1=>?_⟩
 · rw [b] at hk;rw [a];exact h.kv k hk
 · rw [c] at d
   rcases List.mem_append.1 d with d | d
   · exact h.ev e d
   exact hE e d
 · rw [a] at h1;exact h.pm e (f e d h1) h1
 · rw [a] at h1;rw [b];exact h.mkd e (f e d h1) h1
 rw [b] at hk;rw [a] at h1
 obtain ⟨e,d,g⟩:=h.fr k hk h1;exact ⟨e,by rw [c];exact List.mem_append_left _ d,g⟩
theorem RInv.cut {n:Nat} {D:Doc} (h:RInv D) (hd:DocOk n D) (hK:KeysOk D) (hs:KSorted D.kvs) {R:Int} (h1:D.mark<R):RInv (D.cut R):=by
 have a:∀ e∈(D.cut R).events,e∈D.events:=fun e he=>(List.mem_filter.1 he).1;refine ⟨fun k hk=>h.mayAt hd hK hs (by show D.mark<=R;omega) hk,fun e he=>h.ev e (a e he),fun e he _=>h.prevM hd hK hs (a e he),fun e he hm=>?_,fun k hk hm=>?_⟩
 · have j:e.kv.mod=R:=hm
   obtain ⟨i,s⟩:=List.mem_iff_getElem?.1 (a e he);obtain ⟨A,B,b⟩:=List.append_of_mem (a e he)
   show hasL (D.at R) e.kv.key=_
   unfold Doc.at;rw [b,List.filter_append,List.filter_cons,if_pos (by simp;omega)];refine zgq hs _ _ _ fun y hy hk=>?_;obtain ⟨f,l⟩:=List.mem_filter.1 hy;simp only [Bool.and_eq_true,decide_eq_true_eq] at l;have c:=hd.es;have d:=hd.uniq;rw [b] at c d;have q:=(List.pairwise_cons.1 (List.pairwise_append.1 c).2.1).1 y f;have o:=(List.pairwise_cons.1 (List.pairwise_append.1 d).2.1).1 y f;exact o (by omega) hk.symm
 have j:k.mod=R:=hm
 rcases zci hs _ k hk with g | ⟨e,g,p,rfl⟩
 · have:=(h.kv k g).ver;omega
 obtain ⟨m,r⟩:=List.mem_filter.1 g
 refine ⟨e,List.mem_filter.2 ⟨m,?_⟩,p,rfl⟩;have:=(hd.lo e m).2.2;simp;omega
theorem Good.evw {k:Nat} {S:St} {D:Doc} (h:Good k S D) (hk:k<=70) {ops:List Opr} (hc:checkE ops=0) (hw:Go.Proofs.YthljnnjpmdgkoaaGreat.whenAll S ops=0) (hks:∀ o∈ops,o.rg.key.size<=1099511627776) :
 ∀ i≤ ops.length,∀ e∈(Go.Proofs.YthljnnjpmdgkoaaGreat.runD D (ops.take i)).E,EvW e:=by
 intro i
 induction i with
 | zero=>intro _ e b;simp [Go.Proofs.YthljnnjpmdgkoaaGreat.runD] at b
 | succ i ih =>
   intro t;have c:=ih (by omega);obtain ⟨s,u,v⟩:=h.runD hk hc hw hks i (by omega);obtain ⟨o,l⟩:∃ o,ops[i]?=some o:=⟨_,List.getElem?_eq_getElem (by omega)⟩;have j:=List.mem_of_getElem? l;have a:=(zcz hc).2.1 o j;obtain ⟨⟨p,_⟩,_⟩:=h.runs hk hc hks i (by omega);rw [zkc _ _ l];generalize Go.Proofs.YthljnnjpmdgkoaaGreat.runD D (ops.take i)=q at *;generalize runR (D.rev+1) ⟨S,[],[]⟩ (ops.take i)=r at *;have f:KSorted (D.adds r.E).kvs:=(by rw [(Doc.adds_parts D r.E).2.1];exact h.cpl.ks);rcases zpf a with d | n | g
   · unfold stepD
     rw [if_pos d];intro e b;rcases List.mem_append.1 b with b | b
     · exact c e b
     rw [List.mem_singleton.1 b]
     unfold oneE at a;rw [if_neg (by omega),if_neg (by omega),if_pos d] at a
     split at a
     · rename_i hq;exact absurd a hq
     split at a
     · cases a
     split at a
     · exact .inl ⟨rfl,by show o.value.size<=1024;omega,by show 0<=o.lease;omega,rfl,rfl⟩
     cases a
   · unfold stepD
     rw [if_neg (by omega),if_neg (by omega)];intro e b;rcases List.mem_append.1 b with b | b
     · exact c e b
     obtain ⟨x,m,rfl⟩:=List.mem_map.1 b
     rw [zji,s] at m;have:=(p.doc.ver_at f (List.mem_filter.1 m).1).1;exact .inr ⟨rfl,by show 0<x.version;omega,rfl⟩
   unfold stepD
   rw [if_neg (by omega),if_pos g];exact c
theorem zux (D:Doc) (keys:List ByteArray):∀ i≤ keys.length,∀ e∈(dropsQ D (keys.take i)).2,EvW e:=by
 intro i
 induction i with
 | zero=>intro _ e a;simp [dropsQ] at a
 | succ i ih =>
   intro d;have b:=ih (by omega);obtain ⟨x,c⟩:∃ x,keys[i]?=some x:=⟨_,List.getElem?_eq_getElem (by omega)⟩;rw [zhc _ _ c];unfold dropQ
   split
   · rename_i hv
     intro e a;rcases List.mem_append.1 a with a | a
     · exact b e a
     rw [List.mem_singleton.1 a]
     exact .inr ⟨rfl,hv,rfl⟩
   exact b
theorem zox {k:Nat} {S:St} {D:Doc} (h:Good k S D) (hk:k<=70) {q:CalQ} (hq:fewCal q=true) (hK:KeysOk D) (hD:RInv D):RInv (doD S D q):=by
 obtain ⟨n,r,m,s,t⟩:=zdh hq;have p:=h.cpl.m0;unfold doD;by_cases h4:kindN q.1.kind=4
 · rw [if_pos h4];exact hD
 rw [if_neg h4]
 by_cases h5:kindN q.1.kind=5
 · rw [if_pos h5]
   split
   · rename_i hc
     obtain ⟨_,j⟩:=zfj hc;rw [h.cpl.mark] at j;exact hD.cut h.doc hK h.cpl.ks j
   exact hD
 rw [if_neg h5]
 by_cases h6:kindN q.1.kind=6
 · rw [if_pos h6];exact hD
 rw [if_neg h6]
 by_cases h7:kindN q.1.kind=7
 · rw [if_pos h7]
   obtain ⟨a,_⟩:=h.drops hk q.2.2 m q.2.2.length (Nat.le_refl _);obtain ⟨_,g,_⟩:=h.dropDoc hk q.2.2 m;have d:dropTo (D.rev+1) S q.2.2 q.2.2.length=q.2.2.foldl (dropR (D.rev+1)) (S,[]):=(by unfold dropTo;rw [List.take_length]);rw [d] at a;have b:=zux D q.2.2 q.2.2.length (Nat.le_refl _);rw [List.take_length,<-g,h.rev] at b;exact hD.adds _ b fun e d=>by rw [a.mods e d];omega
 rw [if_neg h7]
 by_cases ha:applyE S q.2.1=0
 · rw [if_pos ha]
   have c:∀ o∈q.2.1,o.rg.key.size<=1099511627776:=fun o ho=>by have:=(n o ho).1;omega
   obtain ⟨f,l⟩:=zbv ha;obtain ⟨⟨a,_⟩,_⟩:=h.runs hk f c q.2.1.length (Nat.le_refl _);obtain ⟨_,_,i⟩:=h.runD hk f l c q.2.1.length (Nat.le_refl _);have b:=h.evw hk f l c q.2.1.length (Nat.le_refl _);rw [i] at b;rw [List.take_length] at a b;exact hD.adds _ b fun e d=>by rw [a.mods e d];omega
 rw [if_neg ha];exact hD
theorem zgk {l:List CalQ} (h:zba l=true):∀ i≤ l.length,RInv (donesT l i).2:=by
 obtain ⟨e,b⟩:=zar h;have c:=zbe h;have d:=zdo h;intro i
 induction i with
 | zero=>intro _;exact RInv.new
 | succ i ih =>
   intro f;obtain ⟨q,a⟩:∃ q,l[i]?=some q:=⟨_,List.getElem?_eq_getElem (by omega)⟩;rw [zcq l a];exact zox (c i (by omega)) (by omega) (b q (List.mem_of_getElem? a)) (d i (by omega)) (ih (by omega))
theorem zpo {l m:List Kv} (h:l.Pairwise fun a b=>a.key≠b.key) (hs:∀ x∈l,x∈m):l.length<=m.length:=by
 induction l generalizing m with
 | nil=>exact Nat.zero_le _
 | cons x l ih =>
   obtain ⟨a,b,rfl⟩:=List.append_of_mem (hs x List.mem_cons_self);have f:=List.pairwise_cons.1 h
   have:=ih (m:=a++b) f.2 fun y hy=>by
    have c:=f.1 y hy;rcases List.mem_append.1 (hs y (List.mem_cons_of_mem _ hy)) with d | d
    · exact List.mem_append_left _ d
    rcases List.mem_cons.1 d with e | e
    · rw [e] at c;exact absurd rfl c
    exact List.mem_append_right _ e
   simp only [List.length_append,List.length_cons] at this ⊢
   omega
theorem zgy {l:List Ev} (p:Ev->Bool) (h:l.Pairwise fun a b=>p a=true->p b=true->a.kv.key≠b.kv.key):((l.filter p).map fun e=>e.kv).Pairwise fun a b=>a.key≠b.key:=by
 induction l with
 | nil=>exact List.Pairwise.nil
 | cons x l ih =>
   have c:=List.pairwise_cons.1 h;rw [List.filter_cons]
   split
   · rename_i hp
     rw [List.map_cons];refine List.pairwise_cons.2 ⟨fun y hy=>?_,ih c.2⟩;obtain ⟨e,g,rfl⟩:=List.mem_map.1 hy;obtain ⟨d,f⟩:=List.mem_filter.1 g;exact c.1 e d hp f
   exact ih c.2
theorem Good.right {k:Nat} {S:St} {D:Doc} (h:Good k S D) (hk:k<=70) (hK:KeysOk D) (hR:RInv D):zbg D:=by
 have g:=h.cpl.m0;have F:=h.rev1;have t:=h.cpl.ks
 have l:∀ e∈D.events,madeB e e.prev e.kv.mod=true:=fun e f=>by
  have G:wrap64 (e.prev.version+1)=e.prev.version+1:=by
   rcases hR.ev e f with ⟨c,_,_,_,u⟩ | ⟨c,u,_⟩
   · have:=h.doc.ver e f c
     unfold wrap64;omega
   rcases hR.prevM h.doc hK t f with p | ⟨_,p⟩
   · rw [p];show wrap64 (0+1)=0+1;unfold wrap64;omega
   have v:=h.doc.lo e f
   have A:=p.ver
   have:e.prev.version<=200:=by
    obtain ⟨_,_,_,N,O,P,L,M⟩:=p;by_cases hq:e.prev.mod=e.prev.create
    · have:=L hq;omega
    have:=M hq;omega
   unfold wrap64;omega
  unfold madeB;rw [if_neg (by rw [hK.evs e f,zgf];simp),G];rcases hR.ev e f with ⟨c,d,o,s,u⟩ | ⟨c,d,o⟩
  · rw [if_neg (by omega),c,s,u]
    simp [d,o]
  rw [if_pos c,<-o,zgf]
  simp [d]
 refine { m0:=g.1,mr:=g.2,top:=by omega,kvs:=fun i k hi=>⟨zez.2 (hR.kv k (List.mem_of_getElem? hi)),fun k' h0 hk'=>?_⟩,evs:=fun i x hi=>?_,last:=h.doc.revAt_last g.1 g.2,fresh:=?_ }
 · obtain ⟨H,I⟩:=List.getElem?_eq_some_iff.1 hi
   obtain ⟨J,K⟩:=List.getElem?_eq_some_iff.1 hk';have:=List.pairwise_iff_getElem.1 t (i-1) i J H (by omega);rw [I,K] at this;exact this
 · have m:=List.mem_of_getElem? hi
   have v:=h.doc.lo x m;have E:=h.doc.chain g.1 hi;refine ⟨by omega,by omega,by omega,fun j y hj hy f=>?_,fun hm=>?_,fun hm=>?_⟩
   · have:=h.doc.uniq_at hy hi hj f
     cases hq:keq y.kv.key x.kv.key
     · rfl
     exact absurd (zas.1 hq) this
   · have p:=hR.pm x m hm
     have q:=l x m;have w:=hR.mkd x m hm;rw [hm] at q;unfold zih;rw [if_neg,w]
     · rcases h.doc.kind x m with c | c
       · rw [if_pos c,if_pos c]
         exact zgf _
       rw [if_neg (by omega),if_neg (by omega)]
       rfl
     rintro (⟨a,b⟩ | a)
     · rcases p with p | ⟨z,r⟩
       · rw [p,zgf] at a;cases a
       rcases b with b | b
       · rw [zas.2 z] at b;cases b
       rw [hm] at r
       rw [zez.2 r] at b;cases b
     rw [q] at a;cases a
   rw [<-h.doc.prev_at hi (by omega)]
   exact l x m
 unfold freshK freshE
 rw [List.take_length,List.take_length]
 have B:(D.kvs.filter fun k=>k.mod==D.mark).length<=((D.events.filter fun x=>x.kv.mod==D.mark&&x.kind==1).map fun e=>e.kv).length:=by
  refine zpo ?_ fun x m=>?_
  · refine List.Pairwise.imp ?_ (List.Pairwise.sublist List.filter_sublist t)
    intro a b n e;rw [e,zbk] at n;cases n
  obtain ⟨c,d⟩:=List.mem_filter.1 m
  obtain ⟨e,f,o,s⟩:=hR.fr x c (by simpa using d);refine List.mem_map.2 ⟨e,List.mem_filter.2 ⟨f,?_⟩,s⟩;rw [s,o];simpa using d
 have C:((D.events.filter fun x=>x.kv.mod==D.mark&&x.kind==1).map fun e=>e.kv).length<=(D.kvs.filter fun k=>k.mod==D.mark).length:=by
  refine zpo ?_ fun x m=>?_
  · refine zgy _ (h.doc.uniq.imp fun {a b} n c d=>n ?_)
    simp only [Bool.and_eq_true,beq_iff_eq] at c d;rw [c.1,d.1]
  obtain ⟨e,f,rfl⟩:=List.mem_map.1 m
  obtain ⟨c,d⟩:=List.mem_filter.1 f;simp only [Bool.and_eq_true,beq_iff_eq] at d;have o:=hR.mkd e c d.1;rw [if_pos d.2] at o;refine List.mem_filter.2 ⟨((zbm t _ _).1 o).1,by simpa using d.1⟩
 simp only [List.length_map] at B C;omega
theorem MadeOk.lived {n:Nat} {D:Doc} {S:St} (h:MadeOk D S) (hd:DocOk n D) {k:ByteArray} (hk:(getT S.T k).2=true):∃ r y,D.mark<=r/\hasL (D.at r) k=some y:=by
 have l:=h.cpl.ks;rcases h.keys k hk with ⟨y,i,e⟩ | ⟨e,p,o,s,g⟩
 · refine ⟨D.mark,y,Int.le_refl _,?_⟩
   have f:D.at D.mark=D.kvs:=by
    unfold Doc.at;have:(D.events.filter fun e=>decide (D.mark<e.kv.mod)&&decide (e.kv.mod<=D.mark)) = []:=List.filter_eq_nil_iff.2 fun z _=>by first | (simp;omega) | simp
    rw [this]
    rfl
   rw [f];exact (zbm l k y).2 ⟨i,e⟩
 refine ⟨e.kv.mod,e.kv,by omega,?_⟩
 obtain ⟨A,B,a⟩:=List.append_of_mem p
 unfold Doc.at;rw [a,List.filter_append,List.filter_cons,if_pos (by simp;omega),<-g];rw [zgq l _ e _ fun y i hyk=>?_,if_pos o];obtain ⟨d,j⟩:=List.mem_filter.1 i;simp only [Bool.and_eq_true,decide_eq_true_eq] at j;have b:=hd.es;have c:=hd.uniq;rw [a] at b c;have q:=(List.pairwise_cons.1 (List.pairwise_append.1 b).2.1).1 y d;have m:=(List.pairwise_cons.1 (List.pairwise_append.1 c).2.1).1 y d;exact m (by omega) hyk.symm
theorem MadeOk.good {k:Nat} {S0 S:St} {D:Doc} (h0:Good k S0 D) (hk:k<=1000) (h:MadeOk D S):Good (k+1) S D:=by
 have c:D.events.length<=20000 * k:=by have:=h0.ok.ev;rw [<-h0.cpl.events];omega
 have d:D.kvs.length<=16 * k:=by
  have m:=h0.size;rw [<-zeg h0];unfold zap;exact Nat.le_trans (List.length_filterMap_le _ _) (by omega)
 have j:S.T.length<=S0.T.length:=by
  have:(S.T.map (·.1)).length<=(S0.T.map (·.1)).length:=by
   classical
   refine znh _ _ ?_ fun x hx=>?_
   · unfold List.Nodup
     rw [List.pairwise_map];refine List.Pairwise.imp (fun {p q} hpq e=>?_) h.srt;rw [e,zbk] at hpq;cases hpq
   obtain ⟨p,f,rfl⟩:=List.mem_map.1 hx
   obtain ⟨r,y,g,l⟩:=h.lived h0.doc (by rw [zcp h.srt f]);have a:=h0.cpl.lives p.1 r g;rw [l] at a
   have b:(getT S0.T p.1).2=true:=by
    cases hg:(getT S0.T p.1).2 with
    | true=>rfl
    | false =>
      unfold livesS at a;rw [hg,if_neg (by decide)] at a;cases a
   exact List.mem_map.2 ⟨_,zfb b,rfl⟩
  simpa using this
 have i:=h0.size;exact { cpl:=h.cpl,doc:=h0.doc.mono (by omega),ok:=h.ok.mono (by omega),size:=by omega,srt:=h.srt,more:=h.more.mono (by omega),rev:=h.rev,rev1:=by have:=h0.rev1;omega }
def dE (D:Doc) (q:CalQ):Int :=
 if kindN q.1.kind=4 then zwh D q.1.rg else if kindN q.1.kind=5 then zgc D q.1.rev else if kindN q.1.kind=6 then znt D q.1.rev q.1.upto else if kindN q.1.kind=7 then 0 else zlh D q.2.1
def dD (D:Doc) (q:CalQ):Doc :=
 if kindN q.1.kind=4 then D else if kindN q.1.kind=5 then (if zgc D q.1.rev=0 then D.cut q.1.rev else D) else if kindN q.1.kind=6 then D else if kindN q.1.kind=7 then dropDD D q.2.2 else zoc D q.2.1
theorem Good.doDoc {k:Nat} {S:St} {D:Doc} (h:Good k S D) (hk:k<=70) {q:CalQ} (hq:fewCal q=true):doE S q=dE D q/\doD S D q=dD D q:=by
 obtain ⟨c,e,d,f,g⟩:=zdh hq;unfold doE dE doD dD;by_cases h4:kindN q.1.kind=4
 · simp only [if_pos h4,and_true]
   unfold rangeE zwh;rw [h.when]
 simp only [if_neg h4]
 by_cases h5:kindN q.1.kind=5
 · simp only [if_pos h5,h.compactDoc,and_self]
 simp only [if_neg h5]
 by_cases h6:kindN q.1.kind=6
 · simp only [if_pos h6,and_true]
   exact (h.eventsDoc _ _).1
 simp only [if_neg h6]
 by_cases h7:kindN q.1.kind=7
 · simp only [if_pos h7,true_and]
   exact (h.dropDoc hk q.2.2 d).2.2
 simp only [if_neg h7]
 obtain ⟨a,b⟩:=h.applyDoc hk (ops:=q.2.1) (fun o ho=>by have:=(c o ho).1;omega);refine ⟨a,?_⟩;by_cases hz:applyE S q.2.1=0
 · rw [if_pos hz]
   exact (b hz).2.2
 rw [if_neg hz]
 unfold zoc;rw [<-a,if_neg hz]
def dDs (D:Doc) (l:List CalQ) (i:Nat):Doc:=(l.take i).foldl dD D
def dTs (S:St) (l:List CalQ) (i:Nat):St:=(l.take i).foldl doT S
theorem ztr (D:Doc) (l:List CalQ) {i:Nat} {q:CalQ} (h:l[i]?=some q):dDs D l (i+1)=dD (dDs D l i) q:=by
 unfold dDs;rw [List.take_add_one,h,List.foldl_append]
 rfl
theorem znx (S:St) (l:List CalQ) {i:Nat} {q:CalQ} (h:l[i]?=some q):dTs S l (i+1)=doT (dTs S l i) q:=by
 unfold dTs;rw [List.take_add_one,h,List.foldl_append]
 rfl
theorem Good.goes {k:Nat} {S:St} {D:Doc} (h:Good k S D) (hk:k<=40) {l:List CalQ} (hl:zba l=true):∀ i≤ l.length,Good (k+i) (dTs S l i) (dDs D l i):=by
 obtain ⟨f,b⟩:=zar hl;intro i
 induction i with
 | zero=>intro _;exact h
 | succ i ih =>
   intro g;obtain ⟨q,a⟩:∃ q,l[i]?=some q:=⟨_,List.getElem?_eq_getElem (by omega)⟩;have c:=ih (by omega);have d:=c.does (by omega) (b q (List.mem_of_getElem? a));have e:=c.doDoc (by omega) (b q (List.mem_of_getElem? a));rw [ztr D l a,znx S l a,<-e.2];exact d
theorem zkj {x:Kv} {r:Int} (h:MayP x r):x.mod<=r/\x.version<=r:=by
 obtain ⟨_,_,_,c,d,f,a,b⟩:=h;by_cases e:x.mod=x.create
 · have:=a e;omega
 have:=b e;omega
theorem zxq {l:List CalQ} (h:zba l=true):DocN64 (donesT l l.length).2:=by
 have j:=(zar h).1;have a:=zbe h l.length (Nat.le_refl _);have b:=zgk h l.length (Nat.le_refl _);have g:=zdo h l.length (Nat.le_refl _);have d:=zzw h;have m:=a.cpl.m0;have n:=a.rev1
 have c:(donesT l l.length).2.kvs.length<=16 * l.length:=by
  have f:=a.size;rw [<-zeg a];unfold zap;exact Nat.le_trans (List.length_filterMap_le _ _) (by omega)
 have i:(donesT l l.length).2.events.length<=20000 * l.length:=by have:=a.ok.ev;rw [<-a.cpl.events];omega
 refine ⟨fun k hk=>?_,fun x hx=>?_,d.kvs,d.evs,by omega⟩
 · have:=zkj (b.kv k hk)
   omega
 have f:=a.doc.lo x hx
 refine ⟨by omega,by omega,?_⟩;rcases b.prevM a.doc g a.cpl.ks hx with e | ⟨_,e⟩
 · rw [e]
   exact ⟨by decide,by decide⟩
 have:=zkj e
 omega
theorem zrq {l:List CalQ} (h:zba l=true):zbg (donesT l l.length).2:=by
 have a:=(zar h).1;exact (zbe h l.length (Nat.le_refl _)).right (by omega) (zdo h l.length (Nat.le_refl _)) (zgk h l.length (Nat.le_refl _))
set_option maxRecDepth 100000
theorem zym {W:World} {b:Nat} {o1:Opr} {t:TypeId} (h:W.heap[b]?=some (.cells (opC o1).toArray t (0,0))):SlR W 10 opC (.slice (some ⟨b,0,none⟩) 1 1) [o1]:=by
 refine ⟨_,1,rfl,by simp,by decide,fun _=>⟨b,0,rfl,fun i x hx j u hu=>?_⟩⟩;have a:i=0:=by have:=(List.getElem?_eq_some_iff.1 hx).1;simp at this;omega
 subst a;obtain rfl:o1=x:=by simpa using hx
 unfold World.cell?;simp only [h,Nat.zero_mul,Nat.zero_add,Option.isSome_none,Bool.false_eq_true,if_false];simpa using hu
theorem SlR.frB {α:Type} {f:α->List Value} {w w':World} {sz:Nat} {v:Value} {L:List α} (h:SlR w sz f v L) (_:∀ x,(f x).length=sz) (_:0<sz) (hW:Fr (fun b=>w.heap.size<=b) w w'):SlR w' sz f v L:=by
 obtain ⟨a,cap,rfl,d,e,k⟩:=h;refine ⟨a,cap,rfl,d,e,fun hp=>?_⟩;obtain ⟨g,o,rfl,l⟩:=k hp;refine ⟨g,o,rfl,fun i x hx j u hu=>?_⟩;have c:=l i x hx j u hu;have m:g<w.heap.size:=World.block_lt_of_cell? _ _ c;exact hW.cell c (by show ¬ w.heap.size<=g;omega)
theorem zqh {TA:zao} (hT:TreeOk TA 1000000) {k:Nat} {S:St} {D:Doc} (h:Good k S D) (hk:k<=70) (w:World) (s:Nat) (F:Nat->Prop) (hS:zaj TA w s S F) :
 Calls Tryz.prog 23 #[.pointer (some ⟨s,0,none⟩)] w fun e w'=>∃ a1 c1 a2 c2,e=.returned (stateV D.rev D.mark (.slice a1 D.kvs.length c1) (.slice a2 D.events.length c2))/\SlF w' 99 6 kvC (.slice a1 D.kvs.length c1) D.kvs/\SlF w' 101 13 evC (.slice a2 D.events.length c2) D.events/\Fr No w w'/\(∀ b,(Value.slice a1 D.kvs.length c1).ownBlock=some b->w.heap.size<=b)/\(∀ b,(Value.slice a2 D.events.length c2).ownBlock=some b->w.heap.size<=b):=by
 refine (zlk hT (n:=20000 * k) (by omega) w s S F hS h.ok (by have:=h.size;omega)).mono ?_;rintro e w' ⟨kv,i,rfl,a,c,d,f,g⟩;rw [zeg h] at a;rw [h.cpl.events] at c;obtain ⟨a1,c1,rfl,_,_,_⟩:=a.shape;obtain ⟨a2,c2,rfl,_,_,_⟩:=c.shape;exact ⟨a1,c1,a2,c2,by rw [h.rev,h.cpl.mark],a,c,d,f,g⟩
def docB (D:Doc):List UInt8:=stB D.rev D.mark D.kvs D.events
theorem zzl {S:St} {D:Doc} (hc:Cpl S D) (hs:Sorted S.T):zap S S.T S.mark=D.kvs:=by
 have c:=hc.mark;have a:=hc.between hs ⟨#[]⟩ ⟨#[]⟩ (r:=D.mark) (Int.le_refl _);rw [zgg] at a;rw [c,a]
 have b:(D.at D.mark).filter (fun y=>rgB ⟨#[]⟩ ⟨#[]⟩ y.key)=D.at D.mark:=by
  rw [List.filter_eq_self];intro y _;unfold rgB;rw [zkp];simp [Lib.toList_data]
 rw [b]
 unfold Doc.at;have:(D.events.filter fun e=>decide (D.mark<e.kv.mod)&&decide (e.kv.mod<=D.mark)) = []:=List.filter_eq_nil_iff.2 fun e _=>by simp <;> omega
 rw [this]
 rfl
theorem zqg {TA:zao} (hT:TreeOk TA 1000000) {n:Nat} {S:St} {D:Doc} (hc:Cpl S D) (hs:Sorted S.T) (hr:S.rev=D.rev) (hn:n<=1099511627) (hok:StOk n S) (hN:S.T.length<=1099511627) (w:World) (s:Nat) (F:Nat->Prop) (hS:zaj TA w s S F) :
 Calls Tryz.prog 23 #[.pointer (some ⟨s,0,none⟩)] w fun e w'=>∃ a1 c1 a2 c2,e=.returned (stateV D.rev D.mark (.slice a1 D.kvs.length c1) (.slice a2 D.events.length c2))/\SlF w' 99 6 kvC (.slice a1 D.kvs.length c1) D.kvs/\SlF w' 101 13 evC (.slice a2 D.events.length c2) D.events/\Fr No w w'/\(∀ b,(Value.slice a1 D.kvs.length c1).ownBlock=some b->w.heap.size<=b)/\(∀ b,(Value.slice a2 D.events.length c2).ownBlock=some b->w.heap.size<=b):=by
 refine (zlk hT hn w s S F hS hok hN).mono ?_;rintro e w' ⟨kv,i,rfl,a,c,d,f,g⟩;rw [zzl hc hs] at a;rw [hc.events] at c;obtain ⟨a1,c1,rfl,_,_,_⟩:=a.shape;obtain ⟨a2,c2,rfl,_,_,_⟩:=c.shape;exact ⟨a1,c1,a2,c2,by rw [hr,hc.mark],a,c,d,f,g⟩
set_option maxHeartbeats 4000000 in
theorem ziv {TA:zao} (hT:TreeOk TA 1000000) {n:Nat} {S:St} {D:Doc} (hc:Cpl S D) (hs:Sorted S.T) (hr:S.rev=D.rev) (hn:n<=1099511627) (hok:StOk n S) (hN:S.T.length<=1099511627) (hsz:(docB D).length<=140737488355328) (hl:D.kvs.length+D.events.length<=1000000) (w:World) (s:Nat) (F:Nat->Prop) (hS:zaj TA w s S F) :
 Calls Tryz.prog 42 #[.pointer (some ⟨s,0,none⟩)] w fun e w'=>e=.returned (.string ⟨(docB D).toArray⟩)/\Fr No w w':=by
 have a:=zqg hT hc hs hr hn hok hN w s F hS;have f:=H_ a;have g:=H_ hsz;clear a hsz hc hs hr hn hok hN hS;go_enter Tryz.func42,Tryz.ntmps42
 go_wp2_with (first
  | (go_at_call 23;(with_reducible refine f.out.mono ?_);rintro e w1 ⟨r,u,t,v,rfl,k,i,l,o,p⟩
     have m:=zhg w1 D.rev D.mark (.slice r D.kvs.length u) (.slice t D.events.length v) D.kvs D.events k i (SlF.apart k i (by decide)) g.out (by omega) (by omega);have q:=H_ m;have c:=H_ o;have d:=H_ p;have b:=H_ l;clear m k i o p l)
  | (go_at_call 92;(with_reducible refine q.out.mono ?_);rintro e y ⟨rfl,x⟩))
 go_ret;refine ⟨rfl,b.out.trans x fun j hj h=>?_⟩;rcases h with h | h
 · have:=c.out j h;omega
 have:=d.out j h;omega
theorem zbl {TA:zao} (hT:TreeOk TA 1000000) {k:Nat} {S:St} {D:Doc} (h:Good k S D) (hk:k<=70) (hsz:(docB D).length<=140737488355328) (hl:D.kvs.length+D.events.length<=1000000) (w:World) (s:Nat) (F:Nat->Prop) (hS:zaj TA w s S F) :
 Calls Tryz.prog 42 #[.pointer (some ⟨s,0,none⟩)] w fun e w'=>e=.returned (.string ⟨(docB D).toArray⟩)/\Fr No w w' :=
 ziv hT h.cpl h.srt h.rev (n:=20000 * k) (by omega) h.ok (by have:=h.size;omega) hsz hl w s F hS
theorem zqe {TA:zao} (hT:TreeOk TA 1000000) {S:St} {D:Doc} (h:MadeOk D S) (hsz:(docB D).length<=140737488355328) (hl:D.kvs.length+D.events.length<=1000000) (w:World) (s:Nat) (F:Nat->Prop) (hS:zaj TA w s S F) :
 Calls Tryz.prog 42 #[.pointer (some ⟨s,0,none⟩)] w fun e w'=>e=.returned (.string ⟨(docB D).toArray⟩)/\Fr No w w' :=
 ziv hT h.cpl h.srt h.rev (n:=D.kvs.length+D.events.length) (by omega) h.ok (by have:=h.size;omega) hsz hl w s F hS
theorem zmb (w:World):Calls Tryz.prog 42 #[.pointer none] w fun e w'=>e=.returned (.string ⟨#[]⟩)/\Fr No w w':=by
 go_enter Tryz.func42,Tryz.ntmps42;go_wp2;go_ret;exact ⟨rfl,Fr.refl _ _⟩
structure DocImg (D:Doc):Prop where
 right:zbg D
 n64:DocN64 D
 big:D.mark<=D.rev->D.rev<=1099511627776->D.mark<=1099510000000
 rev:N64 D.rev
 mark:N64 D.mark
 kvs:∀ x∈D.kvs,KvN x
 evs:∀ x∈D.events,EvN x
 len:(docB D).length<=9000000000
def LoadY (TA:zao) (D:Doc) (w:World) (e:Ending) (w':World):Prop :=
 ∃ a S F,e=.returned (.tuple #[.pointer (some ⟨a,0,none⟩),.int .i64 0])/\zaj TA w' a S F/\MadeOk D S/\(∀ b,F b->w.heap.size<=b)/\Fr No w w'
theorem zdl {TA:zao} (hT:TreeOk TA 1000000) {D:Doc} (h:DocImg D) (w:World):Calls Tryz.prog 45 #[.string ⟨(docB D).toArray⟩] w (LoadY TA D w):=by
 have c:=h.n64.len;have b:=h.len;have a:=StW.rd h.rev h.mark h.kvs h.evs (by omega) (by omega) [];rw [List.append_nil] at a;refine (zgj hT w (docB D) (by omega) _ _ ([],false) D (by omega) (by omega) a fun _ _=>⟨h.n64,h.big,by show (docB D).length<=_;omega⟩).mono fun e w' hr=>?_;unfold LoadR at hr;rw [if_neg (by simp),if_neg (by simp),if_pos ⟨h.right,rfl⟩] at hr;exact hr
theorem zgp {TA:zao} (hT:TreeOk TA 1000000) {D:Doc} (h:DocImg D) (q:List UInt8) (hq:q≠[]) (hl2:q.length<=1000000000) (w:World):Calls Tryz.prog 45 #[.string ⟨(docB D++q).toArray⟩] w fun e w'=>e=.returned (.tuple #[.pointer none,.int .i64 12])/\Fr No w w':=by
 have c:=h.n64.len;have b:=h.len;have a:=StW.rd h.rev h.mark h.kvs h.evs (by omega) (by omega) q;refine (zgj hT w (docB D++q) (by rw [List.length_append];omega) _ _ (q,false) D (by omega) (by omega) a fun _ h2=>absurd h2 hq).mono fun e w' hr=>?_;unfold LoadR at hr;rw [if_neg (by simp),if_pos hq] at hr;exact hr
theorem znk {TA:zao} (hT:TreeOk TA 1000000) {D:Doc} (h:DocImg D) (p q:List UInt8) (hpq:p++q=docB D) (hq:q≠[]) (w:World):Calls Tryz.prog 45 #[.string ⟨p.toArray⟩] w fun e w'=>e=.returned (.tuple #[.pointer none,.int .i64 10])/\Fr No w w':=by
 have l:=h.n64.len;have i:=h.len;rw [<-hpq,List.length_append] at i;obtain ⟨g,k,j,r,m,ks,c,b,d,f,_,_⟩:=StW.ends (p,false);have a:=StW.cut h.rev h.mark h.kvs h.evs (by omega) (by omega) hpq hq b;dsimp only at d f;refine (zgj hT w p (by omega) g k j ⟨r,m,ks,c⟩ (by omega) (by omega) b fun h3 _=>by rw [a] at h3;cases h3).mono fun e w' hr=>?_;unfold LoadR at hr;rw [if_pos a] at hr;exact hr
structure LeaN (D:Doc):Prop where
 kvs:∀ k∈D.kvs,k.lease<=9223372036854775807
 evs:∀ e∈D.events,e.kv.lease<=9223372036854775807
 prev:∀ e∈D.events,e.prev.lease<=9223372036854775807
def LeaQ (q:CalQ):Prop:=∀ o∈q.2.1,o.lease<=9223372036854775807
theorem zzo {l:List Kv} {k:ByteArray}:(hasL l k).getD kv0=kv0\/(hasL l k).getD kv0∈l:=by
 unfold hasL
 cases h:l.find? fun x=>keq x.key k with
 | none=>exact .inl rfl
 | some y=>exact .inr (List.mem_of_find?_eq_some h)
theorem LeaN.cut {D:Doc} (h:LeaN D) (hs:KSorted D.kvs) (R:Int):LeaN (D.cut R) :=
 ⟨fun k hk=>by
   rcases Doc.mem_at hs hk with h1 | ⟨e,h1,_,rfl⟩
   · exact h.kvs k h1
   exact h.evs e h1,fun e he=>h.evs e (List.mem_filter.1 he).1,fun e he=>h.prev e (List.mem_filter.1 he).1⟩
theorem LeaN.adds {n:Nat} {D:Doc} {E:List Ev} (h:LeaN D) (hs:KSorted D.kvs) (hd:DocOk n (D.adds E)) (hm:∀ e∈E,e.kv.mod=D.rev+1) (hmr:D.mark<=D.rev) (hE:∀ e∈E,e.kv.lease<=9223372036854775807):LeaN (D.adds E):=by
 obtain ⟨a,b,c⟩:=Doc.adds_parts D E
 have i:∀ e∈(D.adds E).events,e.kv.lease<=9223372036854775807:=fun e he=>by
  rw [c] at he;rcases List.mem_append.1 he with d | d
  · exact h.evs e d
  exact hE e d
 have j:∀ k∈(D.adds E).kvs,k.lease<=9223372036854775807:=by rw [b];exact h.kvs
 refine ⟨j,i,fun e he=>?_⟩;have g:=he;rw [c] at g;rcases List.mem_append.1 g with d | d
 · exact h.prev e d
 obtain ⟨A,B,f⟩:=List.append_of_mem he
 rw [hd.prev A e B f (by rw [a,hm e d];omega)];rcases zzo (l:=(A.filter fun y=>decide ((D.adds E).mark<y.kv.mod)).foldl doneL (D.adds E).kvs) (k:=e.kv.key) with m | m
 · rw [m];decide
 rcases zci (by rw [b];exact hs) _ _ m with o | ⟨x,o,_,p⟩
 · exact j _ o
 rw [p]
 exact i x (by rw [f];exact List.mem_append_left _ (List.mem_filter.1 o).1)
theorem zyq (D:Doc) (ops:List Opr) (hl:∀ o∈ops,o.lease<=9223372036854775807):∀ i≤ ops.length,∀ e∈(runD D (ops.take i)).E,e.kv.lease<=9223372036854775807:=by
 intro i
 induction i with
 | zero=>intro _ e a;simp [runD] at a
 | succ i ih =>
   intro f;have b:=ih (by omega);obtain ⟨o,d⟩:∃ o,ops[i]?=some o:=⟨_,List.getElem?_eq_getElem (by omega)⟩;have c:=hl o (List.mem_of_getElem? d);rw [zkc _ _ d];generalize runD D (ops.take i)=q at *;unfold stepD
   split
   · intro e a
     rcases List.mem_append.1 a with a | a
     · exact b e a
     rw [List.mem_singleton.1 a]
     exact c
   split
   · exact b
   intro e a
   rcases List.mem_append.1 a with a | a
   · exact b e a
   obtain ⟨x,g,rfl⟩:=List.mem_map.1 a
   show (0:Int)<=_
   decide
theorem zuw (D:Doc) (keys:List ByteArray):∀ i≤ keys.length,∀ e∈(dropsQ D (keys.take i)).2,e.kv.lease<=9223372036854775807:=by
 intro i
 induction i with
 | zero=>intro _ e a;simp [dropsQ] at a
 | succ i ih =>
   intro d;have b:=ih (by omega);obtain ⟨x,c⟩:∃ x,keys[i]?=some x:=⟨_,List.getElem?_eq_getElem (by omega)⟩;rw [zhc _ _ c];unfold dropQ
   split
   · intro e a
     rcases List.mem_append.1 a with a | a
     · exact b e a
     rw [List.mem_singleton.1 a]
     show (0:Int)<=_
     decide
   exact b
theorem zzg {k:Nat} {S:St} {D:Doc} (h:Good k S D) (hk:k<=70) {q:CalQ} (hq:fewCal q=true) (hl:LeaQ q) (hD:LeaN D):LeaN (doD S D q):=by
 obtain ⟨l,n,i,p,r⟩:=zdh hq;have d:=h.cpl.m0;unfold doD;by_cases h4:kindN q.1.kind=4
 · rw [if_pos h4];exact hD
 rw [if_neg h4]
 by_cases h5:kindN q.1.kind=5
 · rw [if_pos h5]
   split
   · exact hD.cut h.cpl.ks _
   exact hD
 rw [if_neg h5]
 by_cases h6:kindN q.1.kind=6
 · rw [if_pos h6];exact hD
 rw [if_neg h6]
 by_cases h7:kindN q.1.kind=7
 · rw [if_pos h7]
   obtain ⟨a,_⟩:=h.drops hk q.2.2 i q.2.2.length (Nat.le_refl _);obtain ⟨_,e,_⟩:=h.dropDoc hk q.2.2 i;have m:dropTo (D.rev+1) S q.2.2 q.2.2.length=q.2.2.foldl (dropR (D.rev+1)) (S,[]):=(by unfold dropTo;rw [List.take_length]);rw [m] at a;have b:=zuw D q.2.2 q.2.2.length (Nat.le_refl _);rw [List.take_length,<-e,h.rev] at b;exact hD.adds h.cpl.ks a.doc a.mods d.2 b
 rw [if_neg h7]
 by_cases ha:applyE S q.2.1=0
 · rw [if_pos ha]
   have c:∀ o∈q.2.1,o.rg.key.size<=1099511627776:=fun o ho=>by have:=(l o ho).1;omega
   obtain ⟨g,j⟩:=zbv ha;obtain ⟨⟨a,_⟩,_⟩:=h.runs hk g c q.2.1.length (Nat.le_refl _);obtain ⟨_,_,f⟩:=h.runD hk g j c q.2.1.length (Nat.le_refl _);have b:=zyq D q.2.1 hl q.2.1.length (Nat.le_refl _);rw [f] at b;rw [List.take_length] at a b;exact hD.adds h.cpl.ks a.doc a.mods d.2 b
 rw [if_neg ha];exact hD
theorem zxs {l:List CalQ} (h:zba l=true) (hl:∀ q∈l,LeaQ q):∀ i≤ l.length,LeaN (donesT l i).2:=by
 obtain ⟨d,b⟩:=zar h;have c:=zbe h;intro i
 induction i with
 | zero=>intro _;exact ⟨fun k hk=>by simp [donesT,newD] at hk,fun e he=>by simp [donesT,newD] at he,fun e he=>by simp [donesT,newD] at he⟩
 | succ i ih =>
   intro f;obtain ⟨q,a⟩:∃ q,l[i]?=some q:=⟨_,List.getElem?_eq_getElem (by omega)⟩;rw [zcq l a];exact zzg (c i (by omega)) (by omega) (b q (List.mem_of_getElem? a)) (hl q (List.mem_of_getElem? a)) (ih (by omega))
theorem MayP.kvN {x:Kv} {r:Int} (h:MayP x r) (hr:r<=1000000) (hl:x.lease<=9223372036854775807):KvN x/\(kvB x).length<=1200:=by
 have n:=zkj h;obtain ⟨a,g,i,j,k,l,b,c⟩:=h;have m:=(zek a).2
 have o:0<=x.version:=by
  by_cases e:x.mod=x.create
  · have:=b e;omega
  have:=c e;omega
 refine ⟨⟨by omega,by omega,⟨by omega,by omega⟩,⟨by omega,by omega⟩,⟨by omega,by omega⟩,⟨by omega,by omega⟩⟩,?_⟩;have d:x.key.data.toList.length=x.key.size:=Array.length_toList;have f:x.value.data.toList.length=x.value.size:=Array.length_toList;unfold kvB txtB;simp only [List.length_append,zam,d,f];omega
theorem kv0N:KvN kv0/\(kvB kv0).length<=1200:=by
 refine ⟨⟨by decide,by decide,by unfold N64 kv0;decide,by unfold N64 kv0;decide,by unfold N64 kv0;decide,by unfold N64 kv0;decide⟩,?_⟩;unfold kvB txtB;simp only [List.length_append,zam]
 decide
theorem goneN {k:ByteArray} {m:Int} (hk:keyE k=0) (h1:0<=m) (h2:m<=1000000):KvN ⟨k,ByteArray.empty,0,m,0,0⟩/\(kvB ⟨k,ByteArray.empty,0,m,0,0⟩).length<=1200:=by
 have hk:=(zek hk).2;refine ⟨⟨by show k.size<=_;omega,by show ByteArray.empty.size<=_;decide,⟨by show _<=(0:Int);decide,by show (0:Int)<=_;decide⟩,⟨by show _<=m;omega,by show m<=_;omega⟩,⟨by show _<=(0:Int);decide,by show (0:Int)<=_;decide⟩,⟨by show _<=(0:Int);decide,by show (0:Int)<=_;decide⟩⟩,?_⟩;have a:k.data.toList.length=k.size:=Array.length_toList;have b:ByteArray.empty.data.toList.length=0:=rfl;unfold kvB txtB;simp only [List.length_append,zam,a,b];omega
theorem zbs {α:Type} (f:α->List UInt8) (n:Nat):∀ (l:List α),(∀ x∈l,(f x).length<=n)->(l.flatMap f).length<=l.length * n
 | [],_=>by simp
 | x :: l,h=>by
   have:=zbs f n l fun y hy=>h y (List.mem_cons_of_mem _ hy);have h1:=h x List.mem_cons_self;rw [List.flatMap_cons,List.length_append,List.length_cons,Nat.succ_mul];omega
theorem zhd {l:List CalQ} (h:zba l=true) (hl:∀ q∈l,LeaQ q) :
 (∀ x∈(donesT l l.length).2.kvs,KvN x/\(kvB x).length<=1200)/\∀ x∈(donesT l l.length).2.events,EvN x/\(evB x).length<=2500:=by
 have p:=(zar h).1;have a:=zbe h l.length (Nat.le_refl _);have d:=zgk h l.length (Nat.le_refl _);have b:=zdo h l.length (Nat.le_refl _);have c:=zxs h hl l.length (Nat.le_refl _);generalize donesT l l.length=o at *;obtain ⟨S,D⟩:=o;dsimp only at a d b c ⊢
 have u:=a.cpl.m0;have v:=a.rev1;have i:∀ x∈D.kvs,KvN x/\(kvB x).length<=1200:=fun x hx=>(d.kv x hx).kvN (by omega) (c.kvs x hx)
 have f:∀ x∈D.events,EvN x/\(evB x).length<=2500:=fun x hx=>by
  have r:=a.doc.lo x hx;have m:=d.prevM a.doc b a.cpl.ks hx
  have j:KvN x.prev/\(kvB x.prev).length<=1200:=by
   rcases m with e | ⟨_,e⟩
   · rw [e];exact kv0N
   exact e.kvN (by omega) (c.prev x hx)
  have k:KvN x.kv/\(kvB x.kv).length<=1200:=by
   have n:=d.ev x hx;by_cases hk1:x.kind=1
   · exact (znj n hk1 (b.evs x hx) (by omega) m).kvN (by omega) (c.evs x hx)
   rcases n with ⟨e,_⟩ | ⟨_,_,e⟩
   · exact absurd e hk1
   rw [e];exact goneN (b.evs x hx) (by omega) (by omega)
  have g:N64 x.kind:=by
   rcases a.doc.kind x hx with e | e <;> rw [e] <;> exact ⟨by decide,by decide⟩
  refine ⟨⟨g,k.1,j.1⟩,?_⟩;have s:=k.2;have t:=j.2;unfold evB;simp only [List.length_append,zam];omega
 exact ⟨i,f⟩
theorem zdu {l:List CalQ} (h:zba l=true) (hl:∀ q∈l,LeaQ q):DocImg (donesT l l.length).2:=by
 have i:=(zar h).1;have d:=zbe h l.length (Nat.le_refl _);have e:=zxq h;have c:=zrq h;obtain ⟨b,a⟩:=zhd h hl;generalize donesT l l.length=g at *;obtain ⟨S,D⟩:=g;dsimp only at d e c b a ⊢
 have m:=d.cpl.m0;have n:=d.rev1;have f:=e.len;have j:=zbs kvB 1200 D.kvs fun x hx=>(b x hx).2;have k:=zbs evB 2500 D.events fun x hx=>(a x hx).2;refine ⟨c,e,fun _ _=>by omega,⟨by omega,by omega⟩,⟨by omega,by omega⟩,fun x hx=>(b x hx).1,fun x hx=>(a x hx).1,?_⟩;unfold docB stB;simp only [List.length_append,zam];omega
def sumS (h:Int) (c:UInt8):Int:=IntKind.u64.wrap (bits BinOp.xor IntKind.u64 h (IntKind.u64.wrap (c.toNat:Int)) * 1099511628211)
def sumL (l:List UInt8):Int:=l.foldl sumS 14695981039346656037
theorem zor {ks:List UInt8} {k:Nat} (hk:k<ks.length):sumL (ks.take (k+1))=sumS (sumL (ks.take k)) (ks[k]?.getD 0):=by
 rw [List.take_add_one,List.getElem?_eq_getElem hk,Option.toList_some];unfold sumL;rw [List.foldl_append]
 rfl
set_option maxHeartbeats 4000000 in
theorem zfr (w:World) (v:Option Addr) (ks:List UInt8) (hl:ks.length<=140737488355328) (hB:Calls Tryz.prog 42 #[.pointer v] w fun e w'=>e=.returned (.string ⟨ks.toArray⟩)/\Fr No w w') :
 Calls Tryz.prog 43 #[.pointer v] w fun e w'=>e=.returned (.int .u64 (sumL ks))/\Fr No w w':=by
 have n:(⟨ks.toArray⟩:ByteArray).size=ks.length:=by simp [ByteArray.size]
 have p:=H_ hB;clear hB;go_enter Tryz.func43,Tryz.ntmps43;go_wp2_with (go_at_call 42;refine p.out.mono ?_;rintro t w1 ⟨rfl,o⟩;have i:=Lib.run_convert_string_bytes (P:=Tryz.prog) w1 9 90 5 ⟨ks.toArray⟩ Tryz.underlying9 Tryz.underlying90 Tryz.underlying5);have b:Fr No w1 (Lib.bytesWorld w1 5 ⟨ks.toArray⟩):=((Fr.refl No w1).drew.alloc _).freezeAt _ _ (.inr (Nat.le_refl _));have a:=fun j (hj:j<(⟨ks.toArray⟩:ByteArray).size)=>Lib.bytesWorld_cell w1 5 ⟨ks.toArray⟩ j hj;clear i;generalize Lib.bytesWorld w1 5 ⟨ks.toArray⟩=r at *;have d:=H_ a;have c:=H_ (o.trans0 b);clear a o b
 go_loopg [3,10] ks.length (fun q s3 s10 wr=>∃ k:Nat,s3=.int .u64 (sumL (ks.take k))/\s10=.int .i64 k/\k+q=ks.length/\wr=r)
 case atStart=>exact ⟨0,rfl,rfl,by simp,rfl⟩
 case round =>
  obtain ⟨k,rfl,rfl,u,rfl⟩:=hrel
  cases gk with
  | zero =>
    have m:¬ (k:Int)<(ks.length:Int):=(by omega);have l:ks.take k=ks:=List.take_of_length_le (by omega);rw [l];go_wp2_with fail;go_ret;exact ⟨rfl,c.out⟩
  | succ q =>
    have m:(k:Int)<(ks.length:Int):=(by omega);have g:=d.out k (by rw [n];omega);have s:=World.block_lt_of_cell? _ _ g;have f:=H_ (zor (ks:=ks) (k:=k) (by omega));go_wp2_with fail;go_roundg q
    case rel=>exact ⟨k+1,by rw [f.out];rfl,by go_num,by omega,rfl⟩
    case measure=>omega
theorem zoq (w:World):Calls Tryz.prog 43 #[.pointer none] w fun e w'=>e=.returned (.int .u64 14695981039346656037)/\Fr No w w':=zfr w none [] (by simp) (zmb w)
end Go.Proofs.YthljnnjpmdgkoaaGreat