/- Own lemmas. -/
import Derived.Test.YtdgkdfmfoonbpaaGreatQ35
namespace Go.Proofs.YtdgkdfmfoonbpaaGreat
open Go Go.Proofs Go.RowKit
structure RInv (D:Doc):Prop where
 kv:∀ k∈D.kvs,MayP k D.mark
 ev:∀ e∈D.events,EvW e
 pm:∀ e∈D.events,e.kv.mod=D.mark->PrevW e
 mkd:∀ e∈D.events,e.kv.mod=D.mark->hasL D.kvs e.kv.key=if e.kind=1 then some e.kv else none
 fr:∀ k∈D.kvs,k.mod=D.mark->∃ e∈D.events,e.kind=1/\e.kv=k
theorem RInv.prevs {n:Nat} {D:Doc} (h:RInv D) (hd:DocOk n D) (hK:KeysOk D) (hs:KSorted D.kvs):∀ (i:Nat) (e:Ev),D.events[i]?=some e->PrevW e:=by
 intro i
 induction i using Nat.strongRecOn with
 | _ i ih =>
   intro e k;have f:=gM_ k;have u:=hd.lo e f;by_cases hm:e.kv.mod=D.mark
   · exact h.pm e f hm
   have m:=hd.prev_at k (by omega)
   cases hh:hasL (foldTo D i) e.kv.key with
   | none=>left;rw [m,hh];rfl
   | some y =>
     right
     rw [hh] at m;have o:e.prev=y:=m;have w:=List.mem_of_find?_eq_some hh;have g:y.key=e.kv.key:=zau.1 (by have:=List.find?_some hh;exact this);rw [o];refine ⟨g,?_⟩;rcases zcj hs _ y w with l | ⟨d,l,r,q⟩
     · exact (h.kv y l).mono (by omega)
     obtain ⟨s,x⟩:=gF_ l
     obtain ⟨j,c⟩:=List.mem_iff_getElem?.1 s
     have b:j<i:=by
      have:=(gS_ c).1;simp at this;omega
     rw [List.getElem?_take,if_pos b] at c;have t:=zco hd.es c k (by omega);have v:d.kv.mod≠e.kv.mod:=fun hq=>hd.uniq_at c k b hq (by rw [<-q];exact g);have a:=gM_ c;have:=zwf (h.ev d a) r (hK.evs d a) (hd.lo d a).1 (ih j b d c);rw [q];exact this.mono (by omega)
theorem RInv.prevM {n:Nat} {D:Doc} (h:RInv D) (hd:DocOk n D) (hK:KeysOk D) (hs:KSorted D.kvs) {e:Ev} (he:e∈D.events):PrevW e:=by
 obtain ⟨i,a⟩:=List.mem_iff_getElem?.1 he;exact h.prevs hd hK hs i e a
theorem RInv.mayAt {n:Nat} {D:Doc} (h:RInv D) (hd:DocOk n D) (hK:KeysOk D) (hs:KSorted D.kvs) {r:Int} (hr:D.mark<=r) {y:Kv} (hy:y∈D.at r):MayP y r:=by
 rcases zcj hs _ y hy with b | ⟨e,b,d,rfl⟩
 · exact (h.kv y b).mono hr
 obtain ⟨a,c⟩:=gF_ b
 simp only [Bool.and_eq_true,decide_eq_true_eq] at c;exact (zwf (h.ev e a) d (hK.evs e a) (hd.lo e a).1 (h.prevM hd hK hs a)).mono c.2
theorem RInv.new:RInv newD:=⟨fun k hk=>by simp [newD] at hk,fun e he=>by simp [newD] at he,fun e he=>by simp [newD] at he,fun e he=>by simp [newD] at he,fun k hk=>by simp [newD] at hk⟩
theorem RInv.adds {D:Doc} (h:RInv D) (E:List Ev) (hE:∀ e∈E,EvW e) (hm:∀ e∈E,D.mark<e.kv.mod):RInv (D.adds E):=by
 obtain ⟨a,b,c⟩:=Doc.adds_parts D E
 have f:∀ e∈(D.adds E).events,e.kv.mod=D.mark->e∈D.events:=fun e d h1=>by
  rw [c] at d;rcases gA_ d with d | d
  · exact d
  have:=hm e d;omega
 refine ⟨fun k hk=>?_,fun e d=>?_,fun e d h1=>?_,fun e d h1=>?_,fun k hk h1=>?_⟩
 · rw [b] at hk;rw [a];exact h.kv k hk
 · rw [c] at d
   rcases gA_ d with d | d
   · exact h.ev e d
   exact hE e d
 · rw [a] at h1;exact h.pm e (f e d h1) h1
 · rw [a] at h1;rw [b];exact h.mkd e (f e d h1) h1
 rw [b] at hk;rw [a] at h1
 obtain ⟨e,d,g⟩:=h.fr k hk h1;exact ⟨e,by rw [c];exact List.mem_append_left _ d,g⟩
theorem RInv.cut {n:Nat} {D:Doc} (h:RInv D) (hd:DocOk n D) (hK:KeysOk D) (hs:KSorted D.kvs) {R:Int} (h1:D.mark<R):RInv (D.cut R):=by
 have a:∀ e∈(D.cut R).events,e∈D.events:=fun e he=>(gF_ he).1;refine ⟨fun k hk=>h.mayAt hd hK hs (by show D.mark<=R;omega) hk,fun e he=>h.ev e (a e he),fun e he _=>h.prevM hd hK hs (a e he),fun e he hm=>?_,fun k hk hm=>?_⟩
 · have j:e.kv.mod=R:=hm
   obtain ⟨i,t⟩:=List.mem_iff_getElem?.1 (a e he);obtain ⟨A,B,b⟩:=List.append_of_mem (a e he)
   show hasL (D.at R) e.kv.key=_
   unfold Doc.at;rw [b,List.filter_append,List.filter_cons,if_pos (by simp;omega)];refine zjr hs _ _ _ fun y hy hk=>?_;obtain ⟨f,l⟩:=gF_ hy;simp only [Bool.and_eq_true,decide_eq_true_eq] at l;have c:=hd.es;have d:=hd.uniq;rw [b] at c d;have r:=(gP_ (List.pairwise_append.1 c).2.1).1 y f;have o:=(gP_ (List.pairwise_append.1 d).2.1).1 y f;exact o (by omega) hk.symm
 have j:k.mod=R:=hm
 rcases zcj hs _ k hk with g | ⟨e,g,q,rfl⟩
 · have:=(h.kv k g).ver;omega
 obtain ⟨m,s⟩:=gF_ g
 refine ⟨e,List.mem_filter.2 ⟨m,?_⟩,q,rfl⟩;have:=(hd.lo e m).2.2;simp;omega
theorem Good.evw {k:Nat} {S:St} {D:Doc} (h:Good k S D) (hk:k<=70) {ops:List Opr} (hc:checkE ops=0) (hw:Go.Proofs.YtdgkdfmfoonbpaaGreat.whenAll S ops=0) (hks:∀ o∈ops,o.rg.key.size<=1099511627776) :
 ∀ i≤ ops.length,∀ e∈(Go.Proofs.YtdgkdfmfoonbpaaGreat.runD D (ops.take i)).E,EvW e:=by
 intro i
 induction i with
 | zero=>intro _ e b;simp [Go.Proofs.YtdgkdfmfoonbpaaGreat.runD] at b
 | succ i ih =>
   intro u;have c:=ih (by omega);obtain ⟨t,v,w⟩:=h.runD hk hc hw hks i (by omega);obtain ⟨o,l⟩:∃ o,ops[i]?=some o:=⟨_,gG_ (by omega)⟩;have j:=gM_ l;have a:=(zdg hc).2.1 o j;obtain ⟨⟨s,_⟩,_⟩:=h.runs hk hc hks i (by omega);rw [zmp _ _ l];generalize Go.Proofs.YtdgkdfmfoonbpaaGreat.runD D (ops.take i)=q at *;generalize runR (D.rev+1) ⟨S,[],[]⟩ (ops.take i)=r at *;have f:KSorted (D.adds r.E).kvs:=(by rw [(Doc.adds_parts D r.E).2.1];exact h.cpl.ks);rcases zna a with d | n | g
   · unfold stepD
     rw [if_pos d];intro e b;rcases gA_ b with b | b
     · exact c e b
     rw [gI_ b]
     unfold oneE at a;rw [if_neg (by omega),if_neg (by omega),if_pos d] at a
     split at a
     · rename_i hq;exact absurd a hq
     split at a
     · cases a
     split at a
     · exact .inl ⟨rfl,by show o.value.size<=1024;omega,by show 0<=o.lease;omega,rfl,rfl⟩
     cases a
   · unfold stepD
     rw [if_neg (by omega),if_neg (by omega)];intro e b;rcases gA_ b with b | b
     · exact c e b
     obtain ⟨x,m,rfl⟩:=List.mem_map.1 b
     rw [zky,t] at m;have:=(s.doc.ver_at f (gF_ m).1).1;exact .inr ⟨rfl,by show 0<x.version;omega,rfl⟩
   unfold stepD
   rw [if_neg (by omega),if_pos g];exact c
theorem ztk (D:Doc) (keys:List ByteArray):∀ i≤ keys.length,∀ e∈(dropsQ D (keys.take i)).2,EvW e:=by
 intro i
 induction i with
 | zero=>intro _ e a;simp [dropsQ] at a
 | succ i ih =>
   intro d;have b:=ih (by omega);obtain ⟨x,c⟩:∃ x,keys[i]?=some x:=⟨_,gG_ (by omega)⟩;rw [zjd _ _ c];unfold dropQ
   split
   · rename_i hv
     intro e a;rcases gA_ a with a | a
     · exact b e a
     rw [gI_ a]
     exact .inr ⟨rfl,hv,rfl⟩
   exact b
theorem zvm {k:Nat} {S:St} {D:Doc} (h:Good k S D) (hk:k<=70) {q:CalQ} (hq:fewCal q=true) (hK:KeysOk D) (hD:RInv D):RInv (doD S D q):=by
 obtain ⟨n,s,m,t,u⟩:=zdx hq;have r:=h.cpl.m0;unfold doD;by_cases h4:kindN q.1.kind=4
 · rw [if_pos h4];exact hD
 rw [if_neg h4]
 by_cases h5:kindN q.1.kind=5
 · rw [if_pos h5]
   split
   · rename_i hc
     obtain ⟨_,j⟩:=zcz hc;rw [h.cpl.mark] at j;exact hD.cut h.doc hK h.cpl.ks j
   exact hD
 rw [if_neg h5]
 by_cases h6:kindN q.1.kind=6
 · rw [if_pos h6];exact hD
 rw [if_neg h6]
 by_cases h7:kindN q.1.kind=7
 · rw [if_pos h7]
   obtain ⟨a,_⟩:=h.drops hk q.2.2 m q.2.2.length (Nat.le_refl _);obtain ⟨_,g,_⟩:=h.dropDoc hk q.2.2 m;have d:dropTo (D.rev+1) S q.2.2 q.2.2.length=q.2.2.foldl (dropR (D.rev+1)) (S,[]):=(by unfold dropTo;rw [List.take_length]);rw [d] at a;have b:=ztk D q.2.2 q.2.2.length (Nat.le_refl _);rw [List.take_length,<-g,h.rev] at b;exact hD.adds _ b fun e d=>by rw [a.mods e d];omega
 rw [if_neg h7]
 by_cases ha:applyE S q.2.1=0
 · rw [if_pos ha]
   have c:∀ o∈q.2.1,o.rg.key.size<=1099511627776:=fun o ho=>by have:=(n o ho).1;omega
   obtain ⟨f,l⟩:=zbf ha;obtain ⟨⟨a,_⟩,_⟩:=h.runs hk f c q.2.1.length (Nat.le_refl _);obtain ⟨_,_,i⟩:=h.runD hk f l c q.2.1.length (Nat.le_refl _);have b:=h.evw hk f l c q.2.1.length (Nat.le_refl _);rw [i] at b;rw [List.take_length] at a b;exact hD.adds _ b fun e d=>by rw [a.mods e d];omega
 rw [if_neg ha];exact hD
theorem zni {l m:List Kv} (h:l.Pairwise fun a b=>a.key≠b.key) (hs:∀ x∈l,x∈m):l.length<=m.length:=by
 induction l generalizing m with
 | nil=>exact Nat.zero_le _
 | cons x l ih =>
   obtain ⟨a,b,rfl⟩:=List.append_of_mem (hs x List.mem_cons_self);have f:=gP_ h
   have:=ih (m:=a++b) f.2 fun y hy=>by
    have c:=f.1 y hy;rcases gA_ (hs y (List.mem_cons_of_mem _ hy)) with d | d
    · exact List.mem_append_left _ d
    rcases List.mem_cons.1 d with e | e
    · rw [e] at c;exact absurd rfl c
    exact List.mem_append_right _ e
   simp only [List.length_append,List.length_cons] at this ⊢
   omega
theorem zgi {l:List Ev} (p:Ev->Bool) (h:l.Pairwise fun a b=>p a=true->p b=true->a.kv.key≠b.kv.key):((l.filter p).map fun e=>e.kv).Pairwise fun a b=>a.key≠b.key:=by
 induction l with
 | nil=>exact List.Pairwise.nil
 | cons x l ih =>
   have c:=gP_ h;rw [List.filter_cons]
   split
   · rename_i hp
     rw [List.map_cons];refine List.pairwise_cons.2 ⟨fun y hy=>?_,ih c.2⟩;obtain ⟨e,g,rfl⟩:=List.mem_map.1 hy;obtain ⟨d,f⟩:=gF_ g;exact c.1 e d hp f
   exact ih c.2
theorem Good.right {k:Nat} {S:St} {D:Doc} (h:Good k S D) (hk:k<=70) (hK:KeysOk D) (hR:RInv D):zbk D:=by
 have g:=h.cpl.m0;have G:=h.rev1;have u:=h.cpl.ks
 have l:∀ e∈D.events,madeB e e.prev e.kv.mod=true:=fun e f=>by
  have H:wrap64 (e.prev.version+1)=e.prev.version+1:=by
   rcases hR.ev e f with ⟨c,_,_,_,v⟩ | ⟨c,v,_⟩
   · have:=h.doc.ver e f c
     unfold wrap64;omega
   rcases hR.prevM h.doc hK u f with q | ⟨_,q⟩
   · rw [q];show wrap64 (0+1)=0+1;unfold wrap64;omega
   have w:=h.doc.lo e f
   have B:=q.ver
   have:e.prev.version<=200:=by
    obtain ⟨_,_,_,O,P,Q,M,N⟩:=q;by_cases hq:e.prev.mod=e.prev.create
    · have:=M hq;omega
    have:=N hq;omega
   unfold wrap64;omega
  unfold madeB;rw [if_neg (by rw [hK.evs e f,zfu];simp),H];rcases hR.ev e f with ⟨c,d,o,t,v⟩ | ⟨c,d,o⟩
  · rw [if_neg (by omega),c,t,v]
    simp [d,o]
  rw [if_pos c,<-o,zfu]
  simp [d]
 refine { m0:=g.1,mr:=g.2,top:=by omega,kvs:=fun i k hi=>⟨zrl.2 (hR.kv k (gM_ hi)),fun k' h0 hk'=>?_⟩,evs:=fun i x hi=>?_,last:=h.doc.revAt_last g.1 g.2,fresh:=?_ }
 · obtain ⟨I,J⟩:=gS_ hi
   obtain ⟨K,L⟩:=gS_ hk';have:=List.pairwise_iff_getElem.1 u (i-1) i K I (by omega);rw [J,L] at this;exact this
 · have m:=gM_ hi
   have w:=h.doc.lo x m;have F:=h.doc.chain g.1 hi;refine ⟨by omega,by omega,by omega,fun j y hj hy f=>?_,fun hm=>?_,fun hm=>?_⟩
   · have:=h.doc.uniq_at hy hi hj f
     cases hq:keq y.kv.key x.kv.key
     · rfl
     exact absurd (zau.1 hq) this
   · have q:=hR.pm x m hm
     have r:=l x m;have z:=hR.mkd x m hm;rw [hm] at r;unfold zem;rw [if_neg,z]
     · rcases h.doc.kind x m with c | c
       · rw [if_pos c,if_pos c]
         exact zfu _
       rw [if_neg (by omega),if_neg (by omega)]
       rfl
     rintro (⟨a,b⟩ | a)
     · rcases q with q | ⟨A,s⟩
       · rw [q,zfu] at a;cases a
       rcases b with b | b
       · rw [zau.2 A] at b;cases b
       rw [hm] at s
       rw [zrl.2 s] at b;cases b
     rw [r] at a;cases a
   rw [<-h.doc.prev_at hi (by omega)]
   exact l x m
 unfold freshK freshE
 rw [List.take_length,List.take_length]
 have C:(D.kvs.filter fun k=>k.mod==D.mark).length<=((D.events.filter fun x=>x.kv.mod==D.mark&&x.kind==1).map fun e=>e.kv).length:=by
  refine zni ?_ fun x m=>?_
  · refine List.Pairwise.imp ?_ (List.Pairwise.sublist List.filter_sublist u)
    intro a b n e;rw [e,zbh] at n;cases n
  obtain ⟨c,d⟩:=gF_ m
  obtain ⟨e,f,o,t⟩:=hR.fr x c (by simpa using d);refine List.mem_map.2 ⟨e,List.mem_filter.2 ⟨f,?_⟩,t⟩;rw [t,o];simpa using d
 have E:((D.events.filter fun x=>x.kv.mod==D.mark&&x.kind==1).map fun e=>e.kv).length<=(D.kvs.filter fun k=>k.mod==D.mark).length:=by
  refine zni ?_ fun x m=>?_
  · refine zgi _ (h.doc.uniq.imp fun {a b} n c d=>n ?_)
    simp only [Bool.and_eq_true,beq_iff_eq] at c d;rw [c.1,d.1]
  obtain ⟨e,f,rfl⟩:=List.mem_map.1 m
  obtain ⟨c,d⟩:=gF_ f;simp only [Bool.and_eq_true,beq_iff_eq] at d;have o:=hR.mkd e c d.1;rw [if_pos d.2] at o;refine List.mem_filter.2 ⟨((zbo u _ _).1 o).1,by simpa using d.1⟩
 simp only [List.length_map] at C E;omega
structure Rgt (D:Doc):Prop where
 keys:KeysOk D
 rinv:RInv D
 prev:PrevOk D
theorem Rgt.new:Rgt newD:=⟨⟨fun k hk=>by simp [newD] at hk,fun e he=>by simp [newD] at he⟩,RInv.new,fun e he=>by simp [newD] at he⟩
theorem Rgt.does {k:Nat} {S:St} {D:Doc} (h:Rgt D) (hG:Good k S D) (hk:k<=70) {q:CalQ} (hq:fewCal q=true):Rgt (doD S D q) :=
 ⟨hG.keys_does hk hq h.keys,zvm hG hk hq h.keys h.rinv,zvs hG hk hq h.prev⟩
theorem Rgt.right {k:Nat} {S:St} {D:Doc} (h:Rgt D) (hG:Good k S D) (hk:k<=70):zbk D:=hG.right hk h.keys h.rinv
theorem Rgt.sm {k:Nat} {S:St} {D:Doc} (h:Rgt D) (hG:Good k S D) (hk:k<=70):DocSm D:=by
 have a:=h.keys;have b:=h.prev;refine ⟨fun k hk=>?_,fun x hx=>⟨?_,?_⟩,?_⟩
 · have:=(ziv (a.kvs k hk)).2;omega
 · have:=(ziv (a.evs x hx)).2;omega
 · have g:=(ziv (a.evs x hx)).2
   rcases b x hx with e | e
   · rw [e];show ByteArray.empty.size<=_;exact Nat.zero_le _
   rw [e];omega
 have c:D.events.length<=20000 * k:=by have:=hG.ok.ev;rw [<-hG.cpl.events];omega
 have d:D.kvs.length<=16 * k:=by
  have f:=hG.size;rw [<-zmk hG];unfold zap;exact nT_ (List.length_filterMap_le _ _) (by omega)
 omega
set_option maxRecDepth 100000
set_option maxHeartbeats 16000000
structure ActQ where
 kind:Int
 call:CalQ
 w:Wt
 id:Int
def wtC (t:Wt):List Value:=[.string t.key,.string t.end_,.int .i64 t.frm,.bool t.np,.bool t.nd,.bool t.prev]
def actC (a:ActQ):List Value:=.int .i64 a.kind :: (calC a.call++(wtC a.w++[.int .i64 a.id]))
theorem zat (a:ActQ):(actC a).length=20:=rfl
structure ActR (w:World) (v:Value) (l:List ActQ):Prop where
 sl:SlR w 20 actC v l
 ops:∀ (i:Nat) q,l[i]?=some q->SlR w 10 opC q.call.1.ops q.call.2.1
 keys:∀ (i:Nat) q,l[i]?=some q->SlR w 1 strC q.call.1.keys q.call.2.2
 frm:∀ (i:Nat) q,l[i]?=some q->(Lit.int .i64 q.w.frm).wf=true
 id:∀ (i:Nat) q,l[i]?=some q->(Lit.int .i64 q.id).wf=true
theorem ActR.fr0 {w w':World} {v:Value} {l:List ActQ} (h:ActR w v l) (hf:Fr No w w'):ActR w' v l:=⟨h.sl.fr0 hf,fun i q hq=>(h.ops i q hq).fr0 hf,fun i q hq=>(h.keys i q hq).fr0 hf,h.frm,h.id⟩
def fewW (t:Wt):Bool:=fewKey t.key&&fewKey t.end_
def fewAct (a:ActQ):Bool:=fewCal a.call&&fewW a.w
def zfo (l:List ActQ):Bool:=decide (l.length<=60)&&l.all fewAct
theorem zln {l:List ActQ} (h:zfo l=true):l.length<=60/\∀ a∈l,fewCal a.call=true/\a.w.key.size<=3000/\a.w.end_.size<=3000:=by
 unfold zfo at h;rw [Bool.and_eq_true,decide_eq_true_eq,List.all_eq_true] at h;refine ⟨h.1,fun a ha=>?_⟩;have:=h.2 a ha;unfold fewAct fewW fewKey at this;simp only [Bool.and_eq_true,decide_eq_true_eq] at this;exact ⟨this.1,this.2.1,this.2.2⟩
theorem zti (w:World) (t:Wt):Calls Tryz.prog 18 #[wtV t] w fun e w'=>e=.returned (.bool (fewW t))/\Fr No w w':=by
 unfold wtV;have d:fewW t=(decide (t.key.size<=3000)&&decide (t.end_.size<=3000)):=rfl;have a:=H_ d;clear d;by_cases h1:t.key.size<=3000
 · have b:(t.key.size:Int)<=3000:=by omega
   by_cases h2:t.end_.size<=3000
   · have c:(t.end_.size:Int)<=3000:=by omega
     go_enter Tryz.func18,Tryz.ntmps18;go_wp2;go_ret;exact ⟨by rw [a.out];simp [h1,h2],(Fr.refl No w).alloc _⟩
   have c:¬ (t.end_.size:Int)<=3000:=by omega
   go_enter Tryz.func18,Tryz.ntmps18;go_wp2;go_ret;exact ⟨by rw [a.out];simp [h1,h2],(Fr.refl No w).alloc _⟩
 have b:¬ (t.key.size:Int)<=3000:=by omega
 go_enter Tryz.func18,Tryz.ntmps18;go_wp2;go_ret;exact ⟨by rw [a.out];simp [h1],(Fr.refl No w).alloc _⟩
theorem znm (w:World) (a:ActQ):Calls Tryz.prog 20 #[.agg (actC a).toArray] w fun e w'=>e=.returned (.int .i64 (kindN a.kind))/\Fr No w w':=by
 obtain ⟨b,⟨⟨r,s,⟨f,g,j,k,l,m,n⟩,t,u,v⟩,d,c⟩,⟨x,y,z,A,B,C⟩,i⟩:=a;unfold actC calC rgC wtC;dsimp only;unfold kindN;have o:=Int.tmod_lt_of_pos b (show (0:Int)<8 by decide);have q:=Int.lt_tmod_of_pos b (show (0:Int)<8 by decide);go_enter Tryz.func20,Tryz.ntmps20;go_wp2;go_ret;exact ⟨by rw [Int.tmod_eq_emod_of_nonneg (show 0<=b.tmod 8+8 by omega)];rfl,(Fr.refl No w).alloc _⟩
theorem zzo {w:World} {q:CalQ} (h1:SlR w 10 opC q.1.ops q.2.1) (h2:SlR w 1 strC q.1.keys q.2.2) {b:Nat} {t:TypeId} (hb:w.heap[b]?=some (.cells (calC q).toArray t (0,0))):CalR w (.slice (some ⟨b,0,none⟩) 1 1) [q]:=by
 refine ⟨⟨_,1,rfl,by simp,by decide,fun _=>⟨b,0,rfl,fun i x hx j u hu=>?_⟩⟩,fun i x hx=>?_,fun i x hx=>?_⟩
 · have a:i=0:=by have:=(gS_ hx).1;simp at this;omega
   subst a;obtain rfl:q=x:=by simpa using hx
   unfold World.cell?;simp only [hb,Nat.zero_mul,Nat.zero_add,Option.isSome_none,Bool.false_eq_true,if_false];simpa using hu
 · have a:i=0:=by have:=(gS_ hx).1;simp at this;omega
   subst a;obtain rfl:q=x:=by simpa using hx
   exact h1
 have a:i=0:=by have:=(gS_ hx).1;simp at this;omega
 subst a;obtain rfl:q=x:=by simpa using hx
 exact h2
theorem zlo (w:World) (v:Value) (l:List ActQ) (hv:ActR w v l):Calls Tryz.prog 9 #[v] w fun e w'=>e=.returned (.bool (zfo l))/\Fr No w w':=by
 obtain ⟨hv,j,d,_,_⟩:=hv;obtain ⟨a,cap,rfl,R,S,J⟩:=hv.shape;have O:=H_ hv;clear hv;have L:=H_ J;clear J;have N:=H_ j;clear j;have M:=H_ d;clear d;by_cases h60:60<l.length
 · have y:(60:Int)<(l.length:Int):=by omega
   have:zfo l=false:=(by unfold zfo;simp;omega);rw [this];go_enter Tryz.func9,Tryz.ntmps9;go_wp2;go_ret;exact ⟨rfl,Fr.refl _ _⟩
 have y:¬ (60:Int)<(l.length:Int):=by omega
 have I:zfo l=l.all fewAct:=(by unfold zfo;simp;omega);have C:=H_ I;clear I;go_enter Tryz.func9,Tryz.ntmps9;go_wp2
 go_loopg [3] l.length (fun g s3 wr=>∃ i:Nat,s3=.int .i64 i/\i+g=l.length/\Hid ((l.take i).all fewAct=true)/\Hid (Fr No w wr))
 case atStart=>exact ⟨0,rfl,by simp,H_ (by simp),H_ (Fr.refl _ _)⟩
 case round =>
  obtain ⟨i,rfl,hi,D,k⟩:=hrel
  cases gk with
  | zero =>
    have G:¬ (i:Int)<(l.length:Int):=(by omega);have H:l.take i=l:=List.take_of_length_le (by omega);rw [H] at D;go_wp2;go_ret;exact ⟨by rw [C.out,D.out];rfl,k.out⟩
  | succ g =>
    obtain ⟨gb,go,rfl⟩:=L.out (by omega);obtain ⟨p,f⟩:∃ p,l[i]?=some p:=⟨_,gG_ (by omega)⟩;have c:=O.out.fr0 k.out;have V:=c.cell zat i 1 f rfl;have x2:=c.cell zat i 2 f rfl;have x3:=c.cell zat i 3 f rfl;have x4:=c.cell zat i 4 f rfl;have x5:=c.cell zat i 5 f rfl;have x6:=c.cell zat i 6 f rfl;have x7:=c.cell zat i 7 f rfl;have x8:=c.cell zat i 8 f rfl;have x9:=c.cell zat i 9 f rfl;have X:=c.cell zat i 10 f rfl;have Y:=c.cell zat i 11 f rfl;have Z:=c.cell zat i 12 f rfl;have a0:=c.cell zat i 13 f rfl;have a1:=c.cell zat i 14 f rfl;have a2:=c.cell zat i 15 f rfl;have a3:=c.cell zat i 16 f rfl;have a4:=c.cell zat i 17 f rfl;have a5:=c.cell zat i 18 f rfl;have G:(i:Int)<(l.length:Int):=(by omega)
    have B:=zcx (p:=fewAct) f;have z:=zdn (p:=fewAct) f;have E:=H_ B;have t:=H_ z;have j:=N.out i p f;have d:=M.out i p f;have A:fewAct p=(fewCal p.call&&fewW p.w):=rfl
    have r:∀ W b,W.heap[b]?=some (.cells (calC p.call).toArray 27 (0,0))->Fr No w W->Calls Tryz.prog 38 #[.slice (some ⟨b,0,none⟩) 1 1] W fun e w'=>e=.returned (.bool (fewCal p.call))/\W=w':=fun W b hb hW=>by
     have h:=zlm W _ [p.call] (zzo (j.fr0 hW) (d.fr0 hW) hb);have e:zeo [p.call]=fewCal p.call:=(by unfold zeo;simp);rw [e] at h;exact h
    have s:=fun W=>zti W p.w;clear f c B z j d;obtain ⟨p0,⟨⟨p1,p2,⟨g1,g2,g3,g4,g5,g6,g7⟩,p3,p4,p5⟩,T,K⟩,⟨t1,t2,t3,t4,t5,t6⟩,id⟩:=p;unfold calC rgC at r;unfold wtV at s;dsimp only at *;generalize fewAct _=F at *;generalize fewCal _=P at *;generalize fewW _=Q at *;have n:=H_ r;have u:=H_ s;have o:=H_ A;have lg:=gB_ _ _ V;clear r s A;cases P
    · have m:F=false:=by rw [o.out];rfl
      have x:=H_ m;clear m;go_wp2_with (go_at_call 38;refine (n.out _ _ (zad _ _ _ rfl) (k.out.alloc _)).mono ?_;rintro e w' ⟨rfl,rfl⟩);go_ret;exact ⟨by rw [C.out,t.out x.out];rfl,k.out.alloc _⟩
    cases Q
    · have m:F=false:=by rw [o.out];rfl
      have x:=H_ m;clear m
      go_wp2_with (first
       | (go_at_call 38;refine (n.out _ _ (zad _ _ _ rfl) (k.out.alloc _)).mono ?_;rintro e w1 ⟨rfl,rfl⟩)
       | (go_at_call 18;refine (u.out _).mono ?_;rintro e U ⟨rfl,q⟩))
      go_ret;exact ⟨by rw [C.out,t.out x.out];rfl,(k.out.alloc _).trans0 q⟩
    have m:F=true:=by rw [o.out];rfl
    have x:=H_ m;clear m
    go_wp2_with (first
     | (go_at_call 38;refine (n.out _ _ (zad _ _ _ rfl) (k.out.alloc _)).mono ?_;rintro e w1 ⟨rfl,rfl⟩)
     | (go_at_call 18;refine (u.out _).mono ?_;rintro e U ⟨rfl,q⟩))
    go_roundg g
    case rel=>exact ⟨i+1,by go_num,by omega,H_ (by rw [E.out,D.out,x.out];rfl),H_ ((k.out.alloc _).trans0 q)⟩
    case measure=>omega
def idxI (P:Int->Bool) (l:List Int):Int:=if l.findIdx P=l.length then -1 else (l.findIdx P:Int)
theorem firstI {P:Int->Bool} {L:List Int} {k:Nat} (h:L.findIdx P=k) (hk:k<L.length):(L.take (k+1)).filter (fun x=>!P x)=L.take k:=by
 obtain ⟨x,c⟩:∃ x,L[k]?=some x:=⟨_,gG_ hk⟩
 have e:P x=true:=by
  have:=(List.findIdx_eq hk).1 h;rw [(gS_ c).2] at this;exact this.1
 rw [gK_,c,List.filter_append]
 have d:(L.take k).filter (fun x=>!P x)=L.take k:=by
  rw [List.filter_eq_self];intro y f;obtain ⟨j,a⟩:=List.mem_iff_getElem?.1 f;have b:=(gS_ a).1;rw [List.length_take] at b;rw [List.getElem?_take_of_lt (by omega)] at a;have:=((List.findIdx_eq hk).1 h).2 j (by omega);rw [(gS_ a).2] at this;simpa using this
 rw [d];simp [e]
theorem allI {P:Int->Bool} {L:List Int} (h:L.findIdx P=L.length):L.filter (fun x=>!P x)=L:=by
 rw [List.filter_eq_self];intro y a;rw [List.findIdx_eq_length] at h;simp [h y a]
theorem zve (l:List Int) (k:Nat) (x:Int) (h:k<l.length):(l.set k x).take (k+1)=l.take k++[x]:=by
 rw [gK_,gT_ h]
 congr 1
 refine List.ext_getElem? fun j=>?_;by_cases hj:j<k
 · rw [List.getElem?_take_of_lt hj,List.getElem?_take_of_lt hj,List.getElem?_set_ne (by omega)]
 rw [List.getElem?_eq_none (by simp;omega),List.getElem?_eq_none (by simp;omega)]
theorem zvf (l:List Int) (k i:Nat) (x:Int) (h:k<i):(l.set k x).drop i=l.drop i:=by
 refine List.ext_getElem? fun j=>?_;rw [List.getElem?_drop,List.getElem?_drop,List.getElem?_set_ne (by omega)]
theorem zero3 (w:World):(zeroValue 3).run Tryz.prog w=.ok (.int .i64 0) w:=by kernel_rfl
def TellsI (w:World) (f:Nat) (fv:Value) (v:Value) (L:List Int) (p:Int->Bool):Prop :=
 ∀ W x,x∈L->Fr (fun b=>v.ownBlock=some b) w W->Calls Tryz.prog f #[.int .i64 x,fv] W fun e w'=>e=.returned (.bool (p x))/\Fr No W w'
theorem ztd (w:World) (v fv:Value) (L:List Int) (p:Int->Bool) (hv:SlF w 3 1 int1 v L) (hl:L.length<=1099511627) (hp:TellsI w 48 fv v L p) :
 Calls Tryz.prog 76 #[v,.func (.func 48) #[] #[fv]] w fun e w'=>e=.returned (.int .i64 (idxI p L))/\Fr No w w':=by
 obtain ⟨a,cap,rfl,D,E,z⟩:=hv.shape;have C:=H_ hv;clear hv;have A:=H_ z;clear z;have B:=H_ hp;clear hp;go_enter Tryz.func76,Tryz.ntmps76;go_wp2
 go_loopg [8] L.length (fun g s8 wr=>∃ i:Nat,s8=.int .i64 i/\i+g=L.length/\Hid (∀ j,j<i->∀ x,L[j]?=some x->p x=false)/\Hid (Fr No w wr))
 case atStart=>exact ⟨0,rfl,by simp,H_ (by simp),H_ (Fr.refl No w)⟩
 case round =>
  obtain ⟨i,rfl,H,n,c⟩:=hrel
  cases gk with
  | zero =>
    have s:¬ (i:Int)<(L.length:Int):=(by omega);go_wp2;go_ret;refine ⟨?_,c.out⟩
    have t:L.findIdx p=L.length:=by
     rw [List.findIdx_eq_length];intro x b;obtain ⟨j,m,rfl⟩:=List.getElem_of_mem b;exact n.out j (by omega) _ (gG_ m)
    unfold idxI;rw [if_pos t]
    rfl
  | succ g =>
    obtain ⟨G,go,rfl⟩:=A.out (by omega);obtain ⟨x,b⟩:∃ x,L[i]?=some x:=⟨_,gG_ (by omega)⟩;have l:=C.out.fr0 c.out;have F:=l.cell1 zba i b rfl;have s:(i:Int)<(L.length:Int):=(by omega);have d:=B.out wr x (gM_ b) (c.out.mono fun _ _ h=>h.elim);have I:=gB_ _ _ F;have y:=H_ b;clear b l;generalize k:p x=q at *;have u:=H_ k;clear k;cases q
    · go_wp2_with (go_at_call 48;refine d.mono ?_;rintro e w1 ⟨rfl,o⟩)
      go_roundg g
      case rel=>exact ⟨i+1,by go_num,by omega,H_ (fun j m q hq=>by
       by_cases hji:j=i
       · subst hji;rw [y.out] at hq;cases hq;exact u.out
       exact n.out j (by omega) q hq),H_ (c.out.trans0 o)⟩
      case measure=>omega
    go_wp2_with (go_at_call 48;refine d.mono ?_;rintro e w1 ⟨rfl,o⟩)
    go_ret;refine ⟨?_,c.out.trans0 o⟩
    have t:L.findIdx p=i:=by
     have f:i<L.length:=(by omega);rw [List.findIdx_eq f];have r:L[i]=x:=(gS_ y.out).2;refine ⟨by rw [r];exact u.out,fun j m=>?_⟩;exact n.out j m _ (gG_ (by omega))
    unfold idxI;rw [t,if_neg (by omega)]
    rfl
theorem zto (w:World) (v fv:Value) (L:List Int) (p:Int->Bool) (hv:SlF w 3 1 int1 v L) (hl:L.length<=1099511627) (hp:TellsI w 48 fv v L p) :
 Calls Tryz.prog 47 #[v,.func (.func 48) #[] #[fv]] w fun e w'=>∃ v',e=.returned v'/\SlF w' 3 1 int1 v' (L.filter fun x=>!p x)/\Fr (fun b=>v.ownBlock=some b) w w'/\v'.ownBlock=v.ownBlock:=by
 have R:=ztd w v fv L p hv hl hp;obtain ⟨a,cap,rfl,av,aw,ha⟩:=hv.shape;have n:=H_ R;have HP:=H_ hp;clear R hp;by_cases t:L.findIdx p=L.length
 · have f:idxI p L = -1:=by unfold idxI;rw [if_pos t]
   rw [f] at n;have H:=allI t;rw [H];have HV:=H_ hv;clear hv f t H;go_enter Tryz.func47,Tryz.ntmps47;go_wp2_with (go_at_call 76;refine n.out.mono ?_;rintro e w1 ⟨rfl,r⟩);go_ret;exact ⟨_,rfl,HV.out.fr0 r,r.mono fun _ _ h=>h.elim,rfl⟩
 have hk:L.findIdx p<L.length:=Nat.lt_of_le_of_ne List.findIdx_le_length t
 have f:idxI p L=(L.findIdx p:Int):=(by unfold idxI;rw [if_neg t]);rw [f] at n;have I:=firstI rfl hk;generalize ae:L.findIdx p=Y at *;obtain ⟨m,go,rfl⟩:=ha (by omega);have HV:=H_ hv;have A:=H_ I;clear hv f t I ae ha;have aB:((Y:Int) == -1)=false:=(by rw [beq_eq_false_iff_ne];omega);go_enter Tryz.func47,Tryz.ntmps47;go_wp2_with (go_at_call 76;refine n.out.mono ?_;rintro e w1 ⟨rfl,r⟩)
 go_loopg [5,6] L.length (fun g s5 s6 wr=>∃ (k i:Nat) (M:List Int),s5=.int .i64 k/\s6=.int .i64 i/\k<i/\i<=L.length/\i+g=L.length+Y+1/\Y<i/\M.length=L.length/\Hid (M.take k=(L.take i).filter (fun x=>!p x))/\Hid (M.drop i=L.drop i) ∧
  Hid (SlF wr 3 1 int1 (.slice (some ⟨m,go,none⟩) L.length cap) M)/\Hid (Fr (fun b=>b=m) w wr))
 case atStart=>exact ⟨Y,Y+1,L,rfl,by go_num,by omega,by omega,by omega,by omega,rfl,H_ A.out.symm,H_ rfl,H_ (HV.out.fr0 r),H_ (r.mono fun _ _ h=>h.elim)⟩
 case round =>
  obtain ⟨k,i,M,rfl,rfl,aD,ay,az,al,u,HT,HD,HS,HF⟩:=hrel;by_cases hil:i<L.length
  · cases gk with
    | zero=>omega
    | succ g =>
      have Q:(i:Int)<(L.length:Int):=(by omega);have ao:(k:Int)<(L.length:Int):=(by omega);obtain ⟨x,hx⟩:∃ x,L[i]?=some x:=⟨_,gG_ hil⟩
      have D:M[i]?=some x:=by
       have:=congrArg (fun l=>l[0]?) HD.out;simp only [List.getElem?_drop,Nat.add_zero] at this;rw [this];exact hx
      have c:SlF wr 3 1 int1 (.slice (some ⟨m,go,none⟩) M.length cap) M:=(by rw [u];exact HS.out);obtain ⟨y,hy⟩:∃ y,M[k]?=some y:=⟨_,gG_ (by omega)⟩;have ag:m<wr.heap.size:=c.lt m rfl;have V:=HP.out wr x (gM_ hx) (HF.out.mono fun b _ h=>by rw [h];rfl)
      have U:∀ (W:World),Fr No wr W->SlF (W.setCell ⟨m,go+k,none⟩ (.int .i64 x)) 3 1 int1 (.slice (some ⟨m,go,none⟩) L.length cap) (M.set k x):=fun (W:World) (h:Fr No wr W)=>by
       have:=(c.fr0 h).set zba k 0 (by decide) y x (.int .i64 x) hy rfl;rw [u] at this;simpa using this
      have T:∀ W,Fr (fun b=>b=m) w W->Fr (fun b=>b=m) w (W.setCell ⟨m,go+k,none⟩ (.int .i64 x)):=fun (W:World) h=>h.setCell (.inl rfl) _
      have X:(L.take (i+1)).filter (fun x=>!p x)=(L.take i).filter (fun x=>!p x)++(if p x then [] else [x]):=by
       rw [gK_,hx,List.filter_append]
       congr 1
       cases hq:p x <;> simp [hq]
      have F:M.drop (i+1)=L.drop (i+1):=by
       have:=congrArg (List.drop 1) HD.out
       rwa [List.drop_drop,List.drop_drop] at this
      generalize hq:p x=q at *;have z0:=c.cell1 zba i D rfl;have u0:=c.cell1 zba k hy rfl;have ab:=c.free;have a7:=H_ U;have a6:=H_ T;have B:=H_ V;have C:=H_ X;have z:=H_ F;have a9:=H_ c;clear U T V X F c hx D hq ab;cases q
      · go_wp2_with (go_at_call 48;refine B.out.mono ?_;rintro e Z ⟨rfl,s⟩
                     have u0:=s.cell0 u0;have ak:∀ j,Z.frozen? ⟨m,j,none⟩=false:=fun j=>(a9.out.fr0 s).free j;have ar:m<Z.heap.size:=nL_ ag s.size)
        go_roundg g
        case rel=>exact ⟨k+1,i+1,_,by go_num,by go_num,by omega,by omega,by omega,by omega,by rw [List.length_set];exact u,H_ (by rw [zve _ _ _ (by omega),C.out,HT.out];simp),H_ (by rw [zvf _ _ _ _ (by omega)];exact z.out),H_ (a7.out Z s),H_ (a6.out Z (HF.out.trans0 s))⟩
        case measure=>omega
      go_wp2_with (go_at_call 48;refine B.out.mono ?_;rintro e Z ⟨rfl,G⟩)
      go_roundg g
      case rel=>exact ⟨k,i+1,M,rfl,by go_num,by omega,by omega,by omega,by omega,u,H_ (by rw [C.out,HT.out];simp),z,H_ (HS.out.fr0 G),H_ (HF.out.trans0 G)⟩
      case measure=>omega
  have Q:¬ (i:Int)<(L.length:Int):=by omega
  have ad:i=L.length:=(by omega);have aa:Hid (M.take k=L.filter (fun x=>!p x)):=H_ (by rw [HT.out,ad,List.take_length]);clear HT HD n HV A HP;have aE:(k:Int)<=(L.length:Int):=(by omega);have aC:(k:Int)<=(cap:Int):=(by omega);have am:k<=cap:=(by omega);have an:¬ cap=k:=(by omega);have c:SlF wr 3 1 int1 (.slice (some ⟨m,go,none⟩) M.length cap) M:=(by rw [u];exact HS.out)
  obtain ⟨d,o,J⟩:∃ d:Array Value,wr.heap[m]?=some (.cells d 3 (0,0))/\go+L.length * 1<=d.size:=by
   rcases c.2 with ⟨t,_⟩ | ⟨g',o',ai,d,hv,hg,h2,h3,h4,h5⟩
   · cases t
   simp only [Value.slice.injEq,Option.some.injEq,Addr.mk.injEq,and_true] at hv
   obtain ⟨⟨rfl,rfl⟩,_,rfl⟩:=hv;have:L.length * 1<=cap * 1:=Nat.mul_le_mul_right _ (by omega);exact ⟨d,hg,by omega⟩
  have S:go+k+(L.length-k) * 1<=d.size:=(by omega);obtain ⟨w3,ap,N,O⟩:=zdk (P:=Tryz.prog) wr 48 3 0 _ Tryz.underlying48 zero3 (by decide) m (go+k) (L.length-k) (cap-k) d 3 o (by exact S);have K:Fr (fun b=>b=m) wr w3:=(Fr.refl _ wr).grown O fun j hj=>.inl (by simpa using hj.symm);have E:=SlF.cleared zba c k (by omega) d o (Builtin.zeroCells (Value.int .i64 0).cells (L.length-k)).toList (by rw [zbg,u];rfl) (by rw [u,Nat.mul_one];exact N);have a4:=H_ E;clear c E N O o J S;go_wp2;go_ret;exact ⟨_,rfl,by rw [<-aa.out];exact a4.out,(HF.out.trans K fun _ _ h=>h).mono fun b _ h=>by rw [h];rfl,rfl⟩
def upB (H:Hb) (i:Int):Bool:=match getH H.L i with
 | none=>false
 | some s=>decide (H.fed<s.place)
theorem zlr {H:Hb} (hk:HbOk H):(H.L.map (·.1)).filter (fun i=>!upB H i)=zet H:=by
 unfold zet;rw [List.filter_map]
 congr 1
 refine List.filter_congr fun p hp=>?_;have:=(zcy hk.up).2 (show (p.1,p.2)∈H.L from hp);simp only [Function.comp,upB,this];by_cases h:H.fed<p.2.place
 · simp [h] <;> omega
 simp [h] <;> omega
theorem zls {w:World} {h st m:Nat} {hp:Int->Option Nat} {FL:Int->Nat->Prop} {H:Hb} (a:HubR w h st m hp FL H) {i:Int} (hi:(Lit.int .i64 i).wf=true) (hin:i∈H.L.map (·.1)) {c:Nat} (hc:w.cell? ⟨c,0,none⟩=some (.pointer (some ⟨h,0,none⟩))) :
 Calls Tryz.prog 48 #[.int .i64 i,.pointer (some ⟨c,0,none⟩)] w fun e w'=>e=.returned (.bool (upB H i))/\Fr No w w':=by
 obtain ⟨s,k⟩:=(ziy a.ok.up).2 hin;have g:upB H i=decide (H.fed<s.place):=by unfold upB;rw [k]
 obtain ⟨p,f,bv,d,_⟩:=a.sm i s k;have b:=(a.map.fr (Fr.refl No w).drew fun h=>h).look Tryz.underlying94 Tryz.underlying3 hi (zero98 w.drew);rw [f] at b;simp only [Option.map_some,Option.getD_some] at b;have o:=a.obj.cell 3 rfl;have n:=a.obj.cell 1 rfl;have u:=a.obj.lt;have q:=d.1.cell 7 rfl;have v:=d.1.lt;have t:=gB_ _ _ hc;have z:w.drew.cell? ⟨c,0,none⟩=some (.pointer (some ⟨h,0,none⟩)):=hc;have A:w.drew.cell? ⟨h,1,none⟩=some (.int .i64 H.fed):=n;have B:w.drew.cell? ⟨h,3,none⟩=some (.map (some m)):=o;have D:w.drew.cell? ⟨p,7,none⟩=some (.int .i64 s.place):=q;have l1:h<w.drew.heap.size:=u;have x:p<w.drew.heap.size:=v;have y:c<w.drew.heap.size:=t;have r:(s.place > H.fed)=(H.fed<s.place):=rfl;rw [g];have j:=H_ b
 clear b k f d hin g a hi n o q hc;go_enter Tryz.func48,Tryz.ntmps48;go_wp2_with fail;refine zak (C:=fun Z=>Z=w.drew) (by kernel_rfl) (by kernel_rfl) rfl ?_
 repeat (refine (wpQuiet_step (fun K hK=>?_):_)
         go_simp
         first
          | (refine hK _ ?_;clear hK K)
          | (refine ⟨.pointer (some ⟨p,0,none⟩),?lk,hK _ ?_⟩
             case lk=>rw [j.out];exact ⟨rfl,rfl⟩
             clear hK K)
          | (apply Exists.intro
             refine ⟨fun W hW=>?_,hK _ ?_⟩
             (first
               | exact rfl
               | (subst hW;go_simp;exact rfl))
             clear hK K))
 refine (wpQuiet_nil ?_:_);intro E l;subst l;go_wp2;go_ret;exact ⟨rfl,(Fr.refl No w).drew⟩
theorem zoi {w:World} {h st:Nat} {H:Hb} {F:Nat->Prop} (hH:HubAt w h st H F) (hn:H.L.length<=1000) (hl:H.last<=1000000) :
 Calls Tryz.prog 17 #[.pointer (some ⟨h,0,none⟩)] w fun e w'=>∃ v,e=.returned v/\SlF w' 3 1 int1 v (zet H)/\Fr No w w'/\(∀ b,v.ownBlock=some b->w.heap.size<=b):=by
 obtain ⟨m,Q,O,a,hF⟩:=hH;have t:=fun W (hW:Fr No w W)=>znq (a.fr hW fun _ _ s=>s) hn
 have l:=fun W (hW:Fr No w W) c (hc:W.cell? ⟨c,0,none⟩=some (.pointer (some ⟨h,0,none⟩))) i (hin:i∈H.L.map (·.1))=>zls (a.fr hW fun _ _ s=>s) (i:=i) (by
  obtain ⟨q,J,rfl⟩:=List.mem_map.1 hin;have:=a.ok.ids q J;simp [Lit.wf,IntKind.min,IntKind.max,IntKind.signed,IntKind.bits];omega) hin hc
 have o:=zlr a.ok;have u:(H.L.map (·.1)).length<=1099511627:=by rw [List.length_map];omega
 have n:=zad w (.cells #[.pointer (some ⟨h,0,none⟩)] 35) _ rfl;have r:Fr No w (w.alloc (.cells #[.pointer (some ⟨h,0,none⟩)] 35)):=(Fr.refl No w).alloc _;have B:=H_ t;have z:=H_ l;have A:=H_ o;have j:=H_ n;have d:=H_ r;clear a t l hF o n r;go_enter Tryz.func17,Tryz.ntmps17;go_upto_region 1 with fail;generalize D:w.alloc (.cells #[.pointer (some ⟨h,0,none⟩)] 35)=C at *;have I:C.cell? ⟨w.heap.size,0,none⟩=some (.pointer (some ⟨h,0,none⟩)):=cellAt j.out 0 rfl;have R:=zab j.out;clear D
 go_wp2_with (first
  | (go_at_call 43;(with_reducible refine (B.out _ d.out).mono ?_);rintro e N ⟨v,rfl,K,g,f⟩
     have k:=H_ (zto N v (.pointer (some ⟨w.heap.size,0,none⟩)) _ (upB H) K u fun W x hx hW=>z.out W ((d.out.trans0 g).trans hW fun b hb e=>by have:=f b e;have:=d.out.size;omega) _ ((hW.mono (T:=fun b=>C.heap.size<=b) fun b _ e=>f b e).cell ((g.cell0 I)) (fun e=>by have P:C.heap.size<=w.heap.size:=e;omega)) x hx))
  | (go_at_call 47;(with_reducible refine k.out.mono ?_);rintro e S ⟨M,rfl,y,E,G⟩))
 go_ret;rw [A.out] at y;refine ⟨M,rfl,y,(d.out.trans0 g).trans E fun b hb e=>?_,fun b hb=>?_⟩
 · have:=f b e
   have:=d.out.size;omega
 rw [G] at hb
 have:=f b hb;have:=d.out.size;omega
end Go.Proofs.YtdgkdfmfoonbpaaGreat