/- Own lemmas and contracts that the claim's proof needs, laid together. The conditions stand in each. -/
import Derived.Test.YthljnnjpmdgkoaaN31
namespace Go.Proofs.Ythljnnjpmdgkoaa
open Go Go.Proofs Go.RowKit
theorem SInv.put2 {M M':Int} {S:St} (h:SInv M S) (hM0:0<=M) (x:Kv) (hM:M<=M') (hx:x.mod<=M') (h1:1<=x.mod) (hlast:(getT S.T x.key).2=true->∀ H,S.past (getT S.T x.key).1=some H->H.last < x.mod) :
 SInv M' (putS S x)/\∀ k r,livesS (putS S x) k r=if keq x.key k=true/\x.mod<=r then (x,true) else livesS S k r:=by
 obtain ⟨a,b,c,d⟩:=h.made hM0 x.key;obtain ⟨H,hH⟩:=a.has _ b;rw [c] at hH
 have hl:H.last < x.mod:=by
  unfold madeS idS at hH
  cases hg:(getT S.T x.key).2 with
  | true=>rw [hg,if_pos rfl,if_pos rfl] at hH;exact hlast hg H hH
  | false =>
    simp only [hg,Bool.false_eq_true,if_false,if_true] at hH;obtain rfl:=Option.some.inj hH
    show (0:Int) < x.mod
    omega
 have hI:=(a.hist _ _ hH);unfold putS;rw [hH];generalize madeS S x.key=S' at *;generalize idS S x.key=id at *;dsimp only [Option.getD_some];refine ⟨⟨a.inj,fun k hk=>?_,fun i G hG=>?_⟩,fun k r=>?_⟩
 · dsimp only at hk ⊢
   split
   · exact ⟨_,rfl⟩
   exact a.has k hk
 · dsimp only at hG ⊢
   split at hG
   · rename_i e
     obtain rfl:=Option.some.inj hG;exact ⟨⟨hI.1.1.put x hl h1,hx⟩,by rw [e];exact hI.2⟩
   have:=a.hist i G hG
   exact ⟨⟨this.1.1,by omega⟩,this.2⟩
 rw [<-d k r]
 unfold livesS;dsimp only
 cases hk:(getT S'.T k).2 with
 | false =>
   have hno:¬ (keq x.key k=true/\x.mod<=r):=by
    rintro ⟨e,_⟩;rw [zai.1 e,hk] at b;cases b
   simp only [Bool.false_eq_true,if_false,hno]
 | true =>
   simp only [if_true];by_cases e:keq x.key k=true
   · obtain rfl:=zai.1 e
     rw [c,if_pos rfl,hH];dsimp only;rw [znu hI.1.1 x hl h1 r];by_cases hr:r < x.mod
     · rw [if_pos hr,if_neg (by omega)]
     rw [if_neg hr,if_pos ⟨e,by omega⟩]
   have hne:(getT S'.T k).1≠id:=fun e'=>e (zai.2 (a.inj x.key k b hk (c.trans e'.symm)))
   rw [if_neg hne,if_neg fun h=>e h.1]
theorem SInv.more {M M':Int} {S:St} (h:SInv M S) (hM:M<=M'):SInv M' S:=⟨h.inj,h.has,fun i H hi=>⟨⟨(h.hist i H hi).1.1,by have:=(h.hist i H hi).1.2;omega⟩,(h.hist i H hi).2⟩⟩
def putE (x:Kv):Ev:=⟨1,x,kv0⟩
theorem zic (S:St) (x:Kv):doneS S (putE x)=putS S x:=if_pos rfl
theorem zom (S:St) (x:Kv):(putS S x).rev=S.rev/\(putS S x).mark=S.mark/\(putS S x).events=S.events:=by
 rw [<-zic];exact ⟨zmp S (putE x),ziy S (putE x),zcs S (putE x)⟩
theorem putS_T (S:St) (x:Kv):(putS S x).T=if (getT S.T x.key).2 then S.T else insT S.T x.key S.next:=by
 unfold putS madeS;dsimp only
 split <;> rfl
theorem zqh {n:Nat} {M:Int} {S:St} (h:SMore n S) (hI:SInv M S) (hM0:0<=M) (x:Kv) (h1:1<=x.mod) (hlast:(getT S.T x.key).2=true->∀ H,S.past (getT S.T x.key).1=some H->H.last < x.mod):SMore (n+1) (putS S x):=by
 have:=SMore.doS h hI hM0 (putE x) h1 hlast fun e=>absurd rfl e;intro i H hi;refine this i H ?_
 show (doneS S (putE x)).past i=some H
 rw [zic];exact hi
def emptyS (D:Doc):St:=⟨[],fun _=>none,0,D.rev,D.mark,[]⟩
def begS (D:Doc) (i:Nat):St:=(D.kvs.take i).foldl putS (emptyS D)
theorem zlk (D:Doc) {i:Nat} {y:Kv} (h:D.kvs[i]? = some y):begS D (i+1)=putS (begS D i) y:=by
 unfold begS;rw [List.take_add_one,h,List.foldl_append]
 rfl
structure BegI (D:Doc) (i:Nat) (S:St):Prop where
 keys:∀ k,(getT S.T k).2=true->∃ y∈D.kvs.take i,y.key=k
 inv:SInv D.mark S
 lives:∀ key r,D.mark<=r->livesS S key r=seen (hasL (D.kvs.take i) key)
 ok:StOk i S
 size:S.T.length<=i
 srt:Sorted S.T
 more:SMore i S
 events:S.events = []
 mark:S.mark=D.mark
 rev:S.rev=D.rev
theorem BegI.zero (D:Doc) (hm0:0<=D.mark) (hr0 : -top<=D.rev) (hr1:D.rev<=top):BegI D 0 (emptyS D) where
 keys:=fun k h=>by simp [emptyS,getT] at h
 inv:=⟨fun k _ h=>by simp [emptyS,getT] at h,fun k h=>by simp [emptyS,getT] at h,fun i H h=>by simp [emptyS] at h⟩
 lives:=fun k r _=>rfl
 ok:={
  pos:=Int.le_refl 0
  next:=Int.le_refl 0
  id:=fun p hp=>by simp [emptyS] at hp
  ids:=fun i H h=>by simp [emptyS] at h
  hist:=fun i H h=>by simp [emptyS] at h
  rev0:=hr0
  rev1:=hr1
  mark0:=hm0
  ev:=Nat.le_refl 0 }
 size:=Nat.le_refl 0
 srt:=List.Pairwise.nil
 more:=fun i H h=>by simp [emptyS] at h
 events:=rfl
 mark:=rfl
 rev:=rfl
theorem kvs_up {D:Doc} {i:Nat} {y:Kv} (hy:D.kvs[i]? = some y) (hall:∀ j k,j<=i->D.kvs[j]? = some k->KvOk D j k):KSorted (D.kvs.take (i+1))/\∀ z∈D.kvs.take i,klt z.key y.key=true:=by
 have hs:KSorted (D.kvs.take (i+1)):=zez fun j k k' hj h1 h2=>by
  have hjl:=(List.getElem?_eq_some_iff.1 h1).1;rw [List.length_take] at hjl;rw [List.getElem?_take_of_lt (by omega)] at h1 h2;exact (hall j k (by omega) h1).up k' hj h2
 refine ⟨hs,fun z hz=>?_⟩;rw [List.take_add_one,hy] at hs;exact (List.pairwise_append.1 hs).2.2 z hz y (by simp)
theorem BegI.step {D:Doc} {i:Nat} {S:St} (h:BegI D i S) (hm0:0<=D.mark) (hmt:D.mark<=top) {y:Kv} (hy:D.kvs[i]? = some y) (hall:∀ j k,j<=i->D.kvs[j]? = some k->KvOk D j k):(getT S.T y.key).2=false/\BegI D (i+1) (putS S y):=by
 obtain ⟨hs,hup⟩:=kvs_up hy hall;have hmay:=(zdh.1 (hall i y (Nat.le_refl _) hy).may);have hv:=hmay.ver
 have hnew:(getT S.T y.key).2=false:=by
  rw [Bool.eq_false_iff];intro e;obtain ⟨z,hz,hzk⟩:=h.keys _ e;have:=hup z hz;rw [hzk,zbc] at this;cases this
 have hlast:(getT S.T y.key).2=true->∀ H,S.past (getT S.T y.key).1=some H->H.last < y.mod:=fun e=>by rw [hnew] at e;cases e
 obtain ⟨a,b⟩:=h.inv.put2 hm0 y (Int.le_refl _) hv.2.1 hv.2.2 hlast;obtain ⟨p1,p2,p3⟩:=zom S y;refine ⟨hnew,{ keys:=fun k hk=>?_,inv:=a,lives:=fun key r hr=>?_,ok:=zqg h.ok y hv.2.2 (by omega),size:=?_,srt:=?_,more:=zqh h.more h.inv hm0 y hv.2.2 hlast,events:=p3.trans h.events,mark:=p2.trans h.mark,rev:=p1.trans h.rev }⟩
 · rw [putS_T,if_neg (by rw [hnew];decide),zbv] at hk
   by_cases e:keq y.key k=true
   · exact ⟨y,by rw [List.take_add_one,hy];simp,zai.1 e⟩
   rw [if_neg e] at hk
   obtain ⟨z,hz,hzk⟩:=h.keys k hk;exact ⟨z,by rw [List.take_add_one];exact List.mem_append_left _ hz,hzk⟩
 · rw [b,h.lives key r hr]
   have happ:hasL (D.kvs.take (i+1)) key=(hasL (D.kvs.take i) key).or (hasL [y] key):=by
    unfold hasL;rw [List.take_add_one,hy,Option.toList_some,List.find?_append]
   rw [happ];by_cases e:keq y.key key=true
   · rw [if_pos ⟨e,by omega⟩]
     have hn:hasL (D.kvs.take i) key=none:=by
      unfold hasL;rw [List.find?_eq_none];intro z hz hzk;have:=hup z hz;rw [zai.1 hzk,zai.1 e,zbc] at this;cases this
     rw [hn];unfold hasL;rw [List.find?_cons,e]
     rfl
   rw [if_neg fun q=>e q.1]
   have:hasL [y] key=none:=by
    unfold hasL;rw [List.find?_cons];simp [e]
   rw [this,Option.or_none]
 · rw [putS_T,if_neg (by rw [hnew];decide)]
   have:=zhv S.T y.key S.next;have:=h.size;omega
 rw [<-zic]
 exact zfu h.srt (putE y)
def preD (D:Doc) (i:Nat):Doc:=⟨max D.mark (revAt D i),D.mark,D.kvs,D.events.take i⟩
structure EvI (D:Doc) (i:Nat) (S:St):Prop where
 cpl:Cpl S (preD D i)
 ok:StOk (D.kvs.length+i) S
 size:S.T.length<=D.kvs.length+i
 srt:Sorted S.T
 more:SMore (D.kvs.length+i) S
 rev:S.rev=D.rev
 last:∀ k,(getT S.T k).2=true->∀ H,S.past (getT S.T k).1=some H->H.last<=D.mark\/∃ j e,j < i/\D.events[j]? = some e/\e.kv.key=k/\H.last<=e.kv.mod
 keys:∀ k,(getT S.T k).2=true->(∃ y∈D.kvs,y.key=k)\/∃ j e,j < i/\D.events[j]? = some e/\e.kind=1/\D.mark < e.kv.mod/\e.kv.key=k
theorem BegI.start {D:Doc} {S:St} (h:BegI D D.kvs.length S) (hm0:0<=D.mark) (hs:KSorted D.kvs):EvI D 0 S where
 cpl:={
  mark:=h.mark
  events:=by rw [h.events];rfl
  inv:=h.inv.more (by show D.mark<=max D.mark (revAt D 0);omega)
  ks:=hs
  m0:=⟨hm0,by show D.mark<=max D.mark (revAt D 0);omega⟩
  lives:=fun key r hr=>by
   rw [h.lives key r hr,List.take_length]
   rfl }
 ok:=h.ok
 size:=h.size
 srt:=h.srt
 more:=h.more
 rev:=h.rev
 last:=fun k _ H hH=>.inl (h.inv.hist _ _ hH).1.2
 keys:=fun k hk=>by
  obtain ⟨y,hy,e⟩:=h.keys k hk;exact .inl ⟨y,List.mem_of_mem_take hy,e⟩
theorem zjn {D:Doc}:∀ {i:Nat},i<=D.events.length->(∀ j x,j < i->D.events[j]? = some x->EvOk D j x)->∀ j e,j < i->D.events[j]? = some e->e.kv.mod<=revAt D i:=by
 intro i
 induction i with
 | zero=>intro _ _ j e hj;omega
 | succ i ih =>
   intro hi hall j e hj he;obtain ⟨x,hx⟩:∃ x,D.events[i]? = some x:=⟨_,List.getElem?_eq_getElem (by omega)⟩;rw [zci hx];rcases Nat.lt_or_eq_of_le (Nat.le_of_lt_succ hj) with h | h
   · have h1:=ih (by omega) (fun j x hj=>hall j x (by omega)) j e h he
     have h2:=(hall i x (by omega) hx).ge;omega
   subst h
   rw [he] at hx;obtain rfl:=Option.some.inj hx;exact Int.le_refl _
theorem pre_at {D:Doc} {i:Nat} (hi:i<=D.events.length) (hall:∀ j x,j < i->D.events[j]? = some x->EvOk D j x) {r:Int} (hr:max D.mark (revAt D i)<=r):(preD D i).at r=foldTo D i:=by
 rw [Doc.at_all (D:=preD D i) (fun e he=>?_) hr]
 · rfl
 obtain ⟨j,hj⟩:=List.mem_iff_getElem?.1 he
 have hjl:=(List.getElem?_eq_some_iff.1 hj).1;have hjl':j < (D.events.take i).length:=hjl;rw [List.length_take] at hjl';have hj':(D.events.take i)[j]? = some e:=hj;rw [List.getElem?_take_of_lt (by omega)] at hj';have:=zjn hi hall j e (by omega) hj'
 show e.kv.mod<=max D.mark (revAt D i)
 omega
theorem EvI.lives {D:Doc} {i:Nat} {S:St} (h:EvI D i S) (hi:i<=D.events.length) (hall:∀ j x,j < i->D.events[j]? = some x->EvOk D j x) (key:ByteArray) {r:Int} (hr:max D.mark (revAt D i)<=r):livesS S key r=seen (hasL (foldTo D i) key):=by
 rw [h.cpl.lives key r (by show D.mark<=r;omega),pre_at hi hall hr]
theorem EvI.marked {D:Doc} {i:Nat} {S:St} (h:EvI D i S) {x:Ev} (hx:D.events[i]? = some x) (hok:EvOk D i x) (hm:x.kv.mod=D.mark):EvI D (i+1) { S with events:=S.events++[x] }:=by
 have hge:=hok.ge;have hr:=zci hx;have hm0:=h.cpl.m0.1
 have hpre:preD D (i+1) = { preD D i with events:=D.events.take i++[x] }:=by
  unfold preD;rw [List.take_add_one,hx,hr];dsimp only;rw [show max D.mark x.kv.mod=max D.mark (revAt D i) by omega]
  rfl
 have hat:∀ r,(preD D (i+1)).at r=(preD D i).at r:=fun r=>by
  rw [hpre]
  unfold Doc.at;dsimp only;rw [List.filter_append]
  have:([x]:List Ev).filter (fun e=>decide ((preD D i).mark < e.kv.mod) && decide (e.kv.mod<=r)) = []:=by
   have h0:¬ (preD D i).mark < x.kv.mod:=(by show ¬ D.mark < x.kv.mod;omega);simp [h0]
  rw [this,List.append_nil]
  rfl
 have hrev:(preD D (i+1)).rev=(preD D i).rev:=by rw [hpre]
 exact {
  cpl:={
   mark:=h.cpl.mark
   events:=by
    show S.events++[x] = _
    rw [h.cpl.events,hpre]
    rfl
   inv:=by
    rw [hrev];exact ⟨h.cpl.inv.inj,h.cpl.inv.has,h.cpl.inv.hist⟩
   ks:=h.cpl.ks
   m0:=by rw [hrev];exact h.cpl.m0
   lives:=fun key r hr=>by
    rw [hat];exact h.cpl.lives key r hr }
  ok:={
   pos:=h.ok.pos
   next:=by have:=h.ok.next;show S.next<=_;omega
   id:=h.ok.id
   ids:=h.ok.ids
   hist:=fun j H hj=>⟨(h.ok.hist j H hj).1.mono (by omega),(h.ok.hist j H hj).2⟩
   rev0:=h.ok.rev0
   rev1:=h.ok.rev1
   mark0:=h.ok.mark0
   ev:=by have:=h.ok.ev;show (S.events++[x]).length<=_;rw [List.length_append];simp only [List.length_singleton];omega }
  size:=by have:=h.size;show S.T.length<=_;omega
  srt:=h.srt
  more:=fun j H hj=>(h.more j H hj).mono (by omega)
  rev:=h.rev
  last:=fun k hk H hH=>(h.last k hk H hH).imp id fun ⟨j,e,a,b⟩=>⟨j,e,by omega,b⟩
  keys:=fun k hk=>(h.keys k hk).imp id fun ⟨j,e,a,b⟩=>⟨j,e,by omega,b⟩ }
theorem zee {x:Ev} {was:Kv} {rev:Int} (h:madeB x was rev=true):(x.kind=1\/x.kind=2)/\keyE x.kv.key=0/\x.kv.mod=rev/\x.prev=was/\(x.kind=2->0 < was.version):=by
 unfold madeB at h
 split at h
 · cases h
 rename_i hn
 simp only [not_or,Decidable.not_not,Bool.not_eq_false] at hn;obtain ⟨h1,h2,h3⟩:=hn
 split at h
 · rename_i hk
   simp only [Bool.and_eq_true,decide_eq_true_eq] at h;exact ⟨.inr hk,h1,h2,zdr.1 h3,fun _=>h.1⟩
 rename_i hk
 simp only [Bool.and_eq_true,beq_iff_eq] at h;exact ⟨.inl h.1,h1,h2,zdr.1 h3,fun e=>absurd e hk⟩
theorem EvI.fits {D:Doc} {i:Nat} {S:St} (h:EvI D i S) (hil:i<=D.events.length) (hall:∀ j x,j < i->D.events[j]? = some x->EvOk D j x) {x:Ev} (hok:EvOk D i x) (hm:D.mark < x.kv.mod) :
 ((getT S.T x.kv.key).2=true->∀ H,S.past (getT S.T x.kv.key).1=some H->H.last < x.kv.mod) ∧
   (x.kind≠1->(getT S.T x.kv.key).2=true/\∀ H,S.past (getT S.T x.kv.key).1=some H->isOpen H.gens=true):=by
 have hge:=hok.ge
 have hL:(getT S.T x.kv.key).2=true->∀ H,S.past (getT S.T x.kv.key).1=some H->H.last < x.kv.mod:=fun hk H hH=>by
  rcases h.last _ hk H hH with h1 | ⟨j,e,h1,h2,h3,h4⟩
  · omega
  have h5:=zjn hil hall j e h1 h2
  rcases Int.lt_or_le e.kv.mod x.kv.mod with h6 | h6
  · omega
  have:=hok.one j e h1 h2 (by omega)
  rw [h3,zai.2 rfl] at this;cases this
 refine ⟨hL,fun hk=>?_⟩;have hmd:=zee (hok.md (by omega));have hk2:x.kind=2:=hmd.1.resolve_left hk;have hv:=hmd.2.2.2.2 hk2;have hr:max D.mark (revAt D i)<=x.kv.mod:=by omega
 have hl:=h.lives hil hall x.kv.key hr
 have hl2:(livesS S x.kv.key x.kv.mod).2=true:=by
  rw [hl]
  cases hh:hasL (foldTo D i) x.kv.key with
  | none =>
    rw [hh] at hv;have hv':(0:Int) < kv0.version:=hv;exact absurd hv' (by decide)
  | some y=>rfl
 have hT:(getT S.T x.kv.key).2=true:=by
  cases hg:(getT S.T x.kv.key).2 with
  | true=>rfl
  | false =>
    unfold livesS at hl2;rw [hg,if_neg (by decide)] at hl2;cases hl2
 refine ⟨hT,fun H hH=>?_⟩;have hl3:=hL hT H hH;rw [<-h.cpl.inv.open_lives hT hH (r:=x.kv.mod) (by omega)];exact hl2
theorem EvI.does {D:Doc} {i:Nat} {S:St} (h:EvI D i S) (hil:i<=D.events.length) (hall:∀ j x,j < i->D.events[j]? = some x->EvOk D j x) {x:Ev} (hx:D.events[i]? = some x) (hok:EvOk D i x) (hm:D.mark < x.kv.mod) (ht:x.kv.mod<=top) :
 EvI D (i+1) (doS S x):=by
 obtain ⟨hlast,hdel⟩:=h.fits hil hall hok hm;have hge:=hok.ge;have hm0:=h.cpl.m0.1;have hm0':0<=D.mark:=hm0;have h1:1<=x.kv.mod:=by omega
 have hr:=zci hx;have hpr:(preD D i).rev<=x.kv.mod:=by show max D.mark (revAt D i)<=x.kv.mod;omega
 have hpr0:0<=(preD D i).rev:=by show 0<=max D.mark (revAt D i);omega
 have hpre:preD D (i+1)=(preD D i).add x:=by
  unfold preD Doc.add;rw [List.take_add_one,hx,hr];dsimp only;rw [show max D.mark x.kv.mod=x.kv.mod by omega]
  rfl
 have hc:=h.cpl.does x hpr h1 hm hlast hdel;rw [<-hpre] at hc;refine { cpl:=hc,ok:=doS_ok h.ok x h1 ht,size:=?_,srt:=zfu h.srt x,more:=SMore.doS h.more h.cpl.inv hpr0 x h1 hlast hdel,rev:=(zmp S x).trans h.rev,last:=fun k hk H hH=>?_,keys:=fun k hk=>?_ }
 · have:=zrg S x
   have:=h.size;have h2:(if x.kind=1 then 1 else 0)<=1:=(by split <;> omega);omega
 · by_cases hkx:k=x.kv.key
   · refine .inr ⟨i,x,by omega,hx,hkx.symm,?_⟩
     have:=(hc.inv.hist _ _ hH).1.2;have h2:H.last<=max D.mark (revAt D (i+1)):=this;rw [hr] at h2;omega
   -- what the key had ahead
   by_cases ho:(getT S.T k).2=true
   · obtain ⟨H0,hH0⟩:=h.cpl.inv.has k ho
     rcases h.last k ho H0 hH0 with h2 | ⟨j,e,h2,h3,h4,h5⟩
     · have:=zgk h.cpl.inv hpr0 x (B:=D.mark) hm0' hk hH fun _ H' hH'=>.inl (by rw [hH0] at hH';obtain rfl:=Option.some.inj hH';exact h2)
       exact .inl (this.resolve_right hkx)
     have he1:0<=e.kv.mod:=by have:=(hall j e h2 h3).lo;omega
     have:=zgk h.cpl.inv hpr0 x (B:=e.kv.mod) he1 hk hH fun _ H' hH'=>.inl (by rw [hH0] at hH';obtain rfl:=Option.some.inj hH';exact h5);exact .inr ⟨j,e,by omega,h3,h4,this.resolve_right hkx⟩
   have:=zgk h.cpl.inv hpr0 x (B:=D.mark) hm0' hk hH fun e=>absurd e ho
   exact .inl (this.resolve_right hkx)
 by_cases hk1:x.kind=1
 · by_cases hkx:k=x.kv.key
   · exact .inr ⟨i,x,by omega,hx,hk1,hm,hkx.symm⟩
   have hk':(getT (doneS S x).T k).2=true:=hk
   unfold doneS at hk';rw [if_pos hk1,putS_T] at hk'
   have ho:(getT S.T k).2=true:=by
    split at hk'
    · exact hk'
    rw [zbv,if_neg (by rw [zai];exact fun e=>hkx e.symm)] at hk'
    exact hk'
   exact (h.keys k ho).imp id fun ⟨j,e,a,b⟩=>⟨j,e,by omega,b⟩
 have hk':(getT (doS S x).T k).2=true:=hk
 rw [doS_T2 S x hk1] at hk';exact (h.keys k hk').imp id fun ⟨j,e,a,b⟩=>⟨j,e,by omega,b⟩
structure MadeOk (D:Doc) (S:St):Prop where
 cpl:Cpl S D
 ok:StOk (D.kvs.length+D.events.length) S
 size:S.T.length<=D.kvs.length+D.events.length
 srt:Sorted S.T
 more:SMore (D.kvs.length+D.events.length) S
 rev:S.rev=D.rev
 keys:∀ k,(getT S.T k).2=true->(∃ y∈D.kvs,y.key=k)\/∃ e∈D.events,e.kind=1/\D.mark < e.kv.mod/\e.kv.key=k
theorem EvI.all {D:Doc} {S:St} (h:EvI D D.events.length S) (hl:revAt D D.events.length=D.rev) (hm:D.mark<=D.rev):MadeOk D S:=by
 have hp:preD D D.events.length=D:=by
  unfold preD;rw [List.take_length,hl,show max D.mark D.rev=D.rev by omega]
 exact ⟨hp ▸ h.cpl,h.ok,h.size,h.srt,h.more,h.rev,fun k hk=>(h.keys k hk).imp id fun ⟨j,e,_,a,b⟩=>⟨e,List.mem_of_getElem? a,b⟩⟩
def lastAt (D:Doc) (i:Nat) (k:ByteArray):Option Int:=((D.events.take i).reverse.find? fun e=>keq e.kv.key k).map fun e=>e.kv.mod
theorem zme (D:Doc) (k:ByteArray):lastAt D 0 k=none:=rfl
theorem zho (D:Doc) {i:Nat} {x:Ev} (hx:D.events[i]? = some x) (k:ByteArray):lastAt D (i+1) k=if keq x.kv.key k=true then some x.kv.mod else lastAt D i k:=by
 unfold lastAt;rw [List.take_add_one,hx,Option.toList_some,List.reverse_append,List.reverse_singleton,List.singleton_append,List.find?_cons];cases h:keq x.kv.key k <;> simp
theorem zos {D:Doc}:∀ {i:Nat},i<=D.events.length->(∀ j x,j < i->D.events[j]? = some x->EvOk D j x)->∀ (k:ByteArray) (r:Int),revAt D i<=r->1<=r →
 (((lastAt D i k).getD 0=r) ↔ ∃ j y,j < i/\D.events[j]? = some y/\y.kv.mod=r/\keq y.kv.key k=true):=by
 intro i
 induction i with
 | zero =>
   intro _ _ k r _ hr;rw [zme];exact ⟨fun h=>by have h':(0:Int)=r:=h;omega,fun ⟨j,_,h,_⟩=>by omega⟩
 | succ i ih =>
   intro hi hall k r hr h1;obtain ⟨x,hx⟩:∃ x,D.events[i]? = some x:=⟨_,List.getElem?_eq_getElem (by omega)⟩;have hle:=zjn hi hall;have hge:=(hall i x (by omega) hx).ge;rw [zci hx] at hr hle;rw [zho D hx];by_cases hk:keq x.kv.key k=true
   · rw [if_pos hk]
     refine ⟨fun h=>⟨i,x,by omega,hx,h,hk⟩,fun ⟨j,y,a,b,c,d⟩=>?_⟩;have:=hle j y a b
     show x.kv.mod=r
     omega
   rw [if_neg hk,ih (by omega) (fun j x hj=>hall j x (by omega)) k r (by omega) h1]
   refine ⟨fun ⟨j,y,a,b⟩=>⟨j,y,by omega,b⟩,fun ⟨j,y,a,b,c,d⟩=>?_⟩;rcases Nat.lt_or_eq_of_le (Nat.le_of_lt_succ a) with e | e
   · exact ⟨j,y,e,b,c,d⟩
   subst e
   rw [hx] at b;obtain rfl:=Option.some.inj b;exact absurd d hk
def sameE (x y:Ev):Bool:=(x.kind == y.kind) && (sameB x.kv y.kv && sameB x.prev y.prev)
def fromE (x:Ev) (was:Kv) (rev:Int):Ev :=
 if x.kind=2 then ⟨2,⟨x.kv.key,ByteArray.empty,0,rev,0,0⟩,was⟩
 else ⟨1,⟨x.kv.key,x.kv.value,if was.version=0 then rev else was.create,rev,wrap64 (was.version+1),x.kv.lease⟩,was⟩
def zdk (x:Ev) (was:Kv) (rev:Int):Bool :=
 if x.kind=2 then decide (0 < was.version) && sameE x (fromE x was rev)
 else if x.kind=1 then decide (x.kv.value.size<=1024) && (decide (0<=x.kv.lease) && sameE x (fromE x was rev))
 else false
theorem zia {x:Ev} {was:Kv} {rev:Int} (hk:keyE x.kv.key=0) (hr:x.kv.mod=rev):zdk x was rev=madeB x was rev:=by
 rw [Bool.eq_iff_iff];unfold zdk madeB fromE;by_cases h2:x.kind=2
 · rw [if_pos h2,if_pos h2,if_pos h2]
   by_cases hp:sameB x.prev was=true
   · rw [if_neg (by rw [hk,hr,hp];simp)]
     obtain ⟨a,⟨b1,b2,b3,b4,b5,b6⟩,c⟩:=x;dsimp only at *;subst h2;simp only [Bool.and_eq_true,decide_eq_true_eq,sameE,beq_self_eq_true,true_and,hp,and_true]
   rw [if_pos (.inr (.inr (by simpa using hp)))]
   simp only [Bool.and_eq_true,decide_eq_true_eq,sameE,Bool.false_eq_true,iff_false,not_and];exact fun _ _ _=>hp
 rw [if_neg h2,if_neg h2,if_neg h2]
 by_cases h1:x.kind=1
 · rw [if_pos h1]
   by_cases hp:sameB x.prev was=true
   · rw [if_neg (show ¬ (keyE x.kv.key≠0\/x.kv.mod≠rev\/sameB x.prev was=false) from by rw [hk,hr,hp];simp)]
     obtain ⟨a,⟨b1,b2,b3,b4,b5,b6⟩,c⟩:=x;dsimp only at *;subst h1 hr;simp only [Bool.and_eq_true,decide_eq_true_eq,sameE,sameB,beq_iff_eq,zgl,true_and,and_true];have hp':=zdr.1 hp;subst hp';simp only [and_true]
     constructor
     · rintro ⟨p,q,⟨r1,r2⟩,r3⟩
       exact ⟨r1,r2,p,q⟩
     rintro ⟨r1,r2,p,q⟩
     exact ⟨p,q,⟨r1,r2⟩,⟨zgl _,zgl _⟩⟩
   rw [if_pos (show (keyE x.kv.key≠0\/x.kv.mod≠rev\/sameB x.prev was=false) from .inr (.inr (by simpa using hp)))]
   simp only [Bool.and_eq_true,decide_eq_true_eq,sameE,Bool.false_eq_true,iff_false,not_and];exact fun _ _ _ _=>hp
 rw [if_neg h1]
 constructor
 · intro h
   cases h
 intro h;by_cases hc:(keyE x.kv.key≠0\/x.kv.mod≠rev\/sameB x.prev was=false)
 · rw [if_pos hc] at h
   cases h
 rw [if_neg hc] at h
 simp only [Bool.and_eq_true,beq_iff_eq] at h;exact absurd h.1 h1
def marksB (x:Ev) (was:Kv × Bool) (rev:Int):Bool :=
 !((!sameB x.prev kv0 && (!keq x.prev.key x.kv.key || !mayB x.prev (rev - 1))) || (!zdk x x.prev rev || ((x.kind == 1) != was.2 || (was.2 && !sameB was.1 x.kv))))
theorem zou:keyE ByteArray.empty≠0:=by
 rw [show keyE ByteArray.empty=30 from by kernel_rfl]
 decide
theorem zkz {D:Doc} (hall:∀ j k,D.kvs[j]? = some k->KvOk D j k) {x:Ev} (hk:keyE x.kv.key=0) (hm:x.kv.mod=D.mark):marksB x (seen (hasL D.kvs x.kv.key)) D.mark=zfq x D.kvs D.mark:=by
 unfold marksB zfq;rw [zia hk hm];by_cases h1:(sameB x.prev kv0=false/\(keq x.prev.key x.kv.key=false\/mayB x.prev (D.mark - 1)=false))
 · rw [if_pos (.inl h1)]
   have:(!sameB x.prev kv0 && (!keq x.prev.key x.kv.key || !mayB x.prev (D.mark - 1)))=true:=by
    rw [h1.1];rcases h1.2 with h | h <;> rw [h] <;> simp
   rw [this]
   rfl
 have h1':(!sameB x.prev kv0 && (!keq x.prev.key x.kv.key || !mayB x.prev (D.mark - 1)))=false:=by
  rw [Bool.eq_false_iff];intro h;simp only [Bool.and_eq_true,Bool.or_eq_true,Bool.not_eq_true'] at h;exact h1 h
 rw [h1',Bool.false_or]
 cases h2:madeB x x.prev D.mark with
 | false=>rw [if_pos (.inr rfl)];rfl
 | true =>
   rw [if_neg (show ¬ ((sameB x.prev kv0=false/\(keq x.prev.key x.kv.key=false\/mayB x.prev (D.mark - 1)=false))\/true=false) from by
    rintro (h | h)
    · exact h1 h
    cases h)]
   have hkd:=(zee h2).1
   cases hh:hasL D.kvs x.kv.key with
   | none =>
     by_cases hk1:x.kind=1
     · rw [if_pos hk1]
       have hne:sameB kv0 x.kv=false:=by
        rw [Bool.eq_false_iff];intro e;have e':=zdr.1 e;rw [<-e'] at hk;exact zou hk
       show _=sameB kv0 x.kv
       rw [hne,hk1]
       rfl
     have hk2:=hkd.resolve_left hk1
     rw [if_neg hk1,hk2]
     rfl
   | some y =>
     obtain ⟨j,hj⟩:=List.mem_iff_getElem?.1 (List.mem_of_find?_eq_some hh);have hv:=(zdh.1 (hall j y hj).may).ver;by_cases hk1:x.kind=1
     · rw [if_pos hk1,hk1]
       show (!(!true || (((1:Int) == 1) != true || (true && !sameB y x.kv))))=sameB y x.kv
       cases sameB y x.kv <;> rfl
     have hk2:=hkd.resolve_left hk1
     rw [if_neg hk1,hk2]
     show _=(y.version == 0)
     have:(y.version == 0)=false:=beq_eq_false_iff_ne.2 (by omega);rw [this]
     rfl
def mayPB (x:Kv) (rev:Int):Bool :=
 (keyE x.key == 0) && (decide (x.value.size<=1024) && (decide (1<=x.create) && (decide (x.create<=x.mod) && (decide (x.mod<=rev) && (decide (1<=x.version) && (decide (x.version - 1<=x.mod - x.create) && (((x.version == 1) == (x.mod == x.create)) && decide (0<=x.lease))))))))
theorem znm (x:Kv) (rev:Int):mayPB x rev=mayB x rev:=by
 rw [Bool.eq_iff_iff,zdh];unfold mayPB MayP;simp only [Bool.and_eq_true,beq_iff_eq,decide_eq_true_eq]
 constructor
 · rintro ⟨a,b,c,d,e,f,g,h,i⟩
   refine ⟨a,b,i,c,d,e,fun hm=>?_,fun hm=>?_⟩
   · rw [beq_iff_eq.2 hm] at h
     simpa using h
   rw [beq_eq_false_iff_ne.2 hm] at h
   have:x.version≠1:=(by simpa using h);omega
 rintro ⟨a,b,i,c,d,e,h1,h2⟩
 by_cases hm:x.mod=x.create
 · have:=h1 hm
   refine ⟨a,b,c,d,e,by omega,by omega,?_,i⟩;rw [this,beq_iff_eq.2 hm]
   rfl
 have:=h2 hm
 refine ⟨a,b,c,d,e,by omega,by omega,?_,i⟩;rw [beq_eq_false_iff_ne.2 hm,beq_eq_false_iff_ne.2 (show x.version≠1 by omega)]
structure DocN64 (D:Doc):Prop where
 kvs:∀ k∈D.kvs,k.mod<=9223372036854775807/\k.version<=9223372036854775807
 evs:∀ x∈D.events,-9223372036854775808<=x.kv.mod/\x.kv.mod<=9223372036854775807/\x.prev.mod<=9223372036854775807/\x.prev.version<=9223372036854775807
 keys:∀ k∈D.kvs,k.key.size<=1099511627776
 keye:∀ x∈D.events,x.kv.key.size<=1099511627776/\x.prev.key.size<=1099511627776
 len:D.kvs.length+D.events.length < 1000000
def MadeR (TA:zan) (D:Doc) (w:World) (e:Ending) (w':World):Prop :=
 (zar D/\∃ s S F,e = .returned (.tuple #[.pointer (some ⟨s,0,none⟩),.int .i64 0])/\zaj TA w' s S F/\MadeOk D S/\(∀ b,F b->w.heap.size<=b)/\Fr No w w')\/(¬ zar D/\e = .returned (.tuple #[.pointer none,.int .i64 1])/\Fr No w w')
theorem MadeR.no {TA:zan} {D:Doc} {w w':World} (h:¬ zar D) (hf:Fr No w w'):MadeR TA D w (.returned (.tuple #[.pointer none,.int .i64 1])) w':=.inr ⟨h,rfl,hf⟩
theorem MadeR.yes {TA:zan} {D:Doc} {w w':World} {s:Nat} {S:St} {F:Nat->Prop} (h:zar D) (hs:zaj TA w' s S F) (hm:MadeOk D S) (hF:∀ b,F b->w.heap.size<=b) (hf:Fr No w w'):MadeR TA D w (.returned (.tuple #[.pointer (some ⟨s,0,none⟩),.int .i64 0])) w':=.inl ⟨h,s,S,F,rfl,hs,hm,hF,hf⟩
theorem MadeR.get {TA:zan} {D:Doc} {w:World} {e:Ending} {w':World} (h:MadeR TA D w e w') (hr:zar D):∃ s S F,e = .returned (.tuple #[.pointer (some ⟨s,0,none⟩),.int .i64 0])/\zaj TA w' s S F/\MadeOk D S/\(∀ b,F b->w.heap.size<=b)/\Fr No w w':=h.elim (fun h=>h.2) (fun h=>absurd hr h.1)
end Go.Proofs.Ythljnnjpmdgkoaa