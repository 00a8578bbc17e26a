/- Own lemmas. -/
import Derived.Test.YthljnnjpmdgkoaaGreatI30
import Derived.Test.YthljnnjpmdgkoaaGreatI29
import Derived.Test.YthljnnjpmdgkoaaGreatI14
namespace Go.Proofs.YthljnnjpmdgkoaaGreat
open Go Go.Proofs Go.RowKit
set_option maxRecDepth 100000
def takeF (lb cb:Nat):Value:=.func (.func 93) #[] #[.pointer (some ⟨lb,0,none⟩),.pointer (some ⟨cb,0,none⟩)]
def rnumF (tb:Nat):Value:=.func (.func 94) #[] #[.pointer (some ⟨tb,0,none⟩)]
def rtxtF (cb tb:Nat):Value:=.func (.func 95) #[] #[.pointer (some ⟨cb,0,none⟩),.pointer (some ⟨tb,0,none⟩)]
set_option maxHeartbeats 4000000 in
theorem zqs (w:World) (lb cb c tb:Nat) (l:List UInt8) (bad:Bool) (f1:Value) (g i:Nat) (e:TypeId) (cs:List Value) (x0:ByteArray) (h1:Has w lb [.string ⟨l.toArray⟩]) (h2:Has w cb [.pointer (some ⟨c,0,none⟩)]) (h3:Has w c [rnumF tb,f1,.bool bad]) (h4:Has w tb [takeF lb cb])
 (hlc:lb≠c) (hcc:cb≠c) (hcl:cb≠lb) (htl:tb≠lb) (htc:tb≠c) (hl:l.length<=1099511627776) (hg:w.heap[g]?=some (.cells cs.toArray e (0,0))) (hi:cs[i]?=some (.string x0)) (hgl:g≠lb) (hgc:g≠c) :
 Calls Tryz.prog 95 (#[.pointer (some ⟨g,i,none⟩)] ++ #[.pointer (some ⟨cb,0,none⟩),.pointer (some ⟨tb,0,none⟩)]) w fun en w'=>en=.returned (.tuple #[])/\Has w' lb [.string ⟨(rdT (l,bad)).1.1.toArray⟩]/\Has w' c [rnumF tb,f1,.bool (rdT (l,bad)).1.2]/\w'.heap[g]?=some (.cells (cs.set i (.string (rdT (l,bad)).2)).toArray e (0,0))/\Fr (fun x=>x=lb\/x=c\/x=g) w w':=by
 unfold rnumF takeF at *;have T:=h2.cell 0 rfl;have W:=h3.cell 0 rfl;have O:=h2.lt;have X:=h3.lt;have S:=h4.lt;have Q:=h1.lt;have Y:=zab hg;have q:=zad w (Obj.cells #[.int .i64 0] 3) _ rfl;have a:Fr No w (w.alloc (Obj.cells #[.int .i64 0] 3)):=(Fr.refl No w).alloc _;have F:=zkd (w.alloc (Obj.cells #[.int .i64 0] 3)) lb cb c tb l bad _ f1 w.heap.size 0 3 [.int .i64 0] 0 (h1.fr a id) (h2.fr a id) (h3.fr a id) (h4.fr a id) hlc hcc hl (by simpa using q) rfl (by omega) (by omega);have E:=H_ F;have J:=H_ hg;have K:=H_ hi;have f:=H_ a;have z:=H_ h2;have C:=H_ h4;have s:=(zcc (l,bad)).1;have D:(rdN (l,bad)).1.1.length<=1099511627776:=Nat.le_trans s hl;rw [rdT_K];clear F hg hi a q h1 h2 h3 h4 s;generalize rdN (l,bad)=N at *;obtain ⟨⟨M,b1⟩,H⟩:=N;dsimp only at *
 go_enter Tryz.func95,Tryz.ntmps95;go_upto_region 2 with (go_at_call 94;refine E.out.mono ?_;rintro en w1 ⟨rfl,m,n,k,o⟩);have j:=(z.out.fr f.out id).fr o (by rintro (h | h | h);exact hcl h;exact hcc h;omega);have d:=(C.out.fr f.out id).fr o (by rintro (h | h | h);exact htl h;exact htc h;omega);have r:=o.heap (f.out.heap J.out id) (by rintro (h | h | h);exact hgl h;exact hgc h;omega);have t0:=d.cell 0 rfl;have n0:w1.cell? ⟨w.heap.size,0,none⟩=some (.int .i64 H):=cellAt k 0 rfl;have Z:=zab k;have R:=d.lt;have G:=zil w1 lb cb c M b1 _ f1 H m j n hlc hcc D;have L:=H_ G;have A:=H_ r;have y:=H_ o;clear G r m n k o j d E
 go_wp2_with (go_at_call 93;refine L.out.mono ?_;rintro en I ⟨rfl,m,n,k⟩
              have b:=k.heap A.out (by rintro (h | h);exact hgl h;exact hgc h);have U:I.cell? ⟨g,i,none⟩=some (.string x0):=cellAt b i (by simpa using K.out);have V:I.frozen? ⟨g,i,none⟩=false:=(by unfold World.frozen?;rw [b];rfl);have P:=zab b;have B:=H_ b;have t:=H_ m;have u:=H_ n;have v:=H_ k;clear b m n k)
 refine bodyPost_end (results_none rfl _ _ _) rfl ⟨rfl,t.out.other ⟨g,i,none⟩ _ (fun e=>hgl e.symm),u.out.other ⟨g,i,none⟩ _ (fun e=>hgc e.symm),?_,?_⟩
 · rw [zaa B.out]
   simp
 refine ((((f.out.mono fun _ _ h=>h.elim).trans y.out fun x hx h=>?_).trans v.out fun x hx h=>?_).setCell (p:=⟨g,i,none⟩) (.inl (.inr (.inr rfl))) _)
 · rcases h with h | h | h
   · exact .inl h
   · exact .inr (.inl h)
   omega
 rcases h with h | h
 · exact .inl h
 exact .inr (.inl h)
def rdC (c lb cb tb:Nat):Cod Rd where
 c:=c
 nf:=94
 tf:=95
 nc:=#[.pointer (some ⟨tb,0,none⟩)]
 tc:=#[.pointer (some ⟨cb,0,none⟩),.pointer (some ⟨tb,0,none⟩)]
 num:=fun s _=>rdN s
 txt:=fun s _=>rdT s
 bad:=fun s=>s.2
 small:=fun _=>True
 At:=fun w s F=>Has w lb [.string ⟨s.1.toArray⟩]/\Has w cb [.pointer (some ⟨c,0,none⟩)]/\Has w c [rnumF tb,rtxtF cb tb,.bool s.2]/\Has w tb [takeF lb cb]/\(lb≠c/\cb≠c/\cb≠lb/\tb≠lb/\tb≠c)/\s.1.length<=1099511627776/\∀ x,F x↔(x=c\/x=lb\/x=cb\/x=tb)
theorem rdC_ok (c lb cb tb:Nat):CodOk (rdC c lb cb tb) where
 enf:=fun args w=>enters_of Tryz.func94 (by kernel_rfl) rfl args w
 etf:=fun args w=>enters_of Tryz.func95 (by kernel_rfl) rfl args w
 cell:=fun w s F h=>h.2.2.1
 lt:=fun w s F h x hx=>by
  obtain ⟨h1,h2,h3,h4,h5,h6,h7⟩:=h;rcases (h7 x).1 hx with rfl | rfl | rfl | rfl
  · exact h3.lt
  · exact h1.lt
  · exact h2.lt
  exact h4.lt
 inF:=fun w s F h=>(h.2.2.2.2.2.2 c).2 (.inl rfl)
 fr:=fun w w' s F S h hf hn=>by
  obtain ⟨h1,h2,h3,h4,h5,h6,h7⟩:=h;exact ⟨h1.fr hf (fun h=>hn _ h ((h7 _).2 (.inr (.inl rfl)))),h2.fr hf (fun h=>hn _ h ((h7 _).2 (.inr (.inr (.inl rfl))))),h3.fr hf (fun h=>hn _ h ((h7 _).2 (.inl rfl))),h4.fr hf (fun h=>hn _ h ((h7 _).2 (.inr (.inr (.inr rfl))))),h5,h6,h7⟩
 snum:=fun _ _ _=>trivial
 stxt:=fun _ _ _=>trivial
 num:=fun w s F g e cs i n hA hg hi hF _=>by
  obtain ⟨h1,h2,h3,h4,h5,h6,h7⟩:=hA;have hgl:g≠lb:=fun e=>hF ((h7 _).2 (.inr (.inl e)));have hgc:g≠c:=fun e=>hF ((h7 _).2 (.inl e));have hgb:g≠cb:=fun e=>hF ((h7 _).2 (.inr (.inr (.inl e))));have hgt:g≠tb:=fun e=>hF ((h7 _).2 (.inr (.inr (.inr e))));refine (zkd w lb cb c tb s.1 s.2 _ _ g i e cs n h1 h2 h3 h4 h5.1 h5.2.1 h6 hg hi hgl hgc).mono ?_;rintro en w' ⟨rfl,a1,a2,a3,a4⟩;refine ⟨rfl,F,⟨a1,h2.fr a4 ?_,a2,h4.fr a4 ?_,h5,Nat.le_trans (zcc s).1 h6,h7⟩,a3,a4.mono fun x _ h=>?_,fun b h=>.inl h⟩
  · rintro (h | h | h)
    · exact h5.2.2.1 h
    · exact h5.2.1 h
    exact hgb h.symm
  · rintro (h | h | h)
    · exact h5.2.2.2.1 h
    · exact h5.2.2.2.2 h
    exact hgt h.symm
  rcases h with h | h | h
  · exact .inl ((h7 x).2 (.inr (.inl h)))
  · exact .inl ((h7 x).2 (.inl h))
  exact .inr h
 txt:=fun w s F g e cs i t hA hg hi hF _=>by
  obtain ⟨h1,h2,h3,h4,h5,h6,h7⟩:=hA;have hgl:g≠lb:=fun e=>hF ((h7 _).2 (.inr (.inl e)));have hgc:g≠c:=fun e=>hF ((h7 _).2 (.inl e));have hgb:g≠cb:=fun e=>hF ((h7 _).2 (.inr (.inr (.inl e))));have hgt:g≠tb:=fun e=>hF ((h7 _).2 (.inr (.inr (.inr e))));refine (zqs w lb cb c tb s.1 s.2 _ g i e cs t h1 h2 h3 h4 h5.1 h5.2.1 h5.2.2.1 h5.2.2.2.1 h5.2.2.2.2 h6 hg hi hgl hgc).mono ?_;rintro en w' ⟨rfl,a1,a2,a3,a4⟩;refine ⟨rfl,F,⟨a1,h2.fr a4 ?_,a2,h4.fr a4 ?_,h5,Nat.le_trans (znb s).1 h6,h7⟩,a3,a4.mono fun x _ h=>?_,fun b h=>.inl h⟩
  · rintro (h | h | h)
    · exact h5.2.2.1 h
    · exact h5.2.1 h
    exact hgb h.symm
  · rintro (h | h | h)
    · exact h5.2.2.2.1 h
    · exact h5.2.2.2.2 h
    exact hgt h.symm
  rcases h with h | h | h
  · exact .inl ((h7 x).2 (.inr (.inl h)))
  · exact .inl ((h7 x).2 (.inl h))
  exact .inr h
theorem SInv.put2 {M M':Int} {S:St} (h:SInv M S) (hM0:0<=M) (x:Kv) (hM:M<=M') (hx:x.mod<=M') (h1:1<=x.mod) (hlast:(getT S.T x.key).2=true->∀ H,S.past (getT S.T x.key).1=some H->H.last<x.mod) :
 SInv M' (putS S x)/\∀ k r,livesS (putS S x) k r=if keq x.key k=true/\x.mod<=r then (x,true) else livesS S k r:=by
 obtain ⟨a,b,c,d⟩:=h.made hM0 x.key;obtain ⟨H,f⟩:=a.has _ b;rw [c] at f
 have n:H.last<x.mod:=by
  unfold madeS idS at f
  cases hg:(getT S.T x.key).2 with
  | true=>rw [hg,if_pos rfl,if_pos rfl] at f;exact hlast hg H f
  | false =>
    simp only [hg,Bool.false_eq_true,if_false,if_true] at f;obtain rfl:=Option.some.inj f
    show (0:Int)<x.mod
    omega
 have g:=(a.hist _ _ f);unfold putS;rw [f];generalize madeS S x.key=m at *;generalize idS S x.key=id at *;dsimp only [Option.getD_some];refine ⟨⟨a.inj,fun k hk=>?_,fun i G hG=>?_⟩,fun k r=>?_⟩
 · dsimp only at hk ⊢
   split
   · exact ⟨_,rfl⟩
   exact a.has k hk
 · dsimp only at hG ⊢
   split at hG
   · rename_i e
     obtain rfl:=Option.some.inj hG;exact ⟨⟨g.1.1.put x n h1,hx⟩,by rw [e];exact g.2⟩
   have:=a.hist i G hG
   exact ⟨⟨this.1.1,by omega⟩,this.2⟩
 rw [<-d k r]
 unfold livesS;dsimp only
 cases hk:(getT m.T k).2 with
 | false =>
   have l:¬ (keq x.key k=true/\x.mod<=r):=by
    rintro ⟨e,_⟩;rw [zas.1 e,hk] at b;cases b
   simp only [Bool.false_eq_true,if_false,l]
 | true =>
   simp only [if_true];by_cases e:keq x.key k=true
   · obtain rfl:=zas.1 e
     rw [c,if_pos rfl,f];dsimp only;rw [ztk g.1.1 x n h1 r];by_cases hr:r<x.mod
     · rw [if_pos hr,if_neg (by omega)]
     rw [if_neg hr,if_pos ⟨e,by omega⟩]
   have j:(getT m.T k).1≠id:=fun e'=>e (zas.2 (a.inj x.key k b hk (c.trans e'.symm)))
   rw [if_neg j,if_neg fun h=>e h.1]
theorem SInv.more {M M':Int} {S:St} (h:SInv M S) (hM:M<=M'):SInv M' S:=⟨h.inj,h.has,fun i H hi=>⟨⟨(h.hist i H hi).1.1,by have:=(h.hist i H hi).1.2;omega⟩,(h.hist i H hi).2⟩⟩
def putE (x:Kv):Ev:=⟨1,x,kv0⟩
theorem zlc (S:St) (x:Kv):doneS S (putE x)=putS S x:=if_pos rfl
theorem zuf (S:St) (x:Kv):(putS S x).rev=S.rev/\(putS S x).mark=S.mark/\(putS S x).events=S.events:=by
 rw [<-zlc];exact ⟨zrr S (putE x),zmo S (putE x),zeb S (putE x)⟩
theorem putS_T (S:St) (x:Kv):(putS S x).T=if (getT S.T x.key).2 then S.T else insT S.T x.key S.next:=by
 unfold putS madeS;dsimp only
 split <;> rfl
theorem zwm {n:Nat} {M:Int} {S:St} (h:SMore n S) (hI:SInv M S) (hM0:0<=M) (x:Kv) (h1:1<=x.mod) (hlast:(getT S.T x.key).2=true->∀ H,S.past (getT S.T x.key).1=some H->H.last<x.mod):SMore (n+1) (putS S x):=by
 have:=SMore.doS h hI hM0 (putE x) h1 hlast fun e=>absurd rfl e;intro i H a;refine this i H ?_
 show (doneS S (putE x)).past i=some H
 rw [zlc];exact a
def emptyS (D:Doc):St:=⟨[],fun _=>none,0,D.rev,D.mark,[]⟩
def begS (D:Doc) (i:Nat):St:=(D.kvs.take i).foldl putS (emptyS D)
theorem zqf (D:Doc) {i:Nat} {y:Kv} (h:D.kvs[i]?=some y):begS D (i+1)=putS (begS D i) y:=by
 unfold begS;rw [List.take_add_one,h,List.foldl_append]
 rfl
structure BegI (D:Doc) (i:Nat) (S:St):Prop where
 keys:∀ k,(getT S.T k).2=true->∃ y∈D.kvs.take i,y.key=k
 inv:SInv D.mark S
 lives:∀ key r,D.mark<=r->livesS S key r=seen (hasL (D.kvs.take i) key)
 ok:StOk i S
 size:S.T.length<=i
 srt:Sorted S.T
 more:SMore i S
 events:S.events = []
 mark:S.mark=D.mark
 rev:S.rev=D.rev
theorem BegI.zero (D:Doc) (hm0:0<=D.mark) (hr0 : -top<=D.rev) (hr1:D.rev<=top):BegI D 0 (emptyS D) where
 keys:=fun k h=>by simp [emptyS,getT] at h
 inv:=⟨fun k _ h=>by simp [emptyS,getT] at h,fun k h=>by simp [emptyS,getT] at h,fun i H h=>by simp [emptyS] at h⟩
 lives:=fun k r _=>rfl
 ok:={
  pos:=Int.le_refl 0
  next:=Int.le_refl 0
  id:=fun p hp=>by simp [emptyS] at hp
  ids:=fun i H h=>by simp [emptyS] at h
  hist:=fun i H h=>by simp [emptyS] at h
  rev0:=hr0
  rev1:=hr1
  mark0:=hm0
  ev:=Nat.le_refl 0 }
 size:=Nat.le_refl 0
 srt:=List.Pairwise.nil
 more:=fun i H h=>by simp [emptyS] at h
 events:=rfl
 mark:=rfl
 rev:=rfl
theorem kvs_up {D:Doc} {i:Nat} {y:Kv} (hy:D.kvs[i]?=some y) (hall:∀ j k,j<=i->D.kvs[j]?=some k->KvOk D j k):KSorted (D.kvs.take (i+1))/\∀ z∈D.kvs.take i,klt z.key y.key=true:=by
 have b:KSorted (D.kvs.take (i+1)):=zhl fun j k k' hj h1 h2=>by
  have a:=(List.getElem?_eq_some_iff.1 h1).1;rw [List.length_take] at a;rw [List.getElem?_take_of_lt (by omega)] at h1 h2;exact (hall j k (by omega) h1).up k' hj h2
 refine ⟨b,fun z hz=>?_⟩;rw [List.take_add_one,hy] at b;exact (List.pairwise_append.1 b).2.2 z hz y (by simp)
theorem BegI.step {D:Doc} {i:Nat} {S:St} (h:BegI D i S) (hm0:0<=D.mark) (hmt:D.mark<=top) {y:Kv} (hy:D.kvs[i]?=some y) (hall:∀ j k,j<=i->D.kvs[j]?=some k->KvOk D j k):(getT S.T y.key).2=false/\BegI D (i+1) (putS S y):=by
 obtain ⟨v,m⟩:=kvs_up hy hall;have l:=(zez.1 (hall i y (Nat.le_refl _) hy).may);have o:=l.ver
 have c:(getT S.T y.key).2=false:=by
  rw [Bool.eq_false_iff];intro e;obtain ⟨z,n,f⟩:=h.keys _ e;have:=m z n;rw [f,zbk] at this;cases this
 have d:(getT S.T y.key).2=true->∀ H,S.past (getT S.T y.key).1=some H->H.last<y.mod:=fun e=>by rw [c] at e;cases e
 obtain ⟨a,b⟩:=h.inv.put2 hm0 y (Int.le_refl _) o.2.1 o.2.2 d;obtain ⟨s,t,u⟩:=zuf S y;refine ⟨c,{ keys:=fun k hk=>?_,inv:=a,lives:=fun key r hr=>?_,ok:=zwl h.ok y o.2.2 (by omega),size:=?_,srt:=?_,more:=zwm h.more h.inv hm0 y o.2.2 d,events:=u.trans h.events,mark:=t.trans h.mark,rev:=s.trans h.rev }⟩
 · rw [putS_T,if_neg (by rw [c];decide),zcu] at hk
   by_cases e:keq y.key k=true
   · exact ⟨y,by rw [List.take_add_one,hy];simp,zas.1 e⟩
   rw [if_neg e] at hk
   obtain ⟨z,n,f⟩:=h.keys k hk;exact ⟨z,by rw [List.take_add_one];exact List.mem_append_left _ n,f⟩
 · rw [b,h.lives key r hr]
   have g:hasL (D.kvs.take (i+1)) key=(hasL (D.kvs.take i) key).or (hasL [y] key):=by
    unfold hasL;rw [List.take_add_one,hy,Option.toList_some,List.find?_append]
   rw [g];by_cases e:keq y.key key=true
   · rw [if_pos ⟨e,by omega⟩]
     have p:hasL (D.kvs.take i) key=none:=by
      unfold hasL;rw [List.find?_eq_none];intro z n f;have:=m z n;rw [zas.1 f,zas.1 e,zbk] at this;cases this
     rw [p];unfold hasL;rw [List.find?_cons,e]
     rfl
   rw [if_neg fun q=>e q.1]
   have:hasL [y] key=none:=by
    unfold hasL;rw [List.find?_cons];simp [e]
   rw [this,Option.or_none]
 · rw [putS_T,if_neg (by rw [c];decide)]
   have:=zks S.T y.key S.next;have:=h.size;omega
 rw [<-zlc]
 exact zik h.srt (putE y)
def preD (D:Doc) (i:Nat):Doc:=⟨max D.mark (revAt D i),D.mark,D.kvs,D.events.take i⟩
structure EvI (D:Doc) (i:Nat) (S:St):Prop where
 cpl:Cpl S (preD D i)
 ok:StOk (D.kvs.length+i) S
 size:S.T.length<=D.kvs.length+i
 srt:Sorted S.T
 more:SMore (D.kvs.length+i) S
 rev:S.rev=D.rev
 last:∀ k,(getT S.T k).2=true->∀ H,S.past (getT S.T k).1=some H->H.last<=D.mark\/∃ j e,j<i/\D.events[j]?=some e/\e.kv.key=k/\H.last<=e.kv.mod
 keys:∀ k,(getT S.T k).2=true->(∃ y∈D.kvs,y.key=k)\/∃ j e,j<i/\D.events[j]?=some e/\e.kind=1/\D.mark<e.kv.mod/\e.kv.key=k
theorem BegI.start {D:Doc} {S:St} (h:BegI D D.kvs.length S) (hm0:0<=D.mark) (hs:KSorted D.kvs):EvI D 0 S where
 cpl:={
  mark:=h.mark
  events:=by rw [h.events];rfl
  inv:=h.inv.more (by show D.mark<=max D.mark (revAt D 0);omega)
  ks:=hs
  m0:=⟨hm0,by show D.mark<=max D.mark (revAt D 0);omega⟩
  lives:=fun key r hr=>by
   rw [h.lives key r hr,List.take_length]
   rfl }
 ok:=h.ok
 size:=h.size
 srt:=h.srt
 more:=h.more
 rev:=h.rev
 last:=fun k _ H hH=>.inl (h.inv.hist _ _ hH).1.2
 keys:=fun k hk=>by
  obtain ⟨y,hy,e⟩:=h.keys k hk;exact .inl ⟨y,List.mem_of_mem_take hy,e⟩
theorem zni {D:Doc}:∀ {i:Nat},i<=D.events.length->(∀ j x,j<i->D.events[j]?=some x->EvOk D j x)->∀ j e,j<i->D.events[j]?=some e->e.kv.mod<=revAt D i:=by
 intro i
 induction i with
 | zero=>intro _ _ j e c;omega
 | succ i ih =>
   intro k a j e c d;obtain ⟨x,b⟩:∃ x,D.events[i]?=some x:=⟨_,List.getElem?_eq_getElem (by omega)⟩;rw [zdm b];rcases Nat.lt_or_eq_of_le (Nat.le_of_lt_succ c) with h | h
   · have f:=ih (by omega) (fun j x c=>a j x (by omega)) j e h d
     have g:=(a i x (by omega) b).ge;omega
   subst h
   rw [d] at b;obtain rfl:=Option.some.inj b;exact Int.le_refl _
theorem pre_at {D:Doc} {i:Nat} (hi:i<=D.events.length) (hall:∀ j x,j<i->D.events[j]?=some x->EvOk D j x) {r:Int} (hr:max D.mark (revAt D i)<=r):(preD D i).at r=foldTo D i:=by
 rw [Doc.at_all (D:=preD D i) (fun e he=>?_) hr]
 · rfl
 obtain ⟨j,d⟩:=List.mem_iff_getElem?.1 he
 have c:=(List.getElem?_eq_some_iff.1 d).1;have b:j<(D.events.take i).length:=c;rw [List.length_take] at b;have a:(D.events.take i)[j]?=some e:=d;rw [List.getElem?_take_of_lt (by omega)] at a;have:=zni hi hall j e (by omega) a
 show e.kv.mod<=max D.mark (revAt D i)
 omega
theorem EvI.lives {D:Doc} {i:Nat} {S:St} (h:EvI D i S) (hi:i<=D.events.length) (hall:∀ j x,j<i->D.events[j]?=some x->EvOk D j x) (key:ByteArray) {r:Int} (hr:max D.mark (revAt D i)<=r):livesS S key r=seen (hasL (foldTo D i) key):=by
 rw [h.cpl.lives key r (by show D.mark<=r;omega),pre_at hi hall hr]
theorem EvI.marked {D:Doc} {i:Nat} {S:St} (h:EvI D i S) {x:Ev} (hx:D.events[i]?=some x) (hok:EvOk D i x) (hm:x.kv.mod=D.mark):EvI D (i+1) { S with events:=S.events++[x] }:=by
 have m:=hok.ge;have g:=zdm hx;have n:=h.cpl.m0.1
 have c:preD D (i+1) = { preD D i with events:=D.events.take i++[x] }:=by
  unfold preD;rw [List.take_add_one,hx,g];dsimp only;rw [show max D.mark x.kv.mod=max D.mark (revAt D i) by omega]
  rfl
 have f:∀ r,(preD D (i+1)).at r=(preD D i).at r:=fun r=>by
  rw [c]
  unfold Doc.at;dsimp only;rw [List.filter_append]
  have:([x]:List Ev).filter (fun e=>decide ((preD D i).mark<e.kv.mod)&&decide (e.kv.mod<=r)) = []:=by
   have l:¬ (preD D i).mark<x.kv.mod:=(by show ¬ D.mark<x.kv.mod;omega);simp [l]
  rw [this,List.append_nil]
  rfl
 have d:(preD D (i+1)).rev=(preD D i).rev:=by rw [c]
 exact {
  cpl:={
   mark:=h.cpl.mark
   events:=by
    show S.events++[x]=_
    rw [h.cpl.events,c]
    rfl
   inv:=by
    rw [d];exact ⟨h.cpl.inv.inj,h.cpl.inv.has,h.cpl.inv.hist⟩
   ks:=h.cpl.ks
   m0:=by rw [d];exact h.cpl.m0
   lives:=fun key r g=>by
    rw [f];exact h.cpl.lives key r g }
  ok:={
   pos:=h.ok.pos
   next:=by have:=h.ok.next;show S.next<=_;omega
   id:=h.ok.id
   ids:=h.ok.ids
   hist:=fun j H hj=>⟨(h.ok.hist j H hj).1.mono (by omega),(h.ok.hist j H hj).2⟩
   rev0:=h.ok.rev0
   rev1:=h.ok.rev1
   mark0:=h.ok.mark0
   ev:=by have:=h.ok.ev;show (S.events++[x]).length<=_;rw [List.length_append];simp only [List.length_singleton];omega }
  size:=by have:=h.size;show S.T.length<=_;omega
  srt:=h.srt
  more:=fun j H hj=>(h.more j H hj).mono (by omega)
  rev:=h.rev
  last:=fun k hk H hH=>(h.last k hk H hH).imp id fun ⟨j,e,a,b⟩=>⟨j,e,by omega,b⟩
  keys:=fun k hk=>(h.keys k hk).imp id fun ⟨j,e,a,b⟩=>⟨j,e,by omega,b⟩ }
theorem zgh {x:Ev} {was:Kv} {rev:Int} (h:madeB x was rev=true):(x.kind=1\/x.kind=2)/\keyE x.kv.key=0/\x.kv.mod=rev/\x.prev=was/\(x.kind=2->0<was.version):=by
 unfold madeB at h
 split at h
 · cases h
 rename_i hn
 simp only [not_or,Decidable.not_not,Bool.not_eq_false] at hn;obtain ⟨a,b,c⟩:=hn
 split at h
 · rename_i hk
   simp only [Bool.and_eq_true,decide_eq_true_eq] at h;exact ⟨.inr hk,a,b,zfs.1 c,fun _=>h.1⟩
 rename_i hk
 simp only [Bool.and_eq_true,beq_iff_eq] at h;exact ⟨.inl h.1,a,b,zfs.1 c,fun e=>absurd e hk⟩
theorem EvI.fits {D:Doc} {i:Nat} {S:St} (h:EvI D i S) (hil:i<=D.events.length) (hall:∀ j x,j<i->D.events[j]?=some x->EvOk D j x) {x:Ev} (hok:EvOk D i x) (hm:D.mark<x.kv.mod) :
 ((getT S.T x.kv.key).2=true->∀ H,S.past (getT S.T x.kv.key).1=some H->H.last<x.kv.mod) ∧
   (x.kind≠1->(getT S.T x.kv.key).2=true/\∀ H,S.past (getT S.T x.kv.key).1=some H->isOpen H.gens=true):=by
 have p:=hok.ge
 have l:(getT S.T x.kv.key).2=true->∀ H,S.past (getT S.T x.kv.key).1=some H->H.last<x.kv.mod:=fun hk H hH=>by
  rcases h.last _ hk H hH with c | ⟨j,e,c,k,n,u⟩
  · omega
  have v:=zni hil hall j e c k
  rcases Int.lt_or_le e.kv.mod x.kv.mod with o | o
  · omega
  have:=hok.one j e c k (by omega)
  rw [n,zas.2 rfl] at this;cases this
 refine ⟨l,fun hk=>?_⟩;have b:=zgh (hok.md (by omega));have f:x.kind=2:=b.1.resolve_left hk;have m:=b.2.2.2.2 f;have t:max D.mark (revAt D i)<=x.kv.mod:=by omega
 have q:=h.lives hil hall x.kv.key t
 have a:(livesS S x.kv.key x.kv.mod).2=true:=by
  rw [q]
  cases hh:hasL (foldTo D i) x.kv.key with
  | none =>
    rw [hh] at m;have g:(0:Int)<kv0.version:=m;exact absurd g (by decide)
  | some y=>rfl
 have d:(getT S.T x.kv.key).2=true:=by
  cases hg:(getT S.T x.kv.key).2 with
  | true=>rfl
  | false =>
    unfold livesS at a;rw [hg,if_neg (by decide)] at a;cases a
 refine ⟨d,fun H hH=>?_⟩;have s:=l d H hH;rw [<-h.cpl.inv.open_lives d hH (r:=x.kv.mod) (by omega)];exact a
theorem EvI.does {D:Doc} {i:Nat} {S:St} (h:EvI D i S) (hil:i<=D.events.length) (hall:∀ j x,j<i->D.events[j]?=some x->EvOk D j x) {x:Ev} (hx:D.events[i]?=some x) (hok:EvOk D i x) (hm:D.mark<x.kv.mod) (ht:x.kv.mod<=top) :
 EvI D (i+1) (doS S x):=by
 obtain ⟨f,g⟩:=h.fits hil hall hok hm;have C:=hok.ge;have t:=h.cpl.m0.1;have l:0<=D.mark:=t;have q:1<=x.kv.mod:=by omega
 have w:=zdm hx;have u:(preD D i).rev<=x.kv.mod:=by show max D.mark (revAt D i)<=x.kv.mod;omega
 have d:0<=(preD D i).rev:=by show 0<=max D.mark (revAt D i);omega
 have p:preD D (i+1)=(preD D i).add x:=by
  unfold preD Doc.add;rw [List.take_add_one,hx,w];dsimp only;rw [show max D.mark x.kv.mod=x.kv.mod by omega]
  rfl
 have r:=h.cpl.does x u q hm f g;rw [<-p] at r;refine { cpl:=r,ok:=doS_ok h.ok x q ht,size:=?_,srt:=zik h.srt x,more:=SMore.doS h.more h.cpl.inv d x q f g,rev:=(zrr S x).trans h.rev,last:=fun k hk H hH=>?_,keys:=fun k hk=>?_ }
 · have:=zxu S x
   have:=h.size;have n:(if x.kind=1 then 1 else 0)<=1:=(by split <;> omega);omega
 · by_cases hkx:k=x.kv.key
   · refine .inr ⟨i,x,by omega,hx,hkx.symm,?_⟩
     have:=(r.inv.hist _ _ hH).1.2;have n:H.last<=max D.mark (revAt D (i+1)):=this;rw [w] at n;omega
   -- what the key had ahead
   by_cases o:(getT S.T k).2=true
   · obtain ⟨y,m⟩:=h.cpl.inv.has k o
     rcases h.last k o y m with n | ⟨j,e,n,v,z,A⟩
     · have:=zjj h.cpl.inv d x (B:=D.mark) l hk hH fun _ H' hH'=>.inl (by rw [m] at hH';obtain rfl:=Option.some.inj hH';exact n)
       exact .inl (this.resolve_right hkx)
     have s:0<=e.kv.mod:=by have:=(hall j e n v).lo;omega
     have:=zjj h.cpl.inv d x (B:=e.kv.mod) s hk hH fun _ H' hH'=>.inl (by rw [m] at hH';obtain rfl:=Option.some.inj hH';exact A);exact .inr ⟨j,e,by omega,v,z,this.resolve_right hkx⟩
   have:=zjj h.cpl.inv d x (B:=D.mark) l hk hH fun e=>absurd e o
   exact .inl (this.resolve_right hkx)
 by_cases hk1:x.kind=1
 · by_cases hkx:k=x.kv.key
   · exact .inr ⟨i,x,by omega,hx,hk1,hm,hkx.symm⟩
   have c:(getT (doneS S x).T k).2=true:=hk
   unfold doneS at c;rw [if_pos hk1,putS_T] at c
   have o:(getT S.T k).2=true:=by
    split at c
    · exact c
    rw [zcu,if_neg (by rw [zas];exact fun e=>hkx e.symm)] at c
    exact c
   exact (h.keys k o).imp id fun ⟨j,e,a,b⟩=>⟨j,e,by omega,b⟩
 have c:(getT (doS S x).T k).2=true:=hk
 rw [doS_T2 S x hk1] at c;exact (h.keys k c).imp id fun ⟨j,e,a,b⟩=>⟨j,e,by omega,b⟩
structure MadeOk (D:Doc) (S:St):Prop where
 cpl:Cpl S D
 ok:StOk (D.kvs.length+D.events.length) S
 size:S.T.length<=D.kvs.length+D.events.length
 srt:Sorted S.T
 more:SMore (D.kvs.length+D.events.length) S
 rev:S.rev=D.rev
 keys:∀ k,(getT S.T k).2=true->(∃ y∈D.kvs,y.key=k)\/∃ e∈D.events,e.kind=1/\D.mark<e.kv.mod/\e.kv.key=k
theorem EvI.all {D:Doc} {S:St} (h:EvI D D.events.length S) (hl:revAt D D.events.length=D.rev) (hm:D.mark<=D.rev):MadeOk D S:=by
 have c:preD D D.events.length=D:=by
  unfold preD;rw [List.take_length,hl,show max D.mark D.rev=D.rev by omega]
 exact ⟨c▸h.cpl,h.ok,h.size,h.srt,h.more,h.rev,fun k hk=>(h.keys k hk).imp id fun ⟨j,e,_,a,b⟩=>⟨e,List.mem_of_getElem? a,b⟩⟩
def lastAt (D:Doc) (i:Nat) (k:ByteArray):Option Int:=((D.events.take i).reverse.find? fun e=>keq e.kv.key k).map fun e=>e.kv.mod
theorem zqz (D:Doc) (k:ByteArray):lastAt D 0 k=none:=rfl
theorem zkm (D:Doc) {i:Nat} {x:Ev} (hx:D.events[i]?=some x) (k:ByteArray):lastAt D (i+1) k=if keq x.kv.key k=true then some x.kv.mod else lastAt D i k:=by
 unfold lastAt;rw [List.take_add_one,hx,Option.toList_some,List.reverse_append,List.reverse_singleton,List.singleton_append,List.find?_cons];cases h:keq x.kv.key k <;> simp
theorem zun {D:Doc}:∀ {i:Nat},i<=D.events.length->(∀ j x,j<i->D.events[j]?=some x->EvOk D j x)->∀ (k:ByteArray) (r:Int),revAt D i<=r->1<=r →
 (((lastAt D i k).getD 0=r) ↔ ∃ j y,j<i/\D.events[j]?=some y/\y.kv.mod=r/\keq y.kv.key k=true):=by
 intro i
 induction i with
 | zero =>
   intro _ _ k r _ m;rw [zqz];exact ⟨fun h=>by have q:(0:Int)=r:=h;omega,fun ⟨j,_,h,_⟩=>by omega⟩
 | succ i ih =>
   intro p f k r m n;obtain ⟨x,l⟩:∃ x,D.events[i]?=some x:=⟨_,List.getElem?_eq_getElem (by omega)⟩;have g:=zni p f;have o:=(f i x (by omega) l).ge;rw [zdm l] at m g;rw [zkm D l];by_cases hk:keq x.kv.key k=true
   · rw [if_pos hk]
     refine ⟨fun h=>⟨i,x,by omega,l,h,hk⟩,fun ⟨j,y,a,b,c,d⟩=>?_⟩;have:=g j y a b
     show x.kv.mod=r
     omega
   rw [if_neg hk,ih (by omega) (fun j x hj=>f j x (by omega)) k r (by omega) n]
   refine ⟨fun ⟨j,y,a,b⟩=>⟨j,y,by omega,b⟩,fun ⟨j,y,a,b,c,d⟩=>?_⟩;rcases Nat.lt_or_eq_of_le (Nat.le_of_lt_succ a) with e | e
   · exact ⟨j,y,e,b,c,d⟩
   subst e
   rw [l] at b;obtain rfl:=Option.some.inj b;exact absurd d hk
def sameE (x y:Ev):Bool:=(x.kind==y.kind)&&(sameB x.kv y.kv&&sameB x.prev y.prev)
def fromE (x:Ev) (was:Kv) (rev:Int):Ev :=
 if x.kind=2 then ⟨2,⟨x.kv.key,ByteArray.empty,0,rev,0,0⟩,was⟩
 else ⟨1,⟨x.kv.key,x.kv.value,if was.version=0 then rev else was.create,rev,wrap64 (was.version+1),x.kv.lease⟩,was⟩
def zfd (x:Ev) (was:Kv) (rev:Int):Bool :=
 if x.kind=2 then decide (0<was.version)&&sameE x (fromE x was rev)
 else if x.kind=1 then decide (x.kv.value.size<=1024)&&(decide (0<=x.kv.lease)&&sameE x (fromE x was rev))
 else false
theorem zkz {x:Ev} {was:Kv} {rev:Int} (hk:keyE x.kv.key=0) (hr:x.kv.mod=rev):zfd x was rev=madeB x was rev:=by
 rw [Bool.eq_iff_iff];unfold zfd madeB fromE;by_cases h2:x.kind=2
 · rw [if_pos h2,if_pos h2,if_pos h2]
   by_cases hp:sameB x.prev was=true
   · rw [if_neg (by rw [hk,hr,hp];simp)]
     obtain ⟨a,⟨b1,b2,f,g,i,j⟩,c⟩:=x;dsimp only at *;subst h2;simp only [Bool.and_eq_true,decide_eq_true_eq,sameE,beq_self_eq_true,true_and,hp,and_true]
   rw [if_pos (.inr (.inr (by simpa using hp)))]
   simp only [Bool.and_eq_true,decide_eq_true_eq,sameE,Bool.false_eq_true,iff_false,not_and];exact fun _ _ _=>hp
 rw [if_neg h2,if_neg h2,if_neg h2]
 by_cases h1:x.kind=1
 · rw [if_pos h1]
   by_cases hp:sameB x.prev was=true
   · rw [if_neg (show ¬ (keyE x.kv.key≠0\/x.kv.mod≠rev\/sameB x.prev was=false) from by rw [hk,hr,hp];simp)]
     obtain ⟨a,⟨b1,b2,f,g,i,j⟩,c⟩:=x;dsimp only at *;subst h1 hr;simp only [Bool.and_eq_true,decide_eq_true_eq,sameE,sameB,beq_iff_eq,zjk,true_and,and_true];have b:=zfs.1 hp;subst b;simp only [and_true]
     constructor
     · rintro ⟨p,q,⟨d,e⟩,k⟩
       exact ⟨d,e,p,q⟩
     rintro ⟨d,e,p,q⟩
     exact ⟨p,q,⟨d,e⟩,⟨zjk _,zjk _⟩⟩
   rw [if_pos (show (keyE x.kv.key≠0\/x.kv.mod≠rev\/sameB x.prev was=false) from .inr (.inr (by simpa using hp)))]
   simp only [Bool.and_eq_true,decide_eq_true_eq,sameE,Bool.false_eq_true,iff_false,not_and];exact fun _ _ _ _=>hp
 rw [if_neg h1]
 constructor
 · intro h
   cases h
 intro h;by_cases hc:(keyE x.kv.key≠0\/x.kv.mod≠rev\/sameB x.prev was=false)
 · rw [if_pos hc] at h
   cases h
 rw [if_neg hc] at h
 simp only [Bool.and_eq_true,beq_iff_eq] at h;exact absurd h.1 h1
def marksB (x:Ev) (was:Kv×Bool) (rev:Int):Bool :=
 !((!sameB x.prev kv0&&(!keq x.prev.key x.kv.key || !mayB x.prev (rev-1)))||(!zfd x x.prev rev||((x.kind==1) != was.2||(was.2 && !sameB was.1 x.kv))))
theorem zur:keyE ByteArray.empty≠0:=by
 rw [show keyE ByteArray.empty=30 from by kernel_rfl]
 decide
theorem zpm {D:Doc} (hall:∀ j k,D.kvs[j]?=some k->KvOk D j k) {x:Ev} (hk:keyE x.kv.key=0) (hm:x.kv.mod=D.mark):marksB x (seen (hasL D.kvs x.kv.key)) D.mark=zih x D.kvs D.mark:=by
 unfold marksB zih;rw [zkz hk hm];by_cases h1:(sameB x.prev kv0=false/\(keq x.prev.key x.kv.key=false\/mayB x.prev (D.mark-1)=false))
 · rw [if_pos (.inl h1)]
   have:(!sameB x.prev kv0&&(!keq x.prev.key x.kv.key || !mayB x.prev (D.mark-1)))=true:=by
    rw [h1.1];rcases h1.2 with h | h <;> rw [h] <;> simp
   rw [this]
   rfl
 have c:(!sameB x.prev kv0&&(!keq x.prev.key x.kv.key || !mayB x.prev (D.mark-1)))=false:=by
  rw [Bool.eq_false_iff];intro h;simp only [Bool.and_eq_true,Bool.or_eq_true,Bool.not_eq_true'] at h;exact h1 h
 rw [c,Bool.false_or]
 cases h2:madeB x x.prev D.mark with
 | false=>rw [if_pos (.inr rfl)];rfl
 | true =>
   rw [if_neg (show ¬ ((sameB x.prev kv0=false/\(keq x.prev.key x.kv.key=false\/mayB x.prev (D.mark-1)=false))\/true=false) from by
    rintro (h | h)
    · exact h1 h
    cases h)]
   have b:=(zgh h2).1
   cases hh:hasL D.kvs x.kv.key with
   | none =>
     by_cases hk1:x.kind=1
     · rw [if_pos hk1]
       have d:sameB kv0 x.kv=false:=by
        rw [Bool.eq_false_iff];intro e;have f:=zfs.1 e;rw [<-f] at hk;exact zur hk
       show _=sameB kv0 x.kv
       rw [d,hk1]
       rfl
     have a:=b.resolve_left hk1
     rw [if_neg hk1,a]
     rfl
   | some y =>
     obtain ⟨j,g⟩:=List.mem_iff_getElem?.1 (List.mem_of_find?_eq_some hh);have i:=(zez.1 (hall j y g).may).ver;by_cases hk1:x.kind=1
     · rw [if_pos hk1,hk1]
       show (!(!true||(((1:Int)==1) != true||(true && !sameB y x.kv))))=sameB y x.kv
       cases sameB y x.kv <;> rfl
     have a:=b.resolve_left hk1
     rw [if_neg hk1,a]
     show _=(y.version==0)
     have:(y.version==0)=false:=beq_eq_false_iff_ne.2 (by omega);rw [this]
     rfl
def mayPB (x:Kv) (rev:Int):Bool :=
 (keyE x.key==0)&&(decide (x.value.size<=1024)&&(decide (1<=x.create)&&(decide (x.create<=x.mod)&&(decide (x.mod<=rev)&&(decide (1<=x.version)&&(decide (x.version-1<=x.mod-x.create)&&(((x.version==1)==(x.mod==x.create))&&decide (0<=x.lease))))))))
theorem ztb (x:Kv) (rev:Int):mayPB x rev=mayB x rev:=by
 rw [Bool.eq_iff_iff,zez];unfold mayPB MayP;simp only [Bool.and_eq_true,beq_iff_eq,decide_eq_true_eq]
 constructor
 · rintro ⟨a,b,c,d,e,f,g,h,i⟩
   refine ⟨a,b,i,c,d,e,fun hm=>?_,fun hm=>?_⟩
   · rw [beq_iff_eq.2 hm] at h
     simpa using h
   rw [beq_eq_false_iff_ne.2 hm] at h
   have:x.version≠1:=(by simpa using h);omega
 rintro ⟨a,b,i,c,d,e,j,k⟩
 by_cases hm:x.mod=x.create
 · have:=j hm
   refine ⟨a,b,c,d,e,by omega,by omega,?_,i⟩;rw [this,beq_iff_eq.2 hm]
   rfl
 have:=k hm
 refine ⟨a,b,c,d,e,by omega,by omega,?_,i⟩;rw [beq_eq_false_iff_ne.2 hm,beq_eq_false_iff_ne.2 (show x.version≠1 by omega)]
structure DocN64 (D:Doc):Prop where
 kvs:∀ k∈D.kvs,k.mod<=9223372036854775807/\k.version<=9223372036854775807
 evs:∀ x∈D.events,-9223372036854775808<=x.kv.mod/\x.kv.mod<=9223372036854775807/\x.prev.mod<=9223372036854775807/\x.prev.version<=9223372036854775807
 keys:∀ k∈D.kvs,k.key.size<=1099511627776
 keye:∀ x∈D.events,x.kv.key.size<=1099511627776/\x.prev.key.size<=1099511627776
 len:D.kvs.length+D.events.length<1000000
def MadeR (TA:zao) (D:Doc) (w:World) (e:Ending) (w':World):Prop :=
 (zbg D/\∃ s S F,e=.returned (.tuple #[.pointer (some ⟨s,0,none⟩),.int .i64 0])/\zaj TA w' s S F/\MadeOk D S/\(∀ b,F b->w.heap.size<=b)/\Fr No w w')\/(¬ zbg D/\e=.returned (.tuple #[.pointer none,.int .i64 1])/\Fr No w w')
theorem MadeR.no {TA:zao} {D:Doc} {w w':World} (h:¬ zbg D) (hf:Fr No w w'):MadeR TA D w (.returned (.tuple #[.pointer none,.int .i64 1])) w':=.inr ⟨h,rfl,hf⟩
theorem MadeR.yes {TA:zao} {D:Doc} {w w':World} {s:Nat} {S:St} {F:Nat->Prop} (h:zbg D) (hs:zaj TA w' s S F) (hm:MadeOk D S) (hF:∀ b,F b->w.heap.size<=b) (hf:Fr No w w'):MadeR TA D w (.returned (.tuple #[.pointer (some ⟨s,0,none⟩),.int .i64 0])) w':=.inl ⟨h,s,S,F,rfl,hs,hm,hF,hf⟩
theorem MadeR.get {TA:zao} {D:Doc} {w:World} {e:Ending} {w':World} (h:MadeR TA D w e w') (hr:zbg D):∃ s S F,e=.returned (.tuple #[.pointer (some ⟨s,0,none⟩),.int .i64 0])/\zaj TA w' s S F/\MadeOk D S/\(∀ b,F b->w.heap.size<=b)/\Fr No w w':=h.elim (fun h=>h.2) (fun h=>absurd hr h.1)
theorem rbM {a b:Bool} (h:a=b):Ending.returned (.bool a)=.returned (.bool b):=by rw [h]
theorem zhh {a:Int} (h0 : -9223372036854775808<=a) (h1:a<=9223372036854775807):IntKind.i64.wrap a=a:=by
 simp [IntKind.wrap,IntKind.signed,IntKind.bits];omega
set_option maxHeartbeats 8000000 in
theorem zpl (w:World) (x:Kv) (hx:x.key.size<=1099511627776) (rev:Int) (hm:x.mod<=9223372036854775807) (hv:x.version<=9223372036854775807) :
 Calls Tryz.prog 63 #[kvV x,.int .i64 rev] w fun e w'=>e=.returned (.bool (mayPB x rev))/\Fr No w w':=by
 have n:=H_ (fun W=>zhz W x.key hx);clear hx;obtain ⟨l,k,c,d,f,j⟩:=x;have g:Hid (mayPB ⟨l,k,c,d,f,j⟩ rev=((keyE l==0)&&(decide (k.size<=1024)&&(decide (1<=c)&&(decide (c<=d)&&(decide (d<=rev)&&(decide (1<=f)&&(decide (f-1<=d-c)&&(((f==1)==(d==c))&&decide (0<=j)))))))))):=H_ rfl;dsimp only at n hm hv;unfold kvV;dsimp only;generalize F:keyE l=E at *;generalize mayPB ⟨l,k,c,d,f,j⟩ rev=m at *;clear F;by_cases h0:E=0
 · subst h0
   by_cases h1:(k.size:Int)<=1024
   · have D:decide ((k.size:Int)<=1024)=true:=decide_eq_true h1
     have o:decide (k.size<=1024)=true:=decide_eq_true (by omega);by_cases h2:1<=c
     · have u:decide (1<=c)=true:=decide_eq_true h2
       by_cases h3:c<=d
       · have v:decide (c<=d)=true:=decide_eq_true h3
         by_cases h4:d<=rev
         · have y:decide (d<=rev)=true:=decide_eq_true h4
           by_cases h5:1<=f
           · have z:decide (1<=f)=true:=decide_eq_true h5
             by_cases h6:f-1<=d-c
             · have A:decide (f-1<=d-c)=true:=decide_eq_true h6
               have J:IntKind.i64.wrap (f-1)=f-1:=zhh (by omega) (by omega);have K:IntKind.i64.wrap (d-c)=d-c:=zhh (by omega) (by omega);generalize H:(f==1)=L at *;generalize G:(d==c)=I at *;cases L <;> cases I
               · by_cases h8:0<=j
                 · have B:decide (0<=j)=true:=decide_eq_true h8
                   have i:Hid (true=m):=H_ (by rw [g.out];simp [o,u,v,y,z,A,B]);clear g;go_enter Tryz.func63,Tryz.ntmps63
                   go_wp2_with (go_at_call 65;refine (n.out _).mono ?_;rintro e w1 ⟨rfl,b⟩
                                have a:=b.heap (zad w (Obj.cells #[.string l,.string k,.int .i64 c,.int .i64 d,.int .i64 f,.int .i64 j] 99) _ rfl) id;have lb:=zab a;have p:=cellAt a 1 rfl;have q:=cellAt a 2 rfl;have r:=cellAt a 3 rfl;have s:=cellAt a 4 rfl;have t:=cellAt a 5 rfl;clear a)
                   go_ret;exact ⟨rbM (i.out),(((Fr.refl No w).alloc _).trans0 b)⟩
                 have B:decide (0<=j)=false:=decide_eq_false h8
                 have i:Hid (false=m):=H_ (by rw [g.out];simp [o,u,v,y,z,A,B]);clear g;go_enter Tryz.func63,Tryz.ntmps63
                 go_wp2_with (go_at_call 65;refine (n.out _).mono ?_;rintro e w1 ⟨rfl,b⟩
                              have a:=b.heap (zad w (Obj.cells #[.string l,.string k,.int .i64 c,.int .i64 d,.int .i64 f,.int .i64 j] 99) _ rfl) id;have lb:=zab a;have p:=cellAt a 1 rfl;have q:=cellAt a 2 rfl;have r:=cellAt a 3 rfl;have s:=cellAt a 4 rfl;have t:=cellAt a 5 rfl;clear a)
                 go_ret;exact ⟨rbM (i.out),(((Fr.refl No w).alloc _).trans0 b)⟩
               · skip
                 have i:Hid (false=m):=H_ (by rw [g.out];simp [o,u,v,y,z,A]);clear g;go_enter Tryz.func63,Tryz.ntmps63
                 go_wp2_with (go_at_call 65;refine (n.out _).mono ?_;rintro e w1 ⟨rfl,b⟩
                              have a:=b.heap (zad w (Obj.cells #[.string l,.string k,.int .i64 c,.int .i64 d,.int .i64 f,.int .i64 j] 99) _ rfl) id;have lb:=zab a;have p:=cellAt a 1 rfl;have q:=cellAt a 2 rfl;have r:=cellAt a 3 rfl;have s:=cellAt a 4 rfl;have t:=cellAt a 5 rfl;clear a)
                 go_ret;exact ⟨rbM (i.out),(((Fr.refl No w).alloc _).trans0 b)⟩
               · skip
                 have i:Hid (false=m):=H_ (by rw [g.out];simp [o,u,v,y,z,A]);clear g;go_enter Tryz.func63,Tryz.ntmps63
                 go_wp2_with (go_at_call 65;refine (n.out _).mono ?_;rintro e w1 ⟨rfl,b⟩
                              have a:=b.heap (zad w (Obj.cells #[.string l,.string k,.int .i64 c,.int .i64 d,.int .i64 f,.int .i64 j] 99) _ rfl) id;have lb:=zab a;have p:=cellAt a 1 rfl;have q:=cellAt a 2 rfl;have r:=cellAt a 3 rfl;have s:=cellAt a 4 rfl;have t:=cellAt a 5 rfl;clear a)
                 go_ret;exact ⟨rbM (i.out),(((Fr.refl No w).alloc _).trans0 b)⟩
               by_cases h8:0<=j
               · have B:decide (0<=j)=true:=decide_eq_true h8
                 have i:Hid (true=m):=H_ (by rw [g.out];simp [o,u,v,y,z,A,B]);clear g;go_enter Tryz.func63,Tryz.ntmps63
                 go_wp2_with (go_at_call 65;refine (n.out _).mono ?_;rintro e w1 ⟨rfl,b⟩
                              have a:=b.heap (zad w (Obj.cells #[.string l,.string k,.int .i64 c,.int .i64 d,.int .i64 f,.int .i64 j] 99) _ rfl) id;have lb:=zab a;have p:=cellAt a 1 rfl;have q:=cellAt a 2 rfl;have r:=cellAt a 3 rfl;have s:=cellAt a 4 rfl;have t:=cellAt a 5 rfl;clear a)
                 go_ret;exact ⟨rbM (i.out),(((Fr.refl No w).alloc _).trans0 b)⟩
               have B:decide (0<=j)=false:=decide_eq_false h8
               have i:Hid (false=m):=H_ (by rw [g.out];simp [o,u,v,y,z,A,B]);clear g;go_enter Tryz.func63,Tryz.ntmps63
               go_wp2_with (go_at_call 65;refine (n.out _).mono ?_;rintro e w1 ⟨rfl,b⟩
                            have a:=b.heap (zad w (Obj.cells #[.string l,.string k,.int .i64 c,.int .i64 d,.int .i64 f,.int .i64 j] 99) _ rfl) id;have lb:=zab a;have p:=cellAt a 1 rfl;have q:=cellAt a 2 rfl;have r:=cellAt a 3 rfl;have s:=cellAt a 4 rfl;have t:=cellAt a 5 rfl;clear a)
               go_ret;exact ⟨rbM (i.out),(((Fr.refl No w).alloc _).trans0 b)⟩
             have A:decide (f-1<=d-c)=false:=decide_eq_false h6
             have J:IntKind.i64.wrap (f-1)=f-1:=zhh (by omega) (by omega);have K:IntKind.i64.wrap (d-c)=d-c:=zhh (by omega) (by omega);have i:Hid (false=m):=H_ (by rw [g.out];simp [o,u,v,y,z,A]);clear g;go_enter Tryz.func63,Tryz.ntmps63
             go_wp2_with (go_at_call 65;refine (n.out _).mono ?_;rintro e w1 ⟨rfl,b⟩
                          have a:=b.heap (zad w (Obj.cells #[.string l,.string k,.int .i64 c,.int .i64 d,.int .i64 f,.int .i64 j] 99) _ rfl) id;have lb:=zab a;have p:=cellAt a 1 rfl;have q:=cellAt a 2 rfl;have r:=cellAt a 3 rfl;have s:=cellAt a 4 rfl;have t:=cellAt a 5 rfl;clear a)
             go_ret;exact ⟨rbM (i.out),(((Fr.refl No w).alloc _).trans0 b)⟩
           have z:decide (1<=f)=false:=decide_eq_false h5
           have i:Hid (false=m):=H_ (by rw [g.out];simp [o,u,v,y,z]);clear g;go_enter Tryz.func63,Tryz.ntmps63
           go_wp2_with (go_at_call 65;refine (n.out _).mono ?_;rintro e w1 ⟨rfl,b⟩
                        have a:=b.heap (zad w (Obj.cells #[.string l,.string k,.int .i64 c,.int .i64 d,.int .i64 f,.int .i64 j] 99) _ rfl) id;have lb:=zab a;have p:=cellAt a 1 rfl;have q:=cellAt a 2 rfl;have r:=cellAt a 3 rfl;have s:=cellAt a 4 rfl;have t:=cellAt a 5 rfl;clear a)
           go_ret;exact ⟨rbM (i.out),(((Fr.refl No w).alloc _).trans0 b)⟩
         have y:decide (d<=rev)=false:=decide_eq_false h4
         have i:Hid (false=m):=H_ (by rw [g.out];simp [o,u,v,y]);clear g;go_enter Tryz.func63,Tryz.ntmps63
         go_wp2_with (go_at_call 65;refine (n.out _).mono ?_;rintro e w1 ⟨rfl,b⟩
                      have a:=b.heap (zad w (Obj.cells #[.string l,.string k,.int .i64 c,.int .i64 d,.int .i64 f,.int .i64 j] 99) _ rfl) id;have lb:=zab a;have p:=cellAt a 1 rfl;have q:=cellAt a 2 rfl;have r:=cellAt a 3 rfl;have s:=cellAt a 4 rfl;have t:=cellAt a 5 rfl;clear a)
         go_ret;exact ⟨rbM (i.out),(((Fr.refl No w).alloc _).trans0 b)⟩
       have v:decide (c<=d)=false:=decide_eq_false h3
       have i:Hid (false=m):=H_ (by rw [g.out];simp [o,u,v]);clear g;go_enter Tryz.func63,Tryz.ntmps63
       go_wp2_with (go_at_call 65;refine (n.out _).mono ?_;rintro e w1 ⟨rfl,b⟩
                    have a:=b.heap (zad w (Obj.cells #[.string l,.string k,.int .i64 c,.int .i64 d,.int .i64 f,.int .i64 j] 99) _ rfl) id;have lb:=zab a;have p:=cellAt a 1 rfl;have q:=cellAt a 2 rfl;have r:=cellAt a 3 rfl;have s:=cellAt a 4 rfl;have t:=cellAt a 5 rfl;clear a)
       go_ret;exact ⟨rbM (i.out),(((Fr.refl No w).alloc _).trans0 b)⟩
     have u:decide (1<=c)=false:=decide_eq_false h2
     have i:Hid (false=m):=H_ (by rw [g.out];simp [o,u]);clear g;go_enter Tryz.func63,Tryz.ntmps63
     go_wp2_with (go_at_call 65;refine (n.out _).mono ?_;rintro e w1 ⟨rfl,b⟩
                  have a:=b.heap (zad w (Obj.cells #[.string l,.string k,.int .i64 c,.int .i64 d,.int .i64 f,.int .i64 j] 99) _ rfl) id;have lb:=zab a;have p:=cellAt a 1 rfl;have q:=cellAt a 2 rfl;have r:=cellAt a 3 rfl;have s:=cellAt a 4 rfl;have t:=cellAt a 5 rfl;clear a)
     go_ret;exact ⟨rbM (i.out),(((Fr.refl No w).alloc _).trans0 b)⟩
   have D:decide ((k.size:Int)<=1024)=false:=decide_eq_false h1
   have o:decide (k.size<=1024)=false:=decide_eq_false (by omega);have i:Hid (false=m):=H_ (by rw [g.out];simp [o]);clear g;go_enter Tryz.func63,Tryz.ntmps63
   go_wp2_with (go_at_call 65;refine (n.out _).mono ?_;rintro e w1 ⟨rfl,b⟩
                have a:=b.heap (zad w (Obj.cells #[.string l,.string k,.int .i64 c,.int .i64 d,.int .i64 f,.int .i64 j] 99) _ rfl) id;have lb:=zab a;have p:=cellAt a 1 rfl;have q:=cellAt a 2 rfl;have r:=cellAt a 3 rfl;have s:=cellAt a 4 rfl;have t:=cellAt a 5 rfl;clear a)
   go_ret;exact ⟨rbM (i.out),(((Fr.refl No w).alloc _).trans0 b)⟩
 have C:(E==0)=false:=beq_eq_false_iff_ne.2 h0
 clear h0;have i:Hid (false=m):=H_ (by rw [g.out];simp [C]);clear g;go_enter Tryz.func63,Tryz.ntmps63
 go_wp2_with (go_at_call 65;refine (n.out _).mono ?_;rintro e w1 ⟨rfl,b⟩
              have a:=b.heap (zad w (Obj.cells #[.string l,.string k,.int .i64 c,.int .i64 d,.int .i64 f,.int .i64 j] 99) _ rfl) id;have lb:=zab a;have p:=cellAt a 1 rfl;have q:=cellAt a 2 rfl;have r:=cellAt a 3 rfl;have s:=cellAt a 4 rfl;have t:=cellAt a 5 rfl;clear a)
 go_ret;exact ⟨rbM (i.out),(((Fr.refl No w).alloc _).trans0 b)⟩
end Go.Proofs.YthljnnjpmdgkoaaGreat