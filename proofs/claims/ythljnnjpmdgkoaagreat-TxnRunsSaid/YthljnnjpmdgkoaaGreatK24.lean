/- Own lemmas. -/
import Derived.Test.YthljnnjpmdgkoaaGreatK22
import Derived.Test.YthljnnjpmdgkoaaGreatK23
import Derived.Test.YthljnnjpmdgkoaaGreatK19
import Derived.Test.YthljnnjpmdgkoaaGreatK14
import Derived.Test.YthljnnjpmdgkoaaGreatK13
import Derived.Test.YthljnnjpmdgkoaaGreatK15
import Derived.Maps.RangeRun
namespace Go.Proofs.YthljnnjpmdgkoaaGreat
open Go Go.Proofs Go.RowKit
theorem zzb (R:Int) (S:St):(compS R S).T=S.T.filter (keepP R S):=by
 unfold compS compTo;simp
theorem zla (R:Int) (S:St) (j:Int):(compS R S).past j=if j∈S.T.map (·.2) then compP R (S.past j) else S.past j:=by
 unfold compS compTo;dsimp only;rw [List.take_length]
theorem zgd {R:Int} {S:St} {j:Int} {G:Hist} (h:(compS R S).past j=some G):∃ H,S.past j=some H/\(G=H\/G=compH R H):=by
 rw [zla] at h
 split at h
 · unfold compP at h
   cases hH:S.past j with
   | none=>rw [hH] at h;cases h
   | some H =>
     rw [hH] at h;dsimp only at h
     split at h
     · cases h
     exact ⟨H,rfl,.inr (Option.some.inj h).symm⟩
 exact ⟨G,h,.inl rfl⟩
theorem Good.cut {k:Nat} {S:St} {D:Doc} (h:Good k S D) (hk:k<=50000) {R:Int} (h1:D.mark<R) (h2:R<=D.rev):Good k (compS R S) (D.cut R):=by
 have g:=zzb R S;have v:=zla R S;have l:Sorted (compS R S).T:=by rw [g];exact List.Pairwise.sublist List.filter_sublist h.srt
 have A:=h.cpl.m0
 -- a key that is left has the number that it had
 have j:∀ key,(getT (compS R S).T key).2=true->getT (compS R S).T key=getT S.T key/\(getT S.T key).2=true/\keepP R S (key,(getT S.T key).1)=true:=fun key d=>by
  have t:=zgb d;rw [g] at t;obtain ⟨a,b⟩:=List.mem_filter.1 t;have u:=zcu h.srt a
  have x:getT (compS R S).T key=getT S.T key:=by
   rw [u];rw [g];exact Prod.ext rfl (by rw [<-g];exact d)
  dsimp only at u;refine ⟨x,by rw [<-x];exact d,?_⟩;rw [<-x,g];exact b
 have q:∀ key,(getT S.T key).2=true->(getT S.T key).1∈S.T.map (·.2):=fun key d=>List.mem_map.2 ⟨_,zgb d,rfl⟩
 have s:SInv D.rev (compS R S):=by
  refine ⟨fun key key' a b e=>?_,fun key a=>?_,fun i G m=>?_⟩
  · obtain ⟨a1,a2,_⟩:=j key a
    obtain ⟨b1,b2,_⟩:=j key' b;rw [a1,b1] at e;exact h.cpl.inv.inj key key' a2 b2 e
  · obtain ⟨a1,a2,a3⟩:=j key a
    obtain ⟨H,c⟩:=h.cpl.inv.has key a2;unfold keepP at a3;dsimp only at a3;rw [c] at a3;dsimp only at a3;refine ⟨compH R H,?_⟩;rw [a1,v,if_pos (q key a2),c];unfold compP;dsimp only;rw [if_neg (by simpa using a3)]
  obtain ⟨H,c,e | e⟩:=zgd m
  · rw [e];exact h.cpl.inv.hist i H c
  rw [e]
  have:=h.cpl.inv.hist i H c;exact ⟨⟨this.1.1.comp R,this.1.2⟩,this.2⟩
 have n:∀ key r,R<=r->livesS (compS R S) key r=livesS S key r:=fun key r hr=>by
  cases d:(getT S.T key).2 with
  | false =>
    have f:(getT (compS R S).T key).2=false:=by
     rw [Bool.eq_false_iff];intro f;rw [(j key f).2.1] at d;cases d
    unfold livesS;rw [d,f];simp
  | true =>
    obtain ⟨H,c⟩:=h.cpl.inv.has key d;have z:=(h.cpl.inv.hist _ _ c).1.1;have y:=(h.more _ _ c).ord;by_cases hc:compK R H.gens = []
    · have f:(getT (compS R S).T key).2=false:=by
       rw [Bool.eq_false_iff];intro f;have o:=(j key f).2.2;unfold keepP at o;dsimp only at o;rw [c] at o;dsimp only at o;rw [hc] at o;simp at o
      unfold livesS;rw [d,f,if_pos rfl,c,if_neg (by simp)];dsimp only;rw [zvm y hr z.zero hc]
    have t:(key,(getT S.T key).1)∈(compS R S).T:=by
     rw [g];refine List.mem_filter.2 ⟨zgb d,?_⟩;unfold keepP;dsimp only;rw [c];simpa using hc
    have u:=zcu l t;dsimp only at u;unfold livesS;rw [u,d,if_pos rfl,if_pos rfl,c];dsimp only;rw [v,if_pos (q key d),c];unfold compP;dsimp only;rw [if_neg (by simpa using hc)];exact zvn z y hr
 exact {
  cpl:={
   mark:=rfl
   events:=by
    show S.events.filter (keptB R)=D.events.filter _
    rw [h.cpl.events];refine List.filter_congr fun e he=>?_;have:=(h.doc.lo e he).2.2;unfold keptB oldB;by_cases t:e.kv.mod<R
    · have:¬ R<=e.kv.mod:=by omega
      simp [t,this]
    have o:R<=e.kv.mod:=by omega
    simp [t,o,this]
   inv:=s
   ks:=Doc.at_sorted h.cpl.ks R
   m0:=⟨by show 0<=R;omega,h2⟩
   lives:=fun key r hr=>by
    have w:R<=r:=hr;rw [n key r w,Doc.cut_at h.doc.es (by omega) w fun e he=>(h.doc.lo e he).2.2];exact h.cpl.lives key r (by omega) }
  doc:=h.doc.cut h.cpl.ks R h1 h2
  ok:={
   pos:=h.ok.pos
   next:=h.ok.next
   id:=fun p hp=>by
    have d:=zcu l hp;obtain ⟨G,m⟩:=s.has p.1 (by rw [d]);rw [d] at m;exact ⟨G,m⟩
   ids:=fun i G m=>by
    obtain ⟨H,c,_⟩:=zgd m;exact h.ok.ids i H c
   hist:=fun i G m=>by
    obtain ⟨H,c,e | e⟩:=zgd m
    · rw [e];exact h.ok.hist i H c
    rw [e]
    have:=h.ok.hist i H c;exact ⟨this.1.comp (h.more i H c) (by omega) R,this.2⟩
   rev0:=h.ok.rev0
   rev1:=h.ok.rev1
   mark0:=by show 0<=R;omega
   ev:=Nat.le_trans (List.length_filter_le _ _) h.ok.ev }
  size:=by rw [g];exact Nat.le_trans (List.length_filter_le _ _) h.size
  srt:=l
  more:=fun i G m=>by
   obtain ⟨H,c,e | e⟩:=zgd m
   · rw [e];exact h.more i H c
   rw [e];exact (h.more i H c).comp R
  rev:=h.rev
  rev1:=h.rev1 }
theorem Good.events_pos {k:Nat} {S:St} {D:Doc} (h:Good k S D) (h1:1<=D.rev):0<S.events.length:=by
 obtain ⟨e,a,_⟩:=h.doc.full D.rev h1 h.cpl.m0.2 (Int.le_refl _);rw [h.cpl.events];exact List.length_pos_of_mem a
def dropP (keys:List ByteArray):List Opr:=keys.map fun k=>⟨2,⟨k,ByteArray.empty,0,0,false,false,false⟩,ByteArray.empty,0⟩
theorem zxp (k:ByteArray):inB k k ByteArray.empty=true:=by
 unfold inB;rw [if_pos (by rw [Lib.toList_data];rfl)];exact beq_self_eq_true _
theorem Good.drops {k:Nat} {S:St} {D:Doc} (h:Good k S D) (hk:k<=70) (keys:List ByteArray) (_hl:keys.length<=30) :
 ∀ i≤ keys.length,RunOk (16 * k) (20000 * k+i) D (dropP keys) (dropTo (D.rev+1) S keys i).1 (dropTo (D.rev+1) S keys i).2 ∧
  ∀ key,keys[i]?=some key->(livesS (dropTo (D.rev+1) S keys i).1 key (D.rev+1)).2=true->DoOk 1000000 (dropTo (D.rev+1) S keys i).1 (dropE key (D.rev+1) (livesS (dropTo (D.rev+1) S keys i).1 key (D.rev+1)).1):=by
 have m:=h.cpl.m0;have s:=h.rev1;have g:D.rev+1<=top:=by unfold top;omega
 -- a key that lives is dropped
 have step:∀ i key (q:St×List Ev),keys[i]?=some key->RunOk (16 * k) (20000 * k+i) D (dropP keys) q.1 q.2->(livesS q.1 key (D.rev+1)).2=true →
  DoOk 1000000 q.1 (dropE key (D.rev+1) (livesS q.1 key (D.rev+1)).1)/\RunOk (16 * k) (20000 * k+i+1) D (dropP keys) (doS q.1 (dropE key (D.rev+1) (livesS q.1 key (D.rev+1)).1)) (q.2++[dropE key (D.rev+1) (livesS q.1 key (D.rev+1)).1]):=fun i key q c hq hlv=>by
  have n:=Doc.adds_parts D q.2;have b:=hq.cpl.lives key (D.rev+1) (by rw [n.1];omega)
  have f:hasL ((D.adds q.2).at (D.rev+1)) key≠none:=fun e=>by
   rw [b,e] at hlv;cases hlv
  have r:(livesS q.1 key (D.rev+1)).1=(hasL ((D.adds q.2).at (D.rev+1)) key).getD kv0:=by
   rw [b];cases hasL ((D.adds q.2).at (D.rev+1)) key <;> rfl
  have:=hq.event (N:=1000000) (dropE key (D.rev+1) (livesS q.1 key (D.rev+1)).1) (by omega) rfl g m.2 r (fun e he hke=>by
   have d:e.kv.key=key:=hke;rcases hq.by1 e he with ⟨_,o,t,j,_⟩ | ⟨_,_,p⟩
   · obtain ⟨u,_,rfl⟩:=List.mem_map.1 t
     cases j
   · rw [d] at p;exact f p) (by omega)
   (.inr ⟨rfl,⟨⟨2,⟨key,ByteArray.empty,0,0,false,false,false⟩,ByteArray.empty,0⟩,List.mem_map.2 ⟨key,List.mem_of_getElem? c,rfl⟩,rfl,zxp key⟩,f⟩)
  rw [if_neg (show ¬ (dropE key (D.rev+1) (livesS q.1 key (D.rev+1)).1).kind=1 by show ¬ (2:Int)=1;decide)] at this;exact this
 have key:∀ i≤ keys.length,RunOk (16 * k) (20000 * k+i) D (dropP keys) (dropTo (D.rev+1) S keys i).1 (dropTo (D.rev+1) S keys i).2:=by
  intro i
  induction i with
  | zero=>intro _;exact h.begin.mono (Nat.le_refl _) (by omega) (by simp)
  | succ i ih =>
    intro l;obtain ⟨x,c⟩:∃ x,keys[i]?=some x:=⟨_,List.getElem?_eq_getElem (by omega)⟩;rw [zet _ _ _ c];have a:=ih (by omega);unfold dropR
    split
    · rename_i hlv
      exact (step i x _ c a hlv).2
    exact a.mono (Nat.le_refl _) (by omega) fun _ h=>h
 exact fun i l=>⟨key i l,fun x c hlv=>(step i x _ c (key i l) hlv).1⟩
def dropD (S:St) (D:Doc) (keys:List ByteArray):Doc:=D.adds (keys.foldl (dropR (D.rev+1)) (S,[])).2
theorem Good.drop {k:Nat} {S:St} {D:Doc} (h:Good k S D) (hk:k<=70) (keys:List ByteArray) (hl:keys.length<=30):Good (k+1) (dropS S keys) (dropD S D keys):=by
 obtain ⟨a,_⟩:=h.drops hk keys hl keys.length (Nat.le_refl _);have e:dropTo (D.rev+1) S keys keys.length=keys.foldl (dropR (D.rev+1)) (S,[]):=by unfold dropTo;rw [List.take_length]
 rw [e] at a;have b:=Doc.adds_rev D (keys.foldl (dropR (D.rev+1)) (S,[])).2 _ a.mods;have f:=h.rev;have c:=h.rev1;unfold dropS dropD;rw [f];by_cases hE:(keys.foldl (dropR (D.rev+1)) (S,[])).2 = []
 · rw [if_pos hE]
   rw [if_pos hE] at b;exact { cpl:=a.cpl,doc:=a.doc.mono (by omega),ok:=a.ok.mono (by omega),size:=by have:=a.size;omega,srt:=a.srt,more:=a.more.mono (by omega),rev:=by rw [a.srev,b],rev1:=by rw [b];omega }
 rw [if_neg hE]
 rw [if_neg hE] at b;have d:=h.cpl.m0;exact { cpl:=a.cpl.setRev _,doc:=a.doc.mono (by omega),ok:=(a.ok.mono (by omega)).setRev _ (by unfold top;omega) (by unfold top;omega),size:=by have:=a.size;dsimp only;omega,srt:=a.srt,more:=fun i H hi=>a.more.mono (by omega) i H hi,rev:=b.symm,rev1:=by rw [b];omega }
set_option maxRecDepth 100000
def goneK (H:Hist) (rev r:Int):Prop:=H.kvs r≠none/\r<=rev/\r≠(atK H.gens rev).1.2.1
theorem zrc {α:Type} [DecidableEq α]:∀ (a b:List α),a.Nodup->(∀ x∈a,x∈b)->a.length<=b.length
 | [],_,_,_=>by simp
 | x :: a,b,hn,hs=>by
   have hx:=hs x (by simp);obtain ⟨h1,h2⟩:=List.nodup_cons.1 hn;have h3:=zrc a (b.erase x) h2 fun y hy=>(List.mem_erase_of_ne (fun e=>h1 (by rw [<-e];exact hy))).2 (hs y (by simp [hy]));have h4:=List.length_erase_of_mem hx;have h5:0<b.length:=List.length_pos_of_mem hx;simp only [List.length_cons];omega
theorem zxi (es:Array MapEntry):(leftOf es #[]).size=es.size:=by
 unfold leftOf;rw [Array.filter_eq_self.2 (fun x _=>by simp)]
theorem zox {W wr w2:World} (hF:Fr No W wr) (hw2:w2=wr\/w2=wr.drew) (o:Obj):Fr No W (ChangeMaps.setBlock w2 W.heap.size o):=by
 have a:Fr No W w2:=by 
  rcases hw2 with rfl | rfl
  · exact hF
  exact hF.drew
 exact ⟨a.os,a.tape,a.output,by have:=a.size;simpa [ChangeMaps.setBlock] using this,fun k hk hS=>(zhm w2 _ k _ (by omega)).trans (a.block k hk hS)⟩
theorem zuf {es:Array MapEntry} {seen:Array Nat} {e:MapEntry} (hnd:(es.toList.map (·.born)).Nodup) (he:e∈es.toList) {P:MapEntry->Prop} (h:∀ x∈es.toList,seen.contains x.born=true->P x) (hP:P e) :
 ∀ x∈es.toList,(seen.push e.born).contains x.born=true->P x:=by
 intro x f a;rw [contains_push,Bool.or_eq_true] at a;rcases a with a | a
 · exact h x f a
 have g:x.born=e.born:=by simpa using a
 have:x=e:=by
  obtain ⟨i,c⟩:=List.mem_iff_getElem?.1 f;obtain ⟨j,d⟩:=List.mem_iff_getElem?.1 he;have b:=(List.getElem?_eq_some_iff.1 c).1;have k:(es.toList.map (·.born))[i]?=(es.toList.map (·.born))[j]?:=(by rw [List.getElem?_map,List.getElem?_map,c,d];simp [g]);have:=(List.getElem?_inj (by simpa using b) hnd).1 k;subst this;rw [c] at d;exact Option.some.inj d
 rw [this];exact hP
theorem zve {es:Array MapEntry} {seen:Array Nat} (h:(leftOf es seen).size=0):∀ x∈es.toList,seen.contains x.born=true:=by
 intro x a
 cases hc:seen.contains x.born with
 | true=>rfl
 | false =>
   have b:x∈leftOf es seen:=Array.mem_filter.2 ⟨by simpa using a,by rw [hc];rfl⟩;have:=Array.size_pos_of_mem b;omega
set_option maxHeartbeats 4000000 in
theorem zlz (w:World) (h:Nat) (H:Hist) (rev:Int) (F:Nat->Prop) (hh:HistAt w h H F) (hK:Fits H.gens) (hl:∃ l:List Int,l.length<=1099511627/\∀ r,H.kvs r≠none->r∈l) :
 Calls Tryz.prog 104 #[.pointer (some ⟨h,0,none⟩),.int .i64 rev] w fun e w'=>∃ v out,e=.returned v/\SlF w' 3 1 int1 v out/\Fr No w w'/\(∀ b,v.ownBlock=some b->w.heap.size<=b)/\(∀ r,r∈out↔goneK H rev r):=by
 obtain ⟨g,m,FK,a,hF⟩:=hh;have D:=fun W (hW:Fr No w W)=>zru W g H.gens H.last rev FK (a.key.fr hW fun _ _ h=>h) hK
 unfold ziv seenV at D;have c0:=a.obj.cell 0 rfl;have c1:=a.obj.cell 1 rfl;have lh:=a.obj.lt;obtain ⟨o,c,A,O,M,aj⟩:=a.map;have hgk:∀ r,goneK H rev r↔H.kvs r≠none/\r<=rev/\r≠(atK H.gens rev).1.2.1:=fun r=>Iff.rfl
 have be:o.size<=1099511627:=by
  obtain ⟨l,bm,aF⟩:=hl
  have:=by
   classical
   exact zrc (o.toList.map (·.key)) (l.map (Value.int .i64)) O.2.2 fun x hx=>by
    obtain ⟨e,I,rfl⟩:=List.mem_map.1 hx;obtain ⟨n,h1,_,h2⟩:=M e I;exact List.mem_map.2 ⟨n,aF n (fun h0=>by simp [h0] at h2),h1.symm⟩
  simp only [List.length_map,Array.length_toList] at this;omega
 generalize atK H.gens rev=sn at *;obtain ⟨⟨q1,Z,q3⟩,qb⟩:=sn;dsimp only at D hgk
 have aH:=H_ D;have T:=H_ hgk;have HB:=H_ A;have a1:=H_ O;have aK:=H_ M;have aJ:=H_ aj;clear D hgk a hF hK A O M aj hl;go_enter Tryz.func104,Tryz.ntmps104;go_upto_region 3 with (go_at_call 115;refine (aH.out _ (Fr.refl No w)).mono ?_;rintro e w1 ⟨rfl,S⟩);have B:((w1.alloc (Obj.cells #[.int .i64 q1,.int .i64 Z,.int .i64 q3] 190))).heap[w1.heap.size]?=some (.cells #[.int .i64 q1,.int .i64 Z,.int .i64 q3] 190 (0,0)):=zad _ _ _ rfl;have f:Fr No w (w1.alloc (Obj.cells #[.int .i64 q1,.int .i64 Z,.int .i64 q3] 190)):=S.alloc _;have b0:w.heap.size<=w1.heap.size:=S.size;generalize w1.alloc (Obj.cells #[.int .i64 q1,.int .i64 Z,.int .i64 q3] 190)=W at B f ⊢
 have ba:=f.cell0 c1;have bg:h<W.heap.size:=Nat.lt_of_lt_of_le lh f.size;have a7:=f.heap HB.out id;have b6:=run_range_map (P:=Tryz.prog) W 169 3 99 m o c Tryz.underlying169 a7;have ax:=H_ B;have C:=H_ f;have bf:=zaa B;clear B f a7 S c0 c1;go_wp2
 go_loopg [5] o.size (fun gg s5 wr=>∃ (seen:Array Nat) (k0:Nat) (v:Value) (out:List Int),s5=v/\gg=(leftOf o seen).size/\c<=k0/\out.length+gg<=o.size/\Hid (wr.heap[W.heap.size]?=some (.mapIter (some m) c seen k0)) ∧
  Hid (SlF wr 3 1 int1 v out)/\Hid (∀ b,v.ownBlock=some b->W.heap.size<b)/\Hid (∀ r∈out,goneK H rev r)/\Hid (Fr No W wr)/\Hid (∀ x∈o.toList,seen.contains x.born=true->∀ n,x.key=.int .i64 n->goneK H rev n->n∈out))
 case atStart=>exact ⟨#[],c,_,[],rfl,by rw [zxi],Nat.le_refl _,by simp,H_ (heap_alloc_new _ _),H_ (SlF.nil _ _ _ _),H_ (by simp [Value.ownBlock]),H_ (by simp),H_ ((Fr.refl No W).alloc _),H_ (by simp)⟩
 case round =>
  obtain ⟨seen,k0,v,out,rfl,bd,aS,b7,HI,HS,Q,HG,HF,HC⟩:=hrel;have Y:=HF.out.heap (C.out.heap HB.out id) id;have aN:=_root_.Go.run_next_at (P:=Tryz.prog) wr 0 W.heap.size m c k0 seen o c HI.out Y a1.out.1 aS;rcases aN with ⟨h0,L⟩ | ⟨e,I,E,i,L⟩
  · clear Y
    go_wp2;go_ret
    exact ⟨_,out,rfl,HS.out,C.out.trans0 HF.out,fun b A=>by have:=Q.out b A;have:=C.out.size;omega,fun r=>⟨HG.out r,fun hr=>by
     cases hkv:H.kvs r with
     | none=>exact absurd hkv hr.1
     | some y =>
       obtain ⟨e,I,j,_⟩:=aJ.out r (kvV y) (by simp [hkv]);exact HC.out e I (zve h0 e I) r j hr⟩⟩
  obtain ⟨j,aG⟩:=mem_left I
  obtain ⟨n,p,aQ,G⟩:=aK.out e j;have aa:=left_shrinks o seen e I;have ah:=fun (out':List Int) (h1:∀ m∈out,m∈out') (h2:goneK H rev n->n∈out')=>zuf (P:=fun x=>∀ m,x.key=.int .i64 m->goneK H rev m->m∈out') a1.out.2.1 j (fun x hx hc m hm hg=>h1 m (HC.out x hx hc m hm hg)) (fun m hm hg=>by rw [p] at hm;cases hm;exact h2 hg);have V:=H_ ah;clear ah;have af:W.heap.size<wr.heap.size:=zaa HI.out;have ak:W.heap.size<E.heap.size:=(by rcases i with rfl | rfl <;> exact af);have t:=zox HF.out i (.mapIter (some m) c (seen.push e.born) c);have X:=zud E W.heap.size (.mapIter (some m) c (seen.push e.born) c) ak
  have R:∀ k,k≠W.heap.size->(ChangeMaps.setBlock E W.heap.size (.mapIter (some m) c (seen.push e.born) c)).heap[k]?=wr.heap[k]?:=fun k hk=>(zhm E _ k _ hk).trans (by rcases i with rfl | rfl <;> rfl);have q:(ChangeMaps.setBlock E W.heap.size (.mapIter (some m) c (seen.push e.born) c)).heap.size=wr.heap.size:=(by rcases i with rfl | rfl <;> simp [ChangeMaps.setBlock])
  have J:Fr (fun b=>b=W.heap.size) wr (ChangeMaps.setBlock E W.heap.size (.mapIter (some m) c (seen.push e.born) c)):=by
   rcases i with rfl | rfl
   · exact ⟨rfl,rfl,rfl,Nat.le_of_eq q.symm,fun k _ hk=>R k hk⟩
   exact ⟨rfl,rfl,rfl,Nat.le_of_eq q.symm,fun k _ hk=>R k hk⟩
  have ai:=t.heap (C.out.heap HB.out id) id;have a9:=run_entry_at (P:=Tryz.prog) _ W.heap.size m c seen o c e X ai j a1.out.2.1
  have ao:SlF (ChangeMaps.setBlock E W.heap.size (.mapIter (some m) c (seen.push e.born) c)) 3 1 int1 u5 out:=HS.out.fr J fun b A e'=>by
   have b9:b=W.heap.size:=e';have:=Q.out b A;omega
  have s:=t.heap ax.out id;rw [p] at L a9;have ag:H.kvs n≠none:=fun h0=>by simp [h0] at G
  generalize ChangeMaps.setBlock E W.heap.size (.mapIter (some m) c (seen.push e.born) c)=K at *;have y1:K.cell? ⟨w1.heap.size,1,none⟩=some (.int .i64 Z):=cellAt s 1 rfl;have ly:=zaa s;have U:=H_ t;have N:=H_ X;have a0:=H_ ao;have d:=H_ aa;have aV:=H_ ag;have b5:W.heap.size<=K.heap.size:=t.size;obtain ⟨i0,aL,aD,aC,aO⟩:=info_parts info3;have aZ:out.length<=1099511627:=(by omega);generalize a6:(leftOf o (seen.push e.born)).size=gs at *;have a2:=H_ a6;clear t X ao aa ag s ai R q J Y I j aG p aQ G i ak af a6;by_cases t1:n<=rev
  · by_cases t2:n=Z
    · subst t2
      go_wp2;go_roundg gs
      case rel=>exact ⟨seen.push e.born,c,u5,out,rfl,a2.out.symm,Nat.le_refl _,by have:=d.out;omega,N,a0,Q,HG,U,H_ (V.out out (fun _ h=>h) fun hg=>absurd rfl ((T.out _).1 hg).2.2)⟩
      case measure=>have:=d.out;omega
    have bc:(n != Z)=true:=by simpa using t2
    have ad:=zar K [.int .i64 n] 3 (0,0);go_wp2_with (at_builtin;go_loud (refine zao rfl _ _ 76 rfl 3 i0 _ 1 8 Tryz.underlying76 aL aD aC aO rfl (by decide) _ out rfl (a0.out.alloc _) K.heap.size 1 n rfl ad rfl ?c1 ?c2 ?c3 ?_))
    case c1=>intro u hu;simp [int1] at hu;subst hu;rfl
    case c2=>unfold maxLen;omega
    case c3=>omega
    intro g7 o7 an w6 ab ae a4 b4;have al:Fr (fun b=>u5.ownBlock=some b) (K.alloc (Obj.cells [.int .i64 n].toArray 3)) w6:=(Fr.refl _ _).grown ae fun k hk=>.inl hk;have z:Fr (fun b=>u5.ownBlock=some b) K w6:=((Fr.refl _ K).alloc _).trans al fun _ _ h=>h;have a8:=z.heap N.out (fun h=>by have:=Q.out _ h;omega);have a3:Fr No W w6:=U.out.trans z fun b A h=>by have:=Q.out b h;omega
    have aT:=H_ a8;have az:=H_ a3;have aM:=H_ ab;have am:goneK H rev n:=(T.out n).2 ⟨aV.out,t1,t2⟩;have aE:=H_ am
    have ap:∀ b,(Value.slice (some ⟨g7,o7,none⟩) (out.length+1) an).ownBlock=some b->W.heap.size<b:=fun b A=>by
     obtain rfl:g7=b:=by simpa [Value.ownBlock] using A
     rcases a4 with h | h
     · exact Q.out _ h
     have h':g7=K.heap.size+1:=by simpa using h
     omega
    have aB:=H_ ap;clear al z a8 a3 ab am ap ae a4;go_wp2;go_roundg gs
    case rel=>exact ⟨seen.push e.born,c,_,out++[n],rfl,a2.out.symm,Nat.le_refl _,by have:=d.out;simp;omega,aT,H_ (by simpa using aM.out),aB,H_ (fun r hr=>by
     rcases List.mem_append.1 hr with h | h
     · exact HG.out r h
     rw [List.mem_singleton.1 h];exact aE.out),az,H_ (V.out (out++[n]) (fun m h=>List.mem_append_left _ h) fun _=>by simp)⟩
    case measure=>have:=d.out;omega
  have bb:¬ n<=rev:=t1
  go_wp2;go_roundg gs
  case rel=>exact ⟨seen.push e.born,c,u5,out,rfl,a2.out.symm,Nat.le_refl _,by have:=d.out;omega,N,a0,Q,HG,U,H_ (V.out out (fun _ h=>h) fun hg=>by have h1:=((T.out _).1 hg).2.1;omega)⟩
  case measure=>have:=d.out;omega
theorem zed (a:ByteArray):klt a ⟨#[]⟩=false:=by
 rw [Bool.eq_false_iff];intro h;have:=zdu.1 h;exact absurd this (by simp)
theorem zho (T:Pairs):rangeT T ⟨#[]⟩ ⟨#[]⟩=T:=by
 unfold rangeT;rw [List.filter_eq_self];intro q _;rw [zed,show (⟨#[]⟩:ByteArray).toList.isEmpty=true from by rw [Lib.toList_data];rfl]
 rfl
end Go.Proofs.YthljnnjpmdgkoaaGreat