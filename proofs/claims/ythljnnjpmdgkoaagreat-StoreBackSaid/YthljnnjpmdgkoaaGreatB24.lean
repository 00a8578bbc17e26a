/- Own lemmas and contracts that the claim's proof needs, laid together. The conditions stand in each. -/
import Derived.Test.YthljnnjpmdgkoaaGreatB23
import Derived.Test.YthljnnjpmdgkoaaGreatB19
import Derived.Test.YthljnnjpmdgkoaaGreatB14
import Derived.Test.YthljnnjpmdgkoaaGreatB13
import Derived.Test.YthljnnjpmdgkoaaGreatB15
import Derived.Maps.RangeRun
namespace Go.Proofs.YthljnnjpmdgkoaaGreat
open Go Go.Proofs Go.RowKit
theorem zwe (R:Int) (S:St):(compS R S).T=S.T.filter (keepP R S):=by
 unfold compS compTo;simp
theorem zjr (R:Int) (S:St) (j:Int):(compS R S).past j=if j∈S.T.map (·.2) then compP R (S.past j) else S.past j:=by
 unfold compS compTo;dsimp only;rw [List.take_length]
theorem zfi {R:Int} {S:St} {j:Int} {G:Hist} (h:(compS R S).past j=some G):∃ H,S.past j=some H/\(G=H\/G=compH R H):=by
 rw [zjr] at h
 split at h
 · unfold compP at h
   cases hH:S.past j with
   | none=>rw [hH] at h;cases h
   | some H =>
     rw [hH] at h;dsimp only at h
     split at h
     · cases h
     exact ⟨H,rfl,.inr (Option.some.inj h).symm⟩
 exact ⟨G,h,.inl rfl⟩
theorem Good.cut {k:Nat} {S:St} {D:Doc} (h:Good k S D) (hk:k<=50000) {R:Int} (h1:D.mark < R) (h2:R<=D.rev):Good k (compS R S) (D.cut R):=by
 have hT':=zwe R S;have hP':=zjr R S;have hsrt:Sorted (compS R S).T:=by rw [hT'];exact List.Pairwise.sublist List.filter_sublist h.srt
 have hm0:=h.cpl.m0
 -- a key that is left has the number that it had
 have hin:∀ key,(getT (compS R S).T key).2=true->getT (compS R S).T key=getT S.T key/\(getT S.T key).2=true/\keepP R S (key,(getT S.T key).1)=true:=fun key hg=>by
  have hm:=zdy hg;rw [hT'] at hm;obtain ⟨a,b⟩:=List.mem_filter.1 hm;have e1:=zcb h.srt a
  have e2:getT (compS R S).T key=getT S.T key:=by
   rw [e1];rw [hT'];exact Prod.ext rfl (by rw [<-hT'];exact hg)
  dsimp only at e1;refine ⟨e2,by rw [<-e2];exact hg,?_⟩;rw [<-e2,hT'];exact b
 have hmem:∀ key,(getT S.T key).2=true->(getT S.T key).1∈S.T.map (·.2):=fun key hg=>List.mem_map.2 ⟨_,zdy hg,rfl⟩
 have hinv:SInv D.rev (compS R S):=by
  refine ⟨fun key key' a b e=>?_,fun key a=>?_,fun i G hG=>?_⟩
  · obtain ⟨a1,a2,_⟩:=hin key a
    obtain ⟨b1,b2,_⟩:=hin key' b;rw [a1,b1] at e;exact h.cpl.inv.inj key key' a2 b2 e
  · obtain ⟨a1,a2,a3⟩:=hin key a
    obtain ⟨H,hH⟩:=h.cpl.inv.has key a2;unfold keepP at a3;dsimp only at a3;rw [hH] at a3;dsimp only at a3;refine ⟨compH R H,?_⟩;rw [a1,hP',if_pos (hmem key a2),hH];unfold compP;dsimp only;rw [if_neg (by simpa using a3)]
  obtain ⟨H,hH,e | e⟩:=zfi hG
  · rw [e];exact h.cpl.inv.hist i H hH
  rw [e]
  have:=h.cpl.inv.hist i H hH;exact ⟨⟨this.1.1.comp R,this.1.2⟩,this.2⟩
 have hlives:∀ key r,R<=r->livesS (compS R S) key r=livesS S key r:=fun key r hr=>by
  cases hg:(getT S.T key).2 with
  | false =>
    have hg':(getT (compS R S).T key).2=false:=by
     rw [Bool.eq_false_iff];intro hg';rw [(hin key hg').2.1] at hg;cases hg
    unfold livesS;rw [hg,hg'];simp
  | true =>
    obtain ⟨H,hH⟩:=h.cpl.inv.has key hg;have hI:=(h.cpl.inv.hist _ _ hH).1.1;have hO:=(h.more _ _ hH).ord;by_cases hc:compK R H.gens = []
    · have hg':(getT (compS R S).T key).2=false:=by
       rw [Bool.eq_false_iff];intro hg';have h3:=(hin key hg').2.2;unfold keepP at h3;dsimp only at h3;rw [hH] at h3;dsimp only at h3;rw [hc] at h3;simp at h3
      unfold livesS;rw [hg,hg',if_pos rfl,hH,if_neg (by simp)];dsimp only;rw [ztb hO hr hI.zero hc]
    have hm:(key,(getT S.T key).1)∈(compS R S).T:=by
     rw [hT'];refine List.mem_filter.2 ⟨zdy hg,?_⟩;unfold keepP;dsimp only;rw [hH];simpa using hc
    have e1:=zcb hsrt hm;dsimp only at e1;unfold livesS;rw [e1,hg,if_pos rfl,if_pos rfl,hH];dsimp only;rw [hP',if_pos (hmem key hg),hH];unfold compP;dsimp only;rw [if_neg (by simpa using hc)];exact ztc hI hO hr
 exact {
  cpl:={
   mark:=rfl
   events:=by
    show S.events.filter (keptB R)=D.events.filter _
    rw [h.cpl.events];refine List.filter_congr fun e he=>?_;have:=(h.doc.lo e he).2.2;unfold keptB oldB;by_cases hm:e.kv.mod < R
    · have:¬ R<=e.kv.mod:=by omega
      simp [hm,this]
    have h3:R<=e.kv.mod:=by omega
    simp [hm,h3,this]
   inv:=hinv
   ks:=Doc.at_sorted h.cpl.ks R
   m0:=⟨by show 0<=R;omega,h2⟩
   lives:=fun key r hr=>by
    have hr':R<=r:=hr;rw [hlives key r hr',Doc.cut_at h.doc.es (by omega) hr' fun e he=>(h.doc.lo e he).2.2];exact h.cpl.lives key r (by omega) }
  doc:=h.doc.cut h.cpl.ks R h1 h2
  ok:={
   pos:=h.ok.pos
   next:=h.ok.next
   id:=fun p hp=>by
    have hg:=zcb hsrt hp;obtain ⟨G,hG⟩:=hinv.has p.1 (by rw [hg]);rw [hg] at hG;exact ⟨G,hG⟩
   ids:=fun i G hG=>by
    obtain ⟨H,hH,_⟩:=zfi hG;exact h.ok.ids i H hH
   hist:=fun i G hG=>by
    obtain ⟨H,hH,e | e⟩:=zfi hG
    · rw [e];exact h.ok.hist i H hH
    rw [e]
    have:=h.ok.hist i H hH;exact ⟨this.1.comp (h.more i H hH) (by omega) R,this.2⟩
   rev0:=h.ok.rev0
   rev1:=h.ok.rev1
   mark0:=by show 0<=R;omega
   ev:=Nat.le_trans (List.length_filter_le _ _) h.ok.ev }
  size:=by rw [hT'];exact Nat.le_trans (List.length_filter_le _ _) h.size
  srt:=hsrt
  more:=fun i G hG=>by
   obtain ⟨H,hH,e | e⟩:=zfi hG
   · rw [e];exact h.more i H hH
   rw [e];exact (h.more i H hH).comp R
  rev:=h.rev
  rev1:=h.rev1 }
theorem Good.events_pos {k:Nat} {S:St} {D:Doc} (h:Good k S D) (h1:1<=D.rev):0 < S.events.length:=by
 obtain ⟨e,he,_⟩:=h.doc.full D.rev h1 h.cpl.m0.2 (Int.le_refl _);rw [h.cpl.events];exact List.length_pos_of_mem he
def dropP (keys:List ByteArray):List Opr:=keys.map fun k=>⟨2,⟨k,ByteArray.empty,0,0,false,false,false⟩,ByteArray.empty,0⟩
theorem zux (k:ByteArray):inB k k ByteArray.empty=true:=by
 unfold inB;rw [if_pos (by rw [Lib.toList_data];rfl)];exact beq_self_eq_true _
theorem Good.drops {k:Nat} {S:St} {D:Doc} (h:Good k S D) (hk:k<=70) (keys:List ByteArray) (_hl:keys.length<=30) :
 ∀ i≤ keys.length,RunOk (16 * k) (20000 * k+i) D (dropP keys) (dropTo (D.rev+1) S keys i).1 (dropTo (D.rev+1) S keys i).2 ∧
  ∀ key,keys[i]? = some key->(livesS (dropTo (D.rev+1) S keys i).1 key (D.rev+1)).2=true->DoOk 1000000 (dropTo (D.rev+1) S keys i).1 (dropE key (D.rev+1) (livesS (dropTo (D.rev+1) S keys i).1 key (D.rev+1)).1):=by
 have hm0:=h.cpl.m0;have hr1:=h.rev1;have htop:D.rev+1<=top:=by unfold top;omega
 -- a key that lives is dropped
 have step:∀ i key (q:St × List Ev),keys[i]? = some key->RunOk (16 * k) (20000 * k+i) D (dropP keys) q.1 q.2->(livesS q.1 key (D.rev+1)).2=true →
  DoOk 1000000 q.1 (dropE key (D.rev+1) (livesS q.1 key (D.rev+1)).1)/\RunOk (16 * k) (20000 * k+i+1) D (dropP keys) (doS q.1 (dropE key (D.rev+1) (livesS q.1 key (D.rev+1)).1)) (q.2++[dropE key (D.rev+1) (livesS q.1 key (D.rev+1)).1]):=fun i key q hx hq hlv=>by
  have hpt:=Doc.adds_parts D q.2;have hlives:=hq.cpl.lives key (D.rev+1) (by rw [hpt.1];omega)
  have hne:hasL ((D.adds q.2).at (D.rev+1)) key≠none:=fun e=>by
   rw [hlives,e] at hlv;cases hlv
  have hp:(livesS q.1 key (D.rev+1)).1=(hasL ((D.adds q.2).at (D.rev+1)) key).getD kv0:=by
   rw [hlives];cases hasL ((D.adds q.2).at (D.rev+1)) key <;> rfl
  have:=hq.event (N:=1000000) (dropE key (D.rev+1) (livesS q.1 key (D.rev+1)).1) (by omega) rfl htop hm0.2 hp (fun e he hke=>by
   have hke':e.kv.key=key:=hke;rcases hq.by1 e he with ⟨_,o,ho,ho1,_⟩ | ⟨_,_,hn⟩
   · obtain ⟨k',_,rfl⟩:=List.mem_map.1 ho
     cases ho1
   · rw [hke'] at hn;exact hne hn) (by omega)
   (.inr ⟨rfl,⟨⟨2,⟨key,ByteArray.empty,0,0,false,false,false⟩,ByteArray.empty,0⟩,List.mem_map.2 ⟨key,List.mem_of_getElem? hx,rfl⟩,rfl,zux key⟩,hne⟩)
  rw [if_neg (show ¬ (dropE key (D.rev+1) (livesS q.1 key (D.rev+1)).1).kind=1 by show ¬ (2:Int)=1;decide)] at this;exact this
 have key:∀ i≤ keys.length,RunOk (16 * k) (20000 * k+i) D (dropP keys) (dropTo (D.rev+1) S keys i).1 (dropTo (D.rev+1) S keys i).2:=by
  intro i
  induction i with
  | zero=>intro _;exact h.begin.mono (Nat.le_refl _) (by omega) (by simp)
  | succ i ih =>
    intro hi;obtain ⟨x,hx⟩:∃ x,keys[i]? = some x:=⟨_,List.getElem?_eq_getElem (by omega)⟩;rw [zec _ _ _ hx];have a:=ih (by omega);unfold dropR
    split
    · rename_i hlv
      exact (step i x _ hx a hlv).2
    exact a.mono (Nat.le_refl _) (by omega) fun _ h=>h
 exact fun i hi=>⟨key i hi,fun x hx hlv=>(step i x _ hx (key i hi) hlv).1⟩
def dropD (S:St) (D:Doc) (keys:List ByteArray):Doc:=D.adds (keys.foldl (dropR (D.rev+1)) (S,[])).2
theorem Good.drop {k:Nat} {S:St} {D:Doc} (h:Good k S D) (hk:k<=70) (keys:List ByteArray) (hl:keys.length<=30):Good (k+1) (dropS S keys) (dropD S D keys):=by
 obtain ⟨a,_⟩:=h.drops hk keys hl keys.length (Nat.le_refl _);have he:dropTo (D.rev+1) S keys keys.length=keys.foldl (dropR (D.rev+1)) (S,[]):=by unfold dropTo;rw [List.take_length]
 rw [he] at a;have hD:=Doc.adds_rev D (keys.foldl (dropR (D.rev+1)) (S,[])).2 _ a.mods;have hr:=h.rev;have hr1:=h.rev1;unfold dropS dropD;rw [hr];by_cases hE:(keys.foldl (dropR (D.rev+1)) (S,[])).2 = []
 · rw [if_pos hE]
   rw [if_pos hE] at hD;exact { cpl:=a.cpl,doc:=a.doc.mono (by omega),ok:=a.ok.mono (by omega),size:=by have:=a.size;omega,srt:=a.srt,more:=a.more.mono (by omega),rev:=by rw [a.srev,hD],rev1:=by rw [hD];omega }
 rw [if_neg hE]
 rw [if_neg hE] at hD;have hm0:=h.cpl.m0;exact { cpl:=a.cpl.setRev _,doc:=a.doc.mono (by omega),ok:=(a.ok.mono (by omega)).setRev _ (by unfold top;omega) (by unfold top;omega),size:=by have:=a.size;dsimp only;omega,srt:=a.srt,more:=fun i H hi=>a.more.mono (by omega) i H hi,rev:=hD.symm,rev1:=by rw [hD];omega }
set_option maxRecDepth 100000
def goneK (H:Hist) (rev r:Int):Prop:=H.kvs r≠none/\r<=rev/\r≠(atK H.gens rev).1.2.1
theorem zke {α:Type} [DecidableEq α]:∀ (a b:List α),a.Nodup->(∀ x∈a,x∈b)->a.length<=b.length
 | [],_,_,_=>by simp
 | x :: a,b,hn,hs=>by
   have hx:=hs x (by simp);obtain ⟨h1,h2⟩:=List.nodup_cons.1 hn;have h3:=zke a (b.erase x) h2 fun y hy=>(List.mem_erase_of_ne (fun e=>h1 (by rw [<-e];exact hy))).2 (hs y (by simp [hy]));have h4:=List.length_erase_of_mem hx;have h5:0 < b.length:=List.length_pos_of_mem hx;simp only [List.length_cons];omega
theorem zur (es:Array MapEntry):(leftOf es #[]).size=es.size:=by
 unfold leftOf;rw [Array.filter_eq_self.2 (fun x _=>by simp)]
theorem znb {W wr w2:World} (hF:Fr No W wr) (hw2:w2=wr\/w2=wr.drew) (o:Obj):Fr No W (ChangeMaps.setBlock w2 W.heap.size o):=by
 have hF2:Fr No W w2:=by 
  rcases hw2 with rfl | rfl
  · exact hF
  exact hF.drew
 exact ⟨hF2.os,hF2.tape,hF2.output,by have:=hF2.size;simpa [ChangeMaps.setBlock] using this,fun k hk hS=>(zgn w2 _ k _ (by omega)).trans (hF2.block k hk hS)⟩
theorem zrz {es:Array MapEntry} {seen:Array Nat} {e:MapEntry} (hnd:(es.toList.map (·.born)).Nodup) (he:e∈es.toList) {P:MapEntry->Prop} (h:∀ x∈es.toList,seen.contains x.born=true->P x) (hP:P e) :
 ∀ x∈es.toList,(seen.push e.born).contains x.born=true->P x:=by
 intro x hx hc;rw [contains_push,Bool.or_eq_true] at hc;rcases hc with hc | hc
 · exact h x hx hc
 have hb:x.born=e.born:=by simpa using hc
 have:x=e:=by
  obtain ⟨i,hi⟩:=List.mem_iff_getElem?.1 hx;obtain ⟨j,hj⟩:=List.mem_iff_getElem?.1 he;have hil:=(List.getElem?_eq_some_iff.1 hi).1;have h1:(es.toList.map (·.born))[i]? = (es.toList.map (·.born))[j]?:=(by rw [List.getElem?_map,List.getElem?_map,hi,hj];simp [hb]);have:=(List.getElem?_inj (by simpa using hil) hnd).1 h1;subst this;rw [hi] at hj;exact Option.some.inj hj
 rw [this];exact hP
theorem zsu {es:Array MapEntry} {seen:Array Nat} (h:(leftOf es seen).size=0):∀ x∈es.toList,seen.contains x.born=true:=by
 intro x hx
 cases hc:seen.contains x.born with
 | true=>rfl
 | false =>
   have hm:x∈leftOf es seen:=Array.mem_filter.2 ⟨by simpa using hx,by rw [hc];rfl⟩;have:=Array.size_pos_of_mem hm;omega
set_option maxHeartbeats 4000000 in
theorem zki (w:World) (h:Nat) (H:Hist) (rev:Int) (F:Nat->Prop) (hh:HistAt w h H F) (hK:Fits H.gens) (hl:∃ l:List Int,l.length<=1099511627/\∀ r,H.kvs r≠none->r∈l) :
 Calls Tryz.prog 104 #[.pointer (some ⟨h,0,none⟩),.int .i64 rev] w fun e w'=>∃ v out,e = .returned v/\SlF w' 3 1 int1 v out/\Fr No w w'/\(∀ b,v.ownBlock=some b->w.heap.size<=b)/\(∀ r,r∈out ↔ goneK H rev r):=by
 obtain ⟨g,m,FK,a,hF⟩:=hh;have hat:=fun W (hW:Fr No w W)=>zpw W g H.gens H.last rev FK (a.key.fr hW fun _ _ h=>h) hK
 unfold zhr seenV at hat;have c0:=a.obj.cell 0 rfl;have c1:=a.obj.cell 1 rfl;have lh:=a.obj.lt;obtain ⟨es,clock,hb,hst,hk1,hk2⟩:=a.map;have hgk:∀ r,goneK H rev r ↔ H.kvs r≠none/\r<=rev/\r≠(atK H.gens rev).1.2.1:=fun r=>Iff.rfl
 have hes:es.size<=1099511627:=by
  obtain ⟨l,hl1,hl2⟩:=hl
  have:=by
   classical
   exact zke (es.toList.map (·.key)) (l.map (Value.int .i64)) hst.2.2 fun x hx=>by
    obtain ⟨e,he,rfl⟩:=List.mem_map.1 hx;obtain ⟨n,h1,_,h2⟩:=hk1 e he;exact List.mem_map.2 ⟨n,hl2 n (fun h0=>by simp [h0] at h2),h1.symm⟩
  simp only [List.length_map,Array.length_toList] at this;omega
 generalize atK H.gens rev=sn at *;obtain ⟨⟨q1,q2,q3⟩,qb⟩:=sn;dsimp only at hat hgk
 have HAT:=H_ hat;have HGK:=H_ hgk;have HB:=H_ hb;have HST:=H_ hst;have HK1:=H_ hk1;have HK2:=H_ hk2;clear hat hgk a hF hK hb hst hk1 hk2 hl;go_enter Tryz.func104,Tryz.ntmps104;go_upto_region 3 with (go_at_call 115;refine (HAT.out _ (Fr.refl No w)).mono ?_;rintro e w1 ⟨rfl,hf1⟩);have hbs:((w1.alloc (Obj.cells #[.int .i64 q1,.int .i64 q2,.int .i64 q3] 190))).heap[w1.heap.size]? = some (.cells #[.int .i64 q1,.int .i64 q2,.int .i64 q3] 190 (0,0)):=zad _ _ _ rfl;have hfW:Fr No w (w1.alloc (Obj.cells #[.int .i64 q1,.int .i64 q2,.int .i64 q3] 190)):=hf1.alloc _;have hszw:w.heap.size<=w1.heap.size:=hf1.size;generalize w1.alloc (Obj.cells #[.int .i64 q1,.int .i64 q2,.int .i64 q3] 190)=W at hbs hfW ⊢
 have c1W:=hfW.cell0 c1;have lhW:h < W.heap.size:=Nat.lt_of_lt_of_le lh hfW.size;have hbW:=hfW.heap HB.out id;have hrg:=run_range_map (P:=Tryz.prog) W 169 3 99 m es clock Tryz.underlying169 hbW;have HBS:=H_ hbs;have HFW:=H_ hfW;have lbs:=zac hbs;clear hbs hfW hbW hf1 c0 c1;go_wp2
 go_loopg [5] es.size (fun gg s5 wr=>∃ (seen:Array Nat) (k0:Nat) (v:Value) (out:List Int),s5=v/\gg=(leftOf es seen).size/\clock<=k0/\out.length+gg<=es.size/\Hid (wr.heap[W.heap.size]? = some (.mapIter (some m) clock seen k0)) ∧
  Hid (SlF wr 3 1 int1 v out)/\Hid (∀ b,v.ownBlock=some b->W.heap.size < b)/\Hid (∀ r∈out,goneK H rev r)/\Hid (Fr No W wr)/\Hid (∀ x∈es.toList,seen.contains x.born=true->∀ n,x.key = .int .i64 n->goneK H rev n->n∈out))
 case atStart=>exact ⟨#[],clock,_,[],rfl,by rw [zur],Nat.le_refl _,by simp,H_ (heap_alloc_new _ _),H_ (SlF.nil _ _ _ _),H_ (by simp [Value.ownBlock]),H_ (by simp),H_ ((Fr.refl No W).alloc _),H_ (by simp)⟩
 case round =>
  obtain ⟨seen,k0,v,out,rfl,hgg,hk0,hol,HI,HS,HO,HG,HF,HC⟩:=hrel;have hbr:=HF.out.heap (HFW.out.heap HB.out id) id;have hnx:=_root_.Go.run_next_at (P:=Tryz.prog) wr 0 W.heap.size m clock k0 seen es clock HI.out hbr HST.out.1 hk0;rcases hnx with ⟨h0,hrun⟩ | ⟨e,he,w2,hw2,hrun⟩
  · clear hbr
    go_wp2;go_ret
    exact ⟨_,out,rfl,HS.out,HFW.out.trans0 HF.out,fun b hb=>by have:=HO.out b hb;have:=HFW.out.size;omega,fun r=>⟨HG.out r,fun hr=>by
     cases hkv:H.kvs r with
     | none=>exact absurd hkv hr.1
     | some y =>
       obtain ⟨e,he,he1,_⟩:=HK2.out r (kvV y) (by simp [hkv]);exact HC.out e he (zsu h0 e he) r he1 hr⟩⟩
  obtain ⟨he1,he2⟩:=mem_left he
  obtain ⟨n,hkey,hwf,hval⟩:=HK1.out e he1;have hsh:=left_shrinks es seen e he;have hsn:=fun (out':List Int) (h1:∀ m∈out,m∈out') (h2:goneK H rev n->n∈out')=>zrz (P:=fun x=>∀ m,x.key = .int .i64 m->goneK H rev m->m∈out') HST.out.2.1 he1 (fun x hx hc m hm hg=>h1 m (HC.out x hx hc m hm hg)) (fun m hm hg=>by rw [hkey] at hm;cases hm;exact h2 hg);have HSN:=H_ hsn;clear hsn;have hlr:W.heap.size < wr.heap.size:=zac HI.out;have hlw:W.heap.size < w2.heap.size:=(by rcases hw2 with rfl | rfl <;> exact hlr);have hf3:=znb HF.out hw2 (.mapIter (some m) clock (seen.push e.born) clock);have hi3:=zrx w2 W.heap.size (.mapIter (some m) clock (seen.push e.born) clock) hlw
  have hso:∀ k,k≠W.heap.size->(ChangeMaps.setBlock w2 W.heap.size (.mapIter (some m) clock (seen.push e.born) clock)).heap[k]? = wr.heap[k]?:=fun k hk=>(zgn w2 _ k _ hk).trans (by rcases hw2 with rfl | rfl <;> rfl);have hsz3:(ChangeMaps.setBlock w2 W.heap.size (.mapIter (some m) clock (seen.push e.born) clock)).heap.size=wr.heap.size:=(by rcases hw2 with rfl | rfl <;> simp [ChangeMaps.setBlock])
  have hfr3:Fr (fun b=>b=W.heap.size) wr (ChangeMaps.setBlock w2 W.heap.size (.mapIter (some m) clock (seen.push e.born) clock)):=by
   rcases hw2 with rfl | rfl
   · exact ⟨rfl,rfl,rfl,Nat.le_of_eq hsz3.symm,fun k _ hk=>hso k hk⟩
   exact ⟨rfl,rfl,rfl,Nat.le_of_eq hsz3.symm,fun k _ hk=>hso k hk⟩
  have hb3:=hf3.heap (HFW.out.heap HB.out id) id;have hent:=run_entry_at (P:=Tryz.prog) _ W.heap.size m clock seen es clock e hi3 hb3 he1 HST.out.2.1
  have hs3:SlF (ChangeMaps.setBlock w2 W.heap.size (.mapIter (some m) clock (seen.push e.born) clock)) 3 1 int1 u5 out:=HS.out.fr hfr3 fun b hb e'=>by
   have e'':b=W.heap.size:=e';have:=HO.out b hb;omega
  have hbs3:=hf3.heap HBS.out id;rw [hkey] at hrun hent;have hnn:H.kvs n≠none:=fun h0=>by simp [h0] at hval
  generalize ChangeMaps.setBlock w2 W.heap.size (.mapIter (some m) clock (seen.push e.born) clock)=W3 at *;have y1:W3.cell? ⟨w1.heap.size,1,none⟩=some (.int .i64 q2):=cellAt hbs3 1 rfl;have ly:=zac hbs3;have HF3:=H_ hf3;have HI3:=H_ hi3;have HS3:=H_ hs3;have HSH:=H_ hsh;have HNN:=H_ hnn;have hW3:W.heap.size<=W3.heap.size:=hf3.size;obtain ⟨i0,hi0,hz0,hz1,hz2⟩:=info_parts info3;have hol2:out.length<=1099511627:=(by omega);generalize hgs:(leftOf es (seen.push e.born)).size=gs at *;have HGS:=H_ hgs;clear hf3 hi3 hs3 hsh hnn hbs3 hb3 hso hsz3 hfr3 hbr he he1 he2 hkey hwf hval hw2 hlw hlr hgs;by_cases t1:n<=rev
  · by_cases t2:n=q2
    · subst t2
      go_wp2;go_roundg gs
      case rel=>exact ⟨seen.push e.born,clock,u5,out,rfl,HGS.out.symm,Nat.le_refl _,by have:=HSH.out;omega,HI3,HS3,HO,HG,HF3,H_ (HSN.out out (fun _ h=>h) fun hg=>absurd rfl ((HGK.out _).1 hg).2.2)⟩
      case measure=>have:=HSH.out;omega
    have t2':(n != q2)=true:=by simpa using t2
    have hnew:=zay W3 [.int .i64 n] 3 (0,0);go_wp2_with (at_builtin;go_loud (refine zas rfl _ _ 76 rfl 3 i0 _ 1 8 Tryz.underlying76 hi0 hz0 hz1 hz2 rfl (by decide) _ out rfl (HS3.out.alloc _) W3.heap.size 1 n rfl hnew rfl ?c1 ?c2 ?c3 ?_))
    case c1=>intro u hu;simp [int1] at hu;subst hu;rfl
    case c2=>unfold maxLen;omega
    case c3=>omega
    intro g7 o7 cap7 w6 hs6 hg6 hb6 hlt6;have hf6:Fr (fun b=>u5.ownBlock=some b) (W3.alloc (Obj.cells [.int .i64 n].toArray 3)) w6:=(Fr.refl _ _).grown hg6 fun k hk=>.inl hk;have hf36:Fr (fun b=>u5.ownBlock=some b) W3 w6:=((Fr.refl _ W3).alloc _).trans hf6 fun _ _ h=>h;have hi6:=hf36.heap HI3.out (fun h=>by have:=HO.out _ h;omega);have hF6:Fr No W w6:=HF3.out.trans hf36 fun b hb h=>by have:=HO.out b h;omega
    have HI6:=H_ hi6;have HF6:=H_ hF6;have HS6:=H_ hs6;have hgn:goneK H rev n:=(HGK.out n).2 ⟨HNN.out,t1,t2⟩;have HGN:=H_ hgn
    have ho6:∀ b,(Value.slice (some ⟨g7,o7,none⟩) (out.length+1) cap7).ownBlock=some b->W.heap.size < b:=fun b hb=>by
     obtain rfl:g7=b:=by simpa [Value.ownBlock] using hb
     rcases hb6 with h | h
     · exact HO.out _ h
     have h':g7=W3.heap.size+1:=by simpa using h
     omega
    have HO6:=H_ ho6;clear hf6 hf36 hi6 hF6 hs6 hgn ho6 hg6 hb6;go_wp2;go_roundg gs
    case rel=>exact ⟨seen.push e.born,clock,_,out++[n],rfl,HGS.out.symm,Nat.le_refl _,by have:=HSH.out;simp;omega,HI6,H_ (by simpa using HS6.out),HO6,H_ (fun r hr=>by
     rcases List.mem_append.1 hr with h | h
     · exact HG.out r h
     rw [List.mem_singleton.1 h];exact HGN.out),HF6,H_ (HSN.out (out++[n]) (fun m h=>List.mem_append_left _ h) fun _=>by simp)⟩
    case measure=>have:=HSH.out;omega
  have t1':¬ n<=rev:=t1
  go_wp2;go_roundg gs
  case rel=>exact ⟨seen.push e.born,clock,u5,out,rfl,HGS.out.symm,Nat.le_refl _,by have:=HSH.out;omega,HI3,HS3,HO,HG,HF3,H_ (HSN.out out (fun _ h=>h) fun hg=>by have h1:=((HGK.out _).1 hg).2.1;omega)⟩
  case measure=>have:=HSH.out;omega
theorem zmi (a:ByteArray):klt a ⟨#[]⟩=false:=by
 rw [Bool.eq_false_iff];intro h;have:=zdc.1 h;exact absurd this (by simp)
theorem zgp (T:Pairs):rangeT T ⟨#[]⟩ ⟨#[]⟩=T:=by
 unfold rangeT;rw [List.filter_eq_self];intro q _;rw [zmi,show (⟨#[]⟩:ByteArray).toList.isEmpty=true from by rw [Lib.toList_data];rfl]
 rfl
end Go.Proofs.YthljnnjpmdgkoaaGreat