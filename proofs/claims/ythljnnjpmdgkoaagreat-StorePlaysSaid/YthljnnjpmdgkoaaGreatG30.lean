/- Own lemmas and contracts that the claim's proof needs, laid together. The conditions stand in each. -/
import Derived.Test.YthljnnjpmdgkoaaGreatG26
import Derived.Test.YthljnnjpmdgkoaaGreatG29
import Derived.Test.YthljnnjpmdgkoaaGreatG27
import Derived.Test.YthljnnjpmdgkoaaGreatG16
import Derived.Test.YthljnnjpmdgkoaaGreatG18
import Derived.Test.YthljnnjpmdgkoaaGreatG06
import Derived.Test.YthljnnjpmdgkoaaGreatG24
namespace Go.Proofs.YthljnnjpmdgkoaaGreat
open Go Go.Proofs Go.RowKit
set_option maxRecDepth 100000
theorem zgf {k:Nat} {S:St} {D:Doc} (h:Good k S D) (hk:k<=40) {ops:List Opr} (hks:∀ o∈ops,o.rg.key.size<=1099511627776) (hc:checkE ops=0) (hw:zax D ops=0) :
 (∀ i o,ops[i]? = some o->StepD (runD D (ops.take i)) o)/\(runD D ops).E.length<=1000000:=by
 have hl:=(zde hc).1;have hw':whenAll S ops=0:=(h.whenAll ops).trans hw
 have key:∀ i≤ ops.length,KSorted (runD D (ops.take i)).now/\(runD D (ops.take i)).now.length<=1000000/\(runD D (ops.take i)).E.length<=1000000/\(runD D (ops.take i)).A.length<=1000000/\∀ key,0<=(wasL (runD D (ops.take i)).now key).version/\(wasL (runD D (ops.take i)).now key).version<=1099511627776:=by
  intro i hi;obtain ⟨q1,q2,q3⟩:=h.runD (by omega) hc hw' hks i hi;obtain ⟨⟨hr,hA⟩,_⟩:=h.runs (by omega) hc hks i hi;generalize runD D (ops.take i)=q at *;generalize runR (D.rev+1) ⟨S,[],[]⟩ (ops.take i)=r at *;have hks':KSorted (D.adds r.E).kvs:=(by rw [(Doc.adds_parts D r.E).2.1];exact h.cpl.ks);have hmul:i * (16 * k+17)<=16 * (16 * k+17):=Nat.mul_le_mul_right _ (by omega)
  have hev:(D.adds r.E).events.length<=820000:=by
   have h1:=hr.ok.ev;rw [hr.cpl.events] at h1;omega
  have hkv:(D.adds r.E).kvs.length<=16 * k:=by
   rw [(Doc.adds_parts D r.E).2.1];have h1:=h.size;rw [<-zch h];unfold zam;exact Nat.le_trans (List.length_filterMap_le _ _) (by omega)
  have hE:r.E.length<=820000:=by
   rw [(Doc.adds_parts D r.E).2.2,List.length_append] at hev;omega
  refine ⟨by rw [q1];exact Doc.at_sorted hks' _,?_,by rw [q3];omega,by rw [q2];omega,fun key=>?_⟩
  · rw [q1,<-zeq]
    have:=zep (D.adds r.E) (D.rev+1) (D.adds r.E).events.length;omega
  unfold wasL
  rw [q1];have:=hr.doc.ver_has hks' (D.rev+1) key;omega
 refine ⟨fun i o ho=>?_,?_⟩
 · have hil:=(List.getElem?_eq_some_iff.1 ho).1
   obtain ⟨a,b,c,d,e⟩:=key i (by omega);exact ⟨a,b,c,d,e _,(zde hc).2.1 o (List.mem_of_getElem? ho)⟩
 have:=(key ops.length (Nat.le_refl _)).2.2.1
 rwa [List.take_length] at this
set_option maxHeartbeats 8000000 in
theorem zlb {TA:zaq} (hT:TreeOk TA 1000000) (_hTD:TreeDl TA) {k:Nat} {S:St} {D:Doc} (h:Good k S D) (hk:k<=40) (w:World) (s:Nat) (F:Nat->Prop) (hS:zal TA w s S F) (q:CalQ) (hq:fewCal q=true)
 (ha:SlR w 10 opC q.1.ops q.2.1) (hb:SlR w 1 strC q.1.keys q.2.2) (haF:0 < q.2.1.length->∀ b,q.1.ops.ownBlock=some b->¬ F b) (_hbF:0 < q.2.2.length->∀ b,q.1.keys.ownBlock=some b->¬ F b)
 (a1 a2:Option Addr) (k1 k2:Nat) (hD:DocR w D (.slice a1 D.kvs.length k1) (.slice a2 D.events.length k2)) (hDF:(0 < D.kvs.length->∀ b,(Value.slice a1 D.kvs.length k1).ownBlock=some b->¬ F b)/\(0 < D.events.length->∀ b,(Value.slice a2 D.events.length k2).ownBlock=some b->¬ F b))
 (hk4:¬ kindN q.1.kind=4) (hk5:¬ kindN q.1.kind=5) (hk6:¬ kindN q.1.kind=6) (hk7:¬ kindN q.1.kind=7) :
 Calls Tryz.prog 18 #[.pointer (some ⟨s,0,none⟩),docV D (.slice a1 D.kvs.length k1) (.slice a2 D.events.length k2),.agg (calC q).toArray] w (zhk TA (doT S q) (doD S D q) s F w):=by
 obtain ⟨f1,f2,f3,f4,f5⟩:=zdt hq;have hkd:=fun W=>zdx W q;have hlt:=hS.lt hT
 have hlen:D.kvs.length+D.events.length<=10000000:=by
  have hev:D.events.length<=20000 * k:=(by have:=h.ok.ev;rw [<-h.cpl.events];omega)
  have hkl:D.kvs.length<=16 * k:=by
   have h1:=h.size;rw [<-zch h];unfold zam;exact Nat.le_trans (List.length_filterMap_le _ _) (by omega)
  omega
 have hdr:∀ W,Fr F w W->DocR W D (.slice a1 D.kvs.length k1) (.slice a2 D.events.length k2):=fun W hW=>⟨hD.kvs.frp hW hDF.1,hD.evs.frp hW hDF.2⟩;obtain ⟨oa,ocap,hos,_,_,_⟩:=ha.shape;obtain ⟨ka,kcap,hksx,_,_,_⟩:=hb.shape;have hks:∀ o∈q.2.1,o.rg.key.size<=1099511627776:=fun o ho=>by have:=(f1 o ho).1;omega
 obtain ⟨e1,e2⟩:=h.applyDoc (by omega) hks;have hdT:doT S q=if applyE S q.2.1=0 then applyS S q.2.1 else S:=by unfold doT;rw [if_neg hk4,if_neg hk5,if_neg hk6,if_neg hk7]
 have hdD:doD S D q=zdk D q.2.1:=by
  unfold doD;rw [if_neg hk4,if_neg hk5,if_neg hk6,if_neg hk7];by_cases h0:applyE S q.2.1=0
  · rw [if_pos h0,(e2 h0).2.2]
  rw [if_neg h0]
  unfold zdk;rw [if_neg (by rw [<-e1];exact h0)]
 have c37:=fun W (h1:Fr No w W)=>zfn hT h (by omega) W s F (hS.fr0 hT h1) q.1.ops q.2.1 (ha.fr0 h1) haF f2 fun o ho=>(f1 o ho).1;have hr1:=h.rev1;have hm0:=h.cpl.m0
 have hlk:D.kvs.length+D.events.length<=1000000:=by
  have hev:D.events.length<=20000 * k:=(by have:=h.ok.ev;rw [<-h.cpl.events];omega)
  have hkl:D.kvs.length<=16 * k:=by
   have h1:=h.size;rw [<-zch h];unfold zam;exact Nat.le_trans (List.length_filterMap_le _ _) (by omega)
  omega
 have c59:=fun W (h1:Fr F w W) hv=>zjv W D a1 a2 k1 k2 (hdr W h1) h.cpl.ks hlk (by omega) q.1.ops q.2.1 hv (by omega) hks (fun hc hw=>(zgf h hk hks hc hw).1) (fun hc hw=>(zgf h hk hks hc hw).2);unfold zui ApplyX at c59
 have hA:(if applyE S q.2.1=0 then (runR (S.rev+1) ⟨S,[],[]⟩ q.2.1).A else [])=(if zaz D q.2.1=0 then (runD D q.2.1).A else []):=by
  by_cases h0:applyE S q.2.1=0
  · rw [if_pos h0,if_pos (by rw [<-e1];exact h0),(e2 h0).1]
  rw [if_neg h0,if_neg (by rw [<-e1];exact h0)]
 have hE:(if applyE S q.2.1=0 then (runR (S.rev+1) ⟨S,[],[]⟩ q.2.1).E else [])=(if zaz D q.2.1=0 then (runD D q.2.1).E else []):=by
  by_cases h0:applyE S q.2.1=0
  · rw [if_pos h0,if_pos (by rw [<-e1];exact h0),(e2 h0).2.1]
  rw [if_neg h0,if_neg (by rw [<-e1];exact h0)]
 have hal:(if zaz D q.2.1=0 then (runD D q.2.1).E else []).length<=1000000:=by
  split
  · rename_i h0
    rw [<-e1] at h0;obtain ⟨z1,z2⟩:=zcg h0;exact (zgf h hk hks z1 ((h.whenAll q.2.1).symm.trans z2)).2
  exact Nat.zero_le _
 have hal2:(if zaz D q.2.1=0 then (runD D q.2.1).A else []).length<=1000000:=by
  rw [<-hA]
  split
  · rename_i h0
    have hrr:=h.rev;obtain ⟨z1,z2⟩:=zcg h0;obtain ⟨⟨_,hr⟩,_⟩:=h.runs (by omega) z1 hks q.2.1.length (Nat.le_refl _);rw [List.take_length] at hr;rw [hrr,hr];omega
  exact Nat.zero_le _
 rw [hA,hE,e1] at c37;rw [e1] at hdT;have hbk:=fun W (h1:Fr F w W)=>ha.frp h1 haF;rw [hdT,hdD];generalize zdk D q.2.1=CD at *;generalize (if zaz D q.2.1=0 then applyS S q.2.1 else S)=ST at *;generalize (if zaz D q.2.1=0 then (runD D q.2.1).E else [])=L at *;generalize (if zaz D q.2.1=0 then (runD D q.2.1).A else [])=A at *;generalize zaz D q.2.1=er at *;have HD0:=H_ hD;have H37:=H_ c37;have H59:=H_ c59;have HBK:=H_ hbk;clear c37 c59 hbk e1 e2 hA hE hdT hdD hks hlk ha hb haF _hbF hq f1 f2 f3 f4 f5 h hk hS _hTD;obtain ⟨⟨p1,p2,⟨g1,g2,g3,g4,g5,g6,g7⟩,p3,p4,p5⟩,ops,keys⟩:=q;dsimp only at *;subst hos hksx;unfold calC rgC docV at *;dsimp only at *;generalize kindN p1=kd at *
 have hb1:(((w.alloc (Obj.cells #[.int .i64 D.rev,.int .i64 D.mark,.slice a1 D.kvs.length k1,.slice a2 D.events.length k2] 30)).alloc (Obj.cells #[.int .i64 p1,.slice oa ops.length ocap,.string g1,.string g2,.int .i64 g3,.int .i64 g4,.bool g5,.bool g6,.bool g7,.int .i64 p3,.int .i64 p4,.slice ka keys.length kcap] 38)).alloc (Obj.cells #[.int .i64 0,.int .i64 0,.slice none 0 0,.slice none 0 0] 30)).heap[w.heap.size]? = some (Obj.cells #[.int .i64 D.rev,.int .i64 D.mark,.slice a1 D.kvs.length k1,.slice a2 D.events.length k2] 30 (0,0)):=zaj (zaj (zad w _ _ rfl) _) _
 have hb2:(((w.alloc (Obj.cells #[.int .i64 D.rev,.int .i64 D.mark,.slice a1 D.kvs.length k1,.slice a2 D.events.length k2] 30)).alloc (Obj.cells #[.int .i64 p1,.slice oa ops.length ocap,.string g1,.string g2,.int .i64 g3,.int .i64 g4,.bool g5,.bool g6,.bool g7,.int .i64 p3,.int .i64 p4,.slice ka keys.length kcap] 38)).alloc (Obj.cells #[.int .i64 0,.int .i64 0,.slice none 0 0,.slice none 0 0] 30)).heap[w.heap.size+1]? = some (Obj.cells #[.int .i64 p1,.slice oa ops.length ocap,.string g1,.string g2,.int .i64 g3,.int .i64 g4,.bool g5,.bool g6,.bool g7,.int .i64 p3,.int .i64 p4,.slice ka keys.length kcap] 38 (0,0)):=zaj (zad _ _ _ (by simp)) _
 have hb3:(((w.alloc (Obj.cells #[.int .i64 D.rev,.int .i64 D.mark,.slice a1 D.kvs.length k1,.slice a2 D.events.length k2] 30)).alloc (Obj.cells #[.int .i64 p1,.slice oa ops.length ocap,.string g1,.string g2,.int .i64 g3,.int .i64 g4,.bool g5,.bool g6,.bool g7,.int .i64 p3,.int .i64 p4,.slice ka keys.length kcap] 38)).alloc (Obj.cells #[.int .i64 0,.int .i64 0,.slice none 0 0,.slice none 0 0] 30)).heap[w.heap.size+2]? = some (Obj.cells #[.int .i64 0,.int .i64 0,.slice none 0 0,.slice none 0 0] 30 (0,0)):=zad _ _ _ (by simp)
 have hf3:Fr No w (((w.alloc (Obj.cells #[.int .i64 D.rev,.int .i64 D.mark,.slice a1 D.kvs.length k1,.slice a2 D.events.length k2] 30)).alloc (Obj.cells #[.int .i64 p1,.slice oa ops.length ocap,.string g1,.string g2,.int .i64 g3,.int .i64 g4,.bool g5,.bool g6,.bool g7,.int .i64 p3,.int .i64 p4,.slice ka keys.length kcap] 38)).alloc (Obj.cells #[.int .i64 0,.int .i64 0,.slice none 0 0,.slice none 0 0] 30)):=(((Fr.refl No w).alloc _).alloc _).alloc _;have HB1:=H_ hb1;have HB2:=H_ hb2;have HB3:=H_ hb3;have HF3:=H_ hf3;have HKD:=H_ hkd;have HLT:=H_ hlt;have HDR:=H_ hdr;have HDF:=H_ hDF;clear hb1 hb2 hb3 hf3 hkd hlt hdr hDF hD;go_enter Tryz.func18,Tryz.ntmps18;go_upto_region 1 with fail
 generalize ((w.alloc (Obj.cells #[.int .i64 D.rev,.int .i64 D.mark,.slice a1 D.kvs.length k1,.slice a2 D.events.length k2] 30)).alloc (Obj.cells #[.int .i64 p1,.slice oa ops.length ocap,.string g1,.string g2,.int .i64 g3,.int .i64 g4,.bool g5,.bool g6,.bool g7,.int .i64 p3,.int .i64 p4,.slice ka keys.length kcap] 38)).alloc (Obj.cells #[.int .i64 0,.int .i64 0,.slice none 0 0,.slice none 0 0] 30)=W3 at *;generalize hrb:w.heap.size+2=rb at *;generalize hcb:w.heap.size+1=cb at *;generalize hdb:w.heap.size=db at *;have hnF:∀ b,db<=b->¬ F b:=fun b hb hF=>by have:=HLT.out b hF;omega
 have HNF:=H_ hnF;have HS:=H_ (fun W (hW:Fr F W3 W)=>cells4 (hW.heap HB1.out (HNF.out db (by omega))));have HC:=H_ (fun W (hW:Fr F W3 W)=>cells12 (hW.heap HB2.out (HNF.out cb (by omega))));have HR:Hid (∀ W,Fr F W3 W->W.heap[rb]? = some (Obj.cells #[.int .i64 0,.int .i64 0,.slice none 0 0,.slice none 0 0] 30 (0,0))):=H_ (fun W hW=>hW.heap HB3.out (HNF.out rb (by omega)));have hlr:rb < W3.heap.size:=zac HB3.out;have hlc:cb < W3.heap.size:=zac HB2.out;have hld:db < W3.heap.size:=zac HB1.out;obtain ⟨x0,x1,x2,x3,x4,x5,x6,x7,x8,x9,x10,x11⟩:=HC.out W3 (Fr.refl F W3);clear hnF;have hk4b:(kd == 4)=false:=beq_eq_false_iff_ne.2 hk4;have hk5b:(kd == 5)=false:=beq_eq_false_iff_ne.2 hk5;have hk6b:(kd == 6)=false:=beq_eq_false_iff_ne.2 hk6;have hk7b:(kd == 7)=false:=beq_eq_false_iff_ne.2 hk7
 go_upto_region 20 with (first
  | (go_at_call 52;refine (HKD.out _).mono ?_;rintro e w4 ⟨rfl,h4⟩
     have g4':Fr F W3 w4:=h4.mono fun _ _ h=>h.elim;clear x0 x1 x2 x3 x4 x5 x6 x7 x8 x9 x10 x11;obtain ⟨x0,x1,x2,x3,x4,x5,x6,x7,x8,x9,x10,x11⟩:=HC.out w4 g4';obtain ⟨d0,d1,d2,d3⟩:=HS.out w4 g4';have ld:=World.block_lt_of_cell? _ _ d0;have lc:=World.block_lt_of_cell? _ _ x0;have HF4:=H_ (HF3.out.trans0 h4);have G4:=H_ g4';clear h4 g4')
  | (go_at_call 37;refine (H37.out _ HF4.out).mono ?_;rintro e w5 ⟨av,ev,rfl,F5,Z1,hs5,hz1,he1,hv5,h5,hn5⟩
     have g5':=G4.out.trans h5 fun _ _ h=>h;clear x0 x1 x2 x3 x4 x5 x6 x7 x8 x9 x10 x11 d0 d1 d2 d3 ld lc;obtain ⟨x0,x1,x2,x3,x4,x5,x6,x7,x8,x9,x10,x11⟩:=HC.out w5 g5';obtain ⟨d0,d1,d2,d3⟩:=HS.out w5 g5';have ld:=World.block_lt_of_cell? _ _ d0;have lc:=World.block_lt_of_cell? _ _ x0;have G5:=H_ g5';have H5:=H_ h5;have HS5:=H_ hs5;have HN5:=H_ hn5;have HEV:=H_ hv5;have HZA:=H_ hz1;have HE1:=H_ he1;clear h5 g5' hs5 hn5 hv5 hz1 he1)
  | (go_at_call 59;refine (H59.out _ ((HF4.out.mono fun _ _ h=>h.elim:Fr F w w4).trans H5.out fun _ _ h=>h) (HBK.out _ ((HF4.out.mono fun _ _ h=>h.elim:Fr F w w4).trans H5.out fun _ _ h=>h))).mono ?_;rintro e w6 ⟨v6,av6,ea,ec,Z2,rfl,hv6,hz6,he6,hs6,h6⟩
     obtain ⟨b1,c1,b2,c2,rfl,hd6,n61,n62⟩:=hv6;have HV6':Hid (DocVN CD w5 D (.slice a1 D.kvs.length k1) (.slice a2 D.events.length k2) w6 (docV CD (.slice b1 CD.kvs.length c1) (.slice b2 CD.events.length c2))):=H_ ⟨b1,c1,b2,c2,rfl,hd6,n61,n62⟩;unfold docV;have H6':=H_ h6;have HL6:=H_ hs6;have HZA6:=H_ hz6;have HE6:=H_ he6;clear x0 x1 x2 x3 x4 x5 x6 x7 x8 x9 x10 x11 d0 d1 d2 d3 ld lc h6 hd6 n61 n62 hs6 hz6 he6))
 have hx7:=zad w6 (Obj.cells #[.int .i64 CD.rev,.int .i64 CD.mark,.slice b1 CD.kvs.length c1,.slice b2 CD.events.length c2] 30) _ rfl;have hf7:Fr No w6 (w6.alloc (Obj.cells #[.int .i64 CD.rev,.int .i64 CD.mark,.slice b1 CD.kvs.length c1,.slice b2 CD.events.length c2] 30)):=(Fr.refl No w6).alloc _;generalize w6.alloc (Obj.cells #[.int .i64 CD.rev,.int .i64 CD.mark,.slice b1 CD.kvs.length c1,.slice b2 CD.events.length c2] 30)=W7 at *;generalize hxb:w6.heap.size=xb at *;have H67:=H_ (H6'.out.trans0 hf7);have HV7:=H_ (HV6'.out.fr0 hf7)
 have hXC:∀ W,Fr No W7 W->W.cell? ⟨xb,0,none⟩=some (.int .i64 CD.rev)/\W.cell? ⟨xb,1,none⟩=some (.int .i64 CD.mark)/\W.cell? ⟨xb,2,none⟩=some (.slice b1 CD.kvs.length c1)/\W.cell? ⟨xb,3,none⟩=some (.slice b2 CD.events.length c2):=fun W hW=>by
  have h1:=hW.heap hx7 id;unfold World.cell?;dsimp only;rw [h1];exact ⟨rfl,rfl,rfl,rfl⟩
 have HXC:=H_ hXC;have b1x:=HXC.out W7 (Fr.refl No W7);have b2x:=HXC.out W7.drew (Fr.refl No W7).drew;have hxr:¬ xb=rb:=fun e=>by have:=G5.out.size;have:=H6'.out.size;have:=zac HB3.out;omega
 have hz1l:Z1.length<=1000000:=by
  have h1:=congrArg List.length HE1.out;rw [List.length_map] at h1;omega
 have hsa:=zhc W7.drew av av6 Z1 Z2 (((HZA.out.fr H67.out fun _ _ h=>h)).fr (Fr.refl No W7).drew fun _ _ h=>h) ((HZA6.out.fr hf7 fun _ _ h=>h).fr (Fr.refl No W7).drew fun _ _ h=>h) (HE1.out.trans HE6.out.symm) (by omega);have hsk:=fun W (hW:Fr No W7 W)=>zca W ev _ L ((HEV.out.toR zab).fr0 (H67.out.trans0 hW)) (HL6.out.fr0 (hf7.trans0 hW)) (by omega);have HSA:=H_ hsa;have HSK:=H_ hsk;clear hsk hsa hf7 hXC hx7
 go_region_held3 (fun W=>W.cell? ⟨xb,0,none⟩=some (.int .i64 CD.rev)/\W.cell? ⟨xb,1,none⟩=some (.int .i64 CD.mark)/\W.cell? ⟨xb,2,none⟩=some (.slice b1 CD.kvs.length c1)/\W.cell? ⟨xb,3,none⟩=some (.slice b2 CD.events.length c2))
  (first | with_reducible exact b1x | with_reducible exact b2x | with_reducible exact b5x | with_reducible exact b3x | with_reducible exact b4x)
  (first
    | (go_at_call 35;(with_reducible refine HSA.out.mono ?_);rintro e w7 ⟨rfl,h7⟩
       have H7:=H_ ((Fr.refl No W7).drew.trans0 h7);have b5x:=HXC.out w7 H7.out;clear h7)
    | (go_at_call 36;(with_reducible refine (HSK.out _ H7.out).mono ?_);rintro e w8 ⟨rfl,h8⟩
       have h78:Fr No W7 w8:=H7.out.trans0 h8;have g8':=(G5.out.trans0 H67.out).trans0 h78;have b3x:=HXC.out w8 h78;have hrr:=HR.out w8 g8';obtain ⟨y0,y1,y2,y3⟩:=cells4 hrr;have yf:∀ j,w8.frozen? ⟨rb,j,none⟩=false:=fun j=>by simp [World.frozen?,hrr]
       have lr:=zac hrr;obtain ⟨Zw,hZ,hz,hzf,hzr⟩:=zba (w:=w) hrr (.int .i64 CD.rev) (.int .i64 CD.mark) (.slice b1 CD.kvs.length c1) (.slice b2 CD.events.length c2);have b4x:=And.intro (hzr.cell b3x.1 hxr) (And.intro (hzr.cell b3x.2.1 hxr) (And.intro (hzr.cell b3x.2.2.1 hxr) (hzr.cell b3x.2.2.2 hxr)));rw [<-hZ] at b4x;have HZ:=H_ hZ;have HZ1:=H_ hz;have HZR:=H_ hzr;have HRR:=H_ hrr;have H6:=H_ (H67.out.trans0 h78);have HV6:=H_ (HV7.out.fr0 h78);clear hZ hz hzf hzr hrr g8' h8 h78))
 go_wp2;rw [HZ.out];refine bodyPost_ret (zbg rfl _ _ rb 30 _ (0,0) _ rfl HZ1.out Tryz.underlying30 rfl (by kernel_rfl)) rfl ?_
 have hrb5:¬ F5 rb:=fun hF=>by
  rcases HN5.out rb hF with h | h
  · exact HNF.out rb (by omega) h
  have:=G4.out.size
  have:=zac HB3.out;omega
 have hz5:Fr (fun j=>j=rb) w5 Zw:=((H6.out.mono fun _ _ h=>h.elim)).trans HZR.out fun _ _ h=>h;have hzw:Fr F w Zw:=((HF4.out.mono fun _ _ h=>h.elim:Fr F w w4).trans H5.out fun _ _ h=>h).trans hz5 fun j hj e=>by have e':j=rb:=e;omega
 have hnew:∀ b,F5 b->F b\/w.heap.size<=b:=fun b hb=>(HN5.out b hb).imp id fun h=>by have:=HF4.out.size;omega
 have hltw:∀ b,0 < D.kvs.length->(Value.slice a1 D.kvs.length k1).ownBlock=some b->b < w.heap.size:=fun b h0 hb=>HD0.out.kvs.lt zae (by decide) h0 b hb;have hltw2:∀ b,0 < D.events.length->(Value.slice a2 D.events.length k2).ownBlock=some b->b < w.heap.size:=fun b h0 hb=>HD0.out.evs.lt zab (by decide) h0 b hb;refine ⟨_,F5,rfl,HS5.out.fr hT hz5 fun b hb e=>hrb5 (by have e':b=rb:=e;rw [<-e'];exact hb),HV6.out.ap HZR.out HRR.out (fun h0 b hb hF=>?_) (fun h0 b hb hF=>?_) (HS5.out.lt hT),hzw,hnew⟩
 · rcases hnew b hF with h | h
   · exact HDF.out.1 h0 b hb h
   have:=hltw b h0 hb;omega
 rcases hnew b hF with h | h
 · exact HDF.out.2 h0 b hb h
 have:=hltw2 b h0 hb;omega
theorem zms {TA:zaq} (hT:TreeOk TA 1000000) (hTD:TreeDl TA) {k:Nat} {S:St} {D:Doc} (h:Good k S D) (hk:k<=40) (w:World) (s:Nat) (F:Nat->Prop) (hS:zal TA w s S F) (q:CalQ) (hq:fewCal q=true)
 (ha:SlR w 10 opC q.1.ops q.2.1) (hb:SlR w 1 strC q.1.keys q.2.2) (haF:0 < q.2.1.length->∀ b,q.1.ops.ownBlock=some b->¬ F b) (hbF:0 < q.2.2.length->∀ b,q.1.keys.ownBlock=some b->¬ F b)
 (a1 a2:Option Addr) (k1 k2:Nat) (hD:DocR w D (.slice a1 D.kvs.length k1) (.slice a2 D.events.length k2)) (hDF:(0 < D.kvs.length->∀ b,(Value.slice a1 D.kvs.length k1).ownBlock=some b->¬ F b)/\(0 < D.events.length->∀ b,(Value.slice a2 D.events.length k2).ownBlock=some b->¬ F b)) :
 Calls Tryz.prog 18 #[.pointer (some ⟨s,0,none⟩),docV D (.slice a1 D.kvs.length k1) (.slice a2 D.events.length k2),.agg (calC q).toArray] w (zhk TA (doT S q) (doD S D q) s F w):=by
 by_cases h4:kindN q.1.kind=4
 · exact zla hT hTD h hk w s F hS q hq ha hb haF hbF a1 a2 k1 k2 hD hDF h4
 by_cases h5:kindN q.1.kind=5
 · exact zkz hT hTD h hk w s F hS q hq ha hb haF hbF a1 a2 k1 k2 hD hDF h5
 by_cases h6:kindN q.1.kind=6
 · exact zky hT hTD h hk w s F hS q hq ha hb haF hbF a1 a2 k1 k2 hD hDF h6
 by_cases h7:kindN q.1.kind=7
 · exact zkx hT hTD h hk w s F hS q hq ha hb haF hbF a1 a2 k1 k2 hD hDF h7
 exact zlb hT hTD h hk w s F hS q hq ha hb haF hbF a1 a2 k1 k2 hD hDF h4 h5 h6 h7
def bCs:ByteArray:=⟨#[99]⟩
def b3s:ByteArray:=⟨#[51]⟩
def opsAs:List Opr:=[putO bA b1,putO bB b2]
def SAs:St:=applyS newS opsAs
def SBs:St:=applyS SAs [putO bA b3s]
def gDescs:Rg:=⟨bA,bCs,0,1,false,false,true⟩
def gOlds:Rg:=⟨bA,ByteArray.empty,1,0,false,false,false⟩
theorem ap_As:applyE newS opsAs=0:=by kernel_rfl
theorem ap_Bs:applyE SAs [putO bA b3s] = 0:=by kernel_rfl
theorem zqq:∃ D,Good 1 SAs D:=⟨_,Good.new.apply (by omega) (zcg ap_As).1 (by decide)⟩
theorem zls:∃ D,Good 2 SBs D:=by
 obtain ⟨D,h⟩:=zqq;exact ⟨_,h.apply (by omega) (zcg ap_Bs).1 (by decide)⟩
theorem zxe:SBs.rev=2:=by kernel_rfl
theorem runs_A:((runR (SAs.rev+1) ⟨SAs,[],[]⟩ [putO bA b3s]).A).map (fun a=>a.count) = [1]:=by kernel_rfl
theorem runs_E:((runR (SAs.rev+1) ⟨SAs,[],[]⟩ [putO bA b3s]).E).map (fun x=>x.prev.value) = [b1]:=by kernel_rfl
theorem zwh:rangeE SBs gDescs=0:=by kernel_rfl
theorem zwg:rangeE SBs gOlds=0:=by kernel_rfl
theorem rngs_1:(getL SBs gDescs SBs.rev).map (·.value) = [b2]:=by kernel_rfl
theorem zwi:(allL SBs gDescs SBs.rev).length=2:=by kernel_rfl
theorem zwj:moreB SBs gDescs SBs.rev=true:=by kernel_rfl
theorem rngs_2:(getL SBs gOlds SBs.rev).map (·.value) = [b1]:=by kernel_rfl
theorem zwy:zbr SBs 2=0:=by kernel_rfl
theorem zmr (w:World) (k v:ByteArray):Calls Tryz.prog 49 #[.string k,.string v] w fun e w'=>e = .returned (opV (putO k v))/\Fr No w w':=by
 go_enter Tryz.func49,Tryz.ntmps49;go_wp2;exact bodyPost_ret (results_cell_row rfl _ _ w.heap.size 94 _ (0,0) _ rfl (zad _ _ _ rfl) Tryz.underlying94 rfl (by kernel_rfl)) rfl ⟨rfl,(Fr.refl No w).alloc _⟩
theorem zuo {W:World} {b:Nat} {o1 o2:Opr} {t:TypeId} (h:W.heap[b]? = some (.cells (opC o1++opC o2).toArray t (0,0))):SlR W 10 opC (.slice (some ⟨b,0,none⟩) 2 2) [o1,o2]:=by
 refine ⟨_,2,rfl,by simp,by decide,fun _=>⟨b,0,rfl,fun i x hx j u hu=>?_⟩⟩;have hj:j < 10:=(List.getElem?_eq_some_iff.1 hu).1;unfold World.cell?;simp only [h,Option.isSome_none,Bool.false_eq_true,if_false,List.getElem?_toArray]
 match i,hx with
 | 0,hx =>
   obtain rfl:o1=x:=by simpa using hx
   simp only [Nat.zero_mul,Nat.zero_add];rw [List.getElem?_append_left (by exact hj)];exact hu
 | 1,hx =>
   obtain rfl:o2=x:=by simpa using hx
   simp only [Nat.one_mul,Nat.zero_add];rw [List.getElem?_append_right (by rw [zaf];omega),zaf,Nat.add_sub_cancel_left];exact hu
 | i+2,hx=>simp at hx
theorem zup {W:World} {b:Nat} {o1:Opr} {t:TypeId} (h:W.heap[b]? = some (.cells (opC o1).toArray t (0,0))):SlR W 10 opC (.slice (some ⟨b,0,none⟩) 1 1) [o1]:=by
 refine ⟨_,1,rfl,by simp,by decide,fun _=>⟨b,0,rfl,fun i x hx j u hu=>?_⟩⟩;have hi:i=0:=by have:=(List.getElem?_eq_some_iff.1 hx).1;simp at this;omega
 subst hi;obtain rfl:o1=x:=by simpa using hx
 unfold World.cell?;simp only [h,Nat.zero_mul,Nat.zero_add,Option.isSome_none,Bool.false_eq_true,if_false];simpa using hu
theorem zwa {TA:zaq} (hT:TreeOk TA 1000000) (W:World) (s p:Nat) (F0:Nat->Prop) (hS:zal TA W s st0 F0) (hp:W.heap[p]? = some (.cells (opC (putO bA b1)++opC (putO bB b2)).toArray 94 (0,0))) (np:¬ F0 p) :
 Calls Tryz.prog 37 #[.pointer (some ⟨s,0,none⟩),.slice (some ⟨p,0,none⟩) 2 2] W fun e w'=>∃ av ev F1,e = .returned (.tuple #[av,ev,.int .i64 0])/\zal TA w' s SAs F1/\Fr F0 W w'/\(∀ b,F1 b->F0 b\/W.heap.size<=b):=by
 have h:=zfn hT Good.new (by omega) W s F0 hS _ opsAs (zuo hp) (fun _ b hb=>by simp [Value.ownBlock] at hb;rw [<-hb];exact np) (by decide) (by decide);rw [ap_As] at h;simp only [if_true] at h;refine h.mono ?_;rintro e w' ⟨av,ev,rfl,F1,Z,h1,h2,h3,h4,h5,h6⟩;exact ⟨av,ev,F1,rfl,h1,h5,h6⟩
theorem zvz {TA:zaq} (hT:TreeOk TA 1000000) (W:World) (s p:Nat) (F0:Nat->Prop) (hS:zal TA W s SAs F0) (hp:W.heap[p]? = some (.cells (opC (putO bA b3s)).toArray 94 (0,0))) (np:¬ F0 p) :
 Calls Tryz.prog 37 #[.pointer (some ⟨s,0,none⟩),.slice (some ⟨p,0,none⟩) 1 1] W fun e w'=>∃ g o cap g' o' cap' F1,e = .returned (.tuple #[.slice (some ⟨g,o,none⟩) 1 cap,.slice (some ⟨g',o',none⟩) 1 cap',.int .i64 0])/\zal TA w' s SBs F1 ∧
  w'.cell? ⟨g,o+2,none⟩=some (.int .i64 1)/\w'.cell? ⟨g',o'+8,none⟩=some (.string b1)/\Fr F0 W w'/\(∀ b,F1 b->F0 b\/W.heap.size<=b):=by
 obtain ⟨D,hG⟩:=zqq;have h:=zfn hT hG (by omega) W s F0 hS _ [putO bA b3s] (zup hp) (fun _ b hb=>by simp [Value.ownBlock] at hb;rw [<-hb];exact np) (by decide) (by decide);rw [ap_Bs] at h;simp only [if_true] at h;refine h.mono ?_;rintro e w' ⟨av,ev,rfl,F1,Z,h1,h2,h3,h4,h5,h6⟩
 have hz:Z.map (fun q=>q.1.count) = [1]:=by
  have e1:=congrArg (List.map fun a:Ans=>a.count) h3;rw [runs_A,List.map_map] at e1;exact e1
 obtain ⟨z,rfl⟩:=List.length_eq_one_iff.1 (show Z.length=1 by have:=congrArg List.length hz;simpa using this);simp only [List.map_cons,List.map_nil,List.cons.injEq,and_true] at hz;obtain ⟨a,cap,rfl,h9,h10,h11⟩:=h2.sl.shape;obtain ⟨g,o,rfl⟩:=h11 (by simp);have hc:=h2.sl.cell zbj 0 2 rfl rfl;rw [hz] at hc;have hE:=runs_E;generalize (runR (SAs.rev+1) ⟨SAs,[],[]⟩ [putO bA b3s]).E=E at h4 hE;obtain ⟨x,rfl⟩:=List.length_eq_one_iff.1 (show E.length=1 by have:=congrArg List.length hE;simpa using this);simp only [List.map_cons,List.map_nil,List.cons.injEq,and_true] at hE;obtain ⟨a',cap',rfl,_,_,h12⟩:=h4.shape;obtain ⟨g',o',rfl⟩:=h12 (by simp);have hd:=h4.cell zab 0 8 rfl rfl;rw [hE] at hd;exact ⟨g,o,cap,g',o',cap',F1,rfl,h1,by simpa using hc,by simpa using hd,h5,h6⟩
theorem zut {TA:zaq} (hT:TreeOk TA 1000000) (W:World) (s:Nat) (F:Nat->Prop) (hS:zal TA W s SBs F) :
 Calls Tryz.prog 46 #[.pointer (some ⟨s,0,none⟩),rgV gDescs] W fun e w'=>∃ g o cap,e = .returned (.tuple #[.slice (some ⟨g,o,none⟩) 1 cap,.int .i64 2,.bool true,.int .i64 0])/\w'.cell? ⟨g,o+1,none⟩=some (.string b2)/\Fr No W w':=by
 obtain ⟨D,hG⟩:=zls;have h:=zfm hT hG (by omega) W s F hS gDescs (by decide);rw [zwh] at h;simp only [if_true,decide_true,Bool.true_and] at h;refine h.mono ?_;rintro e w' ⟨v,rfl,hv,hf,hvn⟩;rw [zwi,zwj];have hL:=rngs_1;generalize getL SBs gDescs SBs.rev=L at hv hL;obtain ⟨x,rfl⟩:=List.length_eq_one_iff.1 (show L.length=1 by have:=congrArg List.length hL;simpa using this);simp only [List.map_cons,List.map_nil,List.cons.injEq,and_true] at hL;obtain ⟨a,cap,rfl,_,_,h1⟩:=hv.shape;obtain ⟨g,o,rfl⟩:=h1 (by simp);have hc:=hv.cell zae 0 1 rfl rfl;rw [hL] at hc;exact ⟨g,o,cap,rfl,by simpa using hc,hf⟩
theorem zus {TA:zaq} (hT:TreeOk TA 1000000) (W:World) (s:Nat) (F:Nat->Prop) (hS:zal TA W s SBs F) :
 Calls Tryz.prog 46 #[.pointer (some ⟨s,0,none⟩),rgV gOlds] W fun e w'=>∃ g o cap m mo,e = .returned (.tuple #[.slice (some ⟨g,o,none⟩) 1 cap,.int .i64 m,.bool mo,.int .i64 0])/\w'.cell? ⟨g,o+1,none⟩=some (.string b1)/\Fr No W w':=by
 obtain ⟨D,hG⟩:=zls;have h:=zfm hT hG (by omega) W s F hS gOlds (by decide);rw [zwg] at h;simp only [if_true,decide_true,Bool.true_and] at h;refine h.mono ?_;rintro e w' ⟨v,rfl,hv,hf,hvn⟩;have hL:=rngs_2;generalize getL SBs gOlds SBs.rev=L at hv hL;obtain ⟨x,rfl⟩:=List.length_eq_one_iff.1 (show L.length=1 by have:=congrArg List.length hL;simpa using this);simp only [List.map_cons,List.map_nil,List.cons.injEq,and_true] at hL;obtain ⟨a,cap,rfl,_,_,h1⟩:=hv.shape;obtain ⟨g,o,rfl⟩:=h1 (by simp);have hc:=hv.cell zae 0 1 rfl rfl;rw [hL] at hc;exact ⟨g,o,cap,_,_,rfl,by simpa using hc,hf⟩
set_option maxHeartbeats 8000000 in
theorem zht {TA:zaq} (hT:TreeOk TA 1000000) (hTD:TreeDl TA) (w:World):Calls Tryz.prog 16 #[] w fun e w'=>e = .returned (.bool true)/\Fr No w w':=by
 have hr1:=fun W s F hS=>zut hT W s F hS;have hr2:=fun W s F hS=>zus hT W s F hS;unfold rgV gDescs bA bCs at hr1;unfold rgV gOlds bA at hr2;unfold b2 at hr1;unfold b1 at hr2;dsimp only at hr1 hr2;have HR1:=H_ hr1;have HR2:=H_ hr2;clear hr1 hr2;go_enter Tryz.func16,Tryz.ntmps16
 go_upto_region 4 with (first
  | (go_at_call 17;refine (zfy hT _).mono ?_;rintro e w1 ⟨s,rfl,F0,hs1,hf1,hn1⟩;have hacc:=Fr.refl No w1)
  | (go_at_call 49;refine (zmr _ _ _).mono ?_;rintro e w2 ⟨rfl,hf2⟩;replace hacc:=hacc.trans0 hf2;unfold opV putO rg0;dsimp only)
  | (go_at_call 37
     refine (zwa hT _ s _ F0 (hs1.fr0 hT (hacc.alloc _)) (zad _ _ _ rfl) (fun h=>by have:=hs1.lt hT _ h;have:=hacc.size;omega)).mono ?_;rintro e w3 ⟨av,ev,F1,rfl,hs3,hf3,hn3⟩;have hw3:Fr No w w3:=((hf1.trans0 hacc).alloc _).trans hf3 fun b hb h=>by have:=hn1 b h;omega
     have hF1:∀ b,F1 b->w.heap.size<=b:=fun b hb=>by
      rcases hn3 b hb with h | h
      · exact hn1 b h
      have h1:=(hf1.trans0 hacc).size
      simp at h;omega
     clear hs1 hf1 hn1 hf2 hf3 hn3 hacc;have hacc:=Fr.refl No w3)
  | (go_at_call 37
     refine (zvz hT _ s _ F1 (hs3.fr0 hT (hacc.alloc _)) (zad _ _ _ rfl) (fun h=>by have:=hs3.lt hT _ h;have:=hacc.size;omega)).mono ?_;rintro e w4 ⟨g,o,cap,g',o',cap',F2,rfl,hs4,hc4,hd4,hf4,hn4⟩;have hw4:Fr No w w4:=((hw3.trans0 hacc).alloc _).trans hf4 fun b hb h=>by have:=hF1 b h;omega
     have hF2:∀ b,F2 b->w.heap.size<=b:=fun b hb=>by
      rcases hn4 b hb with h | h
      · exact hF1 b h
      have h1:=(hw3.trans0 hacc).size
      simp at h;omega
     clear hs3 hf4 hn4 hacc hw3 hF1))
 go_upto_region 5 with (go_at_call 46;refine (HR1.out w4 s F2 hs4).mono ?_;rintro e w5 ⟨g1,o1,cap1,rfl,hc5,hf5⟩);go_upto_region 6 with (go_at_call 46;refine (HR2.out w5 s F2 (hs4.fr0 hT hf5)).mono ?_;rintro e w6 ⟨g2,o2,cap2,m2,mo2,rfl,hc6,hf6⟩);have hs6:=hs4.fr0 hT (hf5.trans0 hf6);have x1:=(hf5.trans0 hf6).cell0 hc4;have x2:=(hf5.trans0 hf6).cell0 hd4;have x3:=hf6.cell0 hc5;have hw6:Fr No w w6:=(hw4.trans0 hf5).trans0 hf6;have l1:=World.block_lt_of_cell? _ _ x1;have l2:=World.block_lt_of_cell? _ _ x2;have l3:=World.block_lt_of_cell? _ _ x3;have l4:=World.block_lt_of_cell? _ _ hc6;obtain ⟨D,hG⟩:=zls;have hcm:=zfz hT hTD hG (by omega) w6 s F2 hs6 2;rw [zwy] at hcm;have HS6:=H_ hs6;have HCM:=H_ hcm;have HF2:=H_ hF2;have HW6:=H_ hw6;clear hs4 hc4 hd4 hc5 hf5 hf6 hw4 hs6 hcm hF2 hw6;unfold b1 at x2
 go_wp2_with (first
  | (go_at_call 19;refine (zfx w6 s SBs F2 HS6.out).mono ?_;rintro e w9 ⟨rfl,rfl⟩;rw [zxe])
  | (go_at_call 50;refine HCM.out.mono ?_;rintro e w10 ⟨rfl,F10,_,hf10,_⟩))
 go_ret;exact ⟨rfl,HW6.out.trans hf10 fun b hb h=>by have:=HF2.out b h;omega⟩
theorem zjm {TA:zaq} (w:World) (s:Nat) (S:St) (F:Nat->Prop) (hS:zal TA w s S F):Calls Tryz.prog 20 #[.pointer (some ⟨s,0,none⟩)] w fun e w'=>e = .returned (.int .i64 S.mark)/\w=w':=by
 obtain ⟨t,p,ev,hp,FT,FH,a,hF⟩:=hS;have c4:=a.obj.cell 4 rfl;have ls:=a.obj.lt;clear a;go_enter Tryz.func20,Tryz.ntmps20;go_wp2;go_ret;exact ⟨rfl,rfl⟩
theorem info198:(Tryz.prog.info? 231).map (fun i=>(i.zero,i.size,i.bytes))=some (some (.agg #[.slice none 0 0,.slice none 0 0]),2,48):=by kernel_rfl
def nz0:Nz:=⟨nd0,.slice none 0 0,.slice none 0 0⟩
theorem takeZ {Z:List Nz}:ndsZ (Z++[nz0])=ndsZ Z++[nd0]:=by unfold ndsZ;simp [nz0]
set_option maxHeartbeats 1000000 in
theorem zsm (w:World) (t:Nat) (A:Arr) (fl:List Nat) (root:Nat) (many:Int) (F:Nat->Prop) (h:TreeZ w t A fl root many F) (hA:A.length<=1099511627) (hl:fl.length<=1099511627) (hne:fl≠[]) :
 Calls Tryz.prog 155 #[.pointer (some ⟨t,0,none⟩)] w fun e w'=>e = .returned (.int .i64 (takeI A fl:Int))/\∃ F',TreeZ w' t (takeA A fl) fl.dropLast root many F'/\Fr F w w'/\∀ b,F' b->F b\/w.heap.size<=b:=by
 obtain ⟨nv,fv,Z,h,rfl,hF⟩:=h;have c1:=h.obj.cell 1 rfl;have f1:=h.obj.free 1;have hpos:0 < fl.length:=List.length_pos_iff.2 hne;obtain ⟨a,cap,rfl,hc1,hc2,ha⟩:=h.free.shape;obtain ⟨fb,fo,rfl⟩:=ha hpos
 have hx:fl[fl.length - 1]? = some (fl.getLast hne):=by
  rw [List.getLast_eq_getElem];exact List.getElem?_eq_getElem _
 have d0:=h.free.cell1 zah (fl.length - 1) hx rfl;have htI:takeI (ndsZ Z) fl=fl.getLast hne:=by unfold takeI;rw [List.getLast?_eq_some_getLast hne];rfl
 have htA:takeA (ndsZ Z) fl=ndsZ Z:=by unfold takeA;rw [if_neg hne]
 have hs:=h.free.take zah (fl.length - 1) (by omega);rw [<-List.dropLast_eq_take] at hs;have hln:fl.dropLast.length=fl.length - 1:=by simp
 have HS:Hid (SlF w 3 1 nat1 (.slice (some ⟨fb,fo,none⟩) (fl.length - 1) cap) fl.dropLast):=H_ hs;have H:=H_ h;have HI:=H_ htI;have HTA:=H_ htA;have HFF:=H_ hF;generalize fl.getLast hne=x at *;have hz0:(0:Int) < (fl.length:Int):=by omega
 have hj1:(0:Int)<=(fl.length:Int) - 1:=by omega
 have hj2:(fl.length:Int) - 1<=(cap:Int):=by omega
 have hj3:((fl.length:Int) - 1).toNat=fl.length - 1:=by omega
 have hj4:(fl.length:Int) - 1 < (fl.length:Int):=by omega
 have hj5:(fl.length:Int)<=1099511627:=by omega
 clear h hs htI htA hF hx ha hln;generalize hN:fl.length=n at *;go_enter Tryz.func155,Tryz.ntmps155;go_wp2;go_ret;have hset:=H.out.setFree (w1:=w) (fl':=fl.dropLast) (fv':=.slice (some ⟨fb,fo,none⟩) (n - 1) cap) (Fr.refl _ w) HS.out (fun b e=>.inl e);obtain ⟨q1,q2,q3⟩:=hset;refine ⟨by rw [HI.out];rfl,_,⟨_,_,Z,q1,HTA.out.symm,fun b=>Iff.rfl⟩,q2.mono fun b _ e=>(HFF.out b).2 ?_,fun b hb=>?_⟩
 · rcases e with e | e
   · exact .inl e
   exact .inr (.inr (.inl e))
 rcases q3 b hb with e | e
 · exact .inl ((HFF.out b).2 e)
 exact .inr e
set_option maxHeartbeats 1000000 in
theorem zsn (w:World) (t:Nat) (A:Arr) (root:Nat) (many:Int) (F:Nat->Prop) (h:TreeZ w t A [] root many F) (hA:A.length<=1099511627) :
 Calls Tryz.prog 155 #[.pointer (some ⟨t,0,none⟩)] w fun e w'=>e = .returned (.int .i64 (takeI A []:Int))/\∃ F',TreeZ w' t (takeA A []) [] root many F'/\Fr F w w'/\∀ b,F' b->F b\/w.heap.size<=b:=by
 obtain ⟨nv,fv,Z,h,rfl,hF⟩:=h;rw [zas] at hA;have c0:=h.obj.cell 0 rfl;have c1:=h.obj.cell 1 rfl;have f0:=h.obj.free 0;obtain ⟨i0,hi0,hz0,hz1,hz2⟩:=info_parts info198;obtain ⟨a,cap,rfl,hc1,hc2,ha⟩:=h.free.shape;have hnew:=zar w [.slice none 0 0,.slice none 0 0] 231 (0,0);have H:=H_ h;have HFF:=H_ hF;have HN:=H_ h.nodes;have hlt:=h.obj.lt;have hnt:¬ nv.ownBlock=some t:=h.a1.1;clear h hF ha;go_enter Tryz.func155,Tryz.ntmps155;go_wp2_with (at_builtin;refine zao rfl _ _ 175 rfl 231 i0 _ 2 48 Tryz.underlying175 hi0 hz0 hz1 hz2 rfl (by decide) nv Z rfl (HN.out.alloc _) w.heap.size 1 nz0 rfl (by simpa [nzC,nz0] using hnew) rfl (by intro u hu;simp [nzC,nz0] at hu;subst hu;rfl) (by unfold maxLen;omega) (by omega) ?_);intro g o cap' w1 hs1 hg1 hb1 hlt1
 have hF1:Fr (fun b=>nv.ownBlock=some b) w w1:=(((Fr.refl _ w).alloc _).grown hg1 fun k hk=>.inl hk);have e0:=hF1.cell c0 hnt;have e1:=hF1.cell c1 hnt;have g0:=hF1.free c0 f0 hnt;have HS1:=H_ hs1;have HB1:=H_ hb1;have HF1:=H_ hF1;clear hs1 hg1 hb1 hF1 c0 c1 f0 hnew;have hj:(0:Int)<=(Z.length:Int):=by omega
 go_wp2;go_ret;have hL:(Z++[nz0]).length=Z.length+1:=by simp
 have hset:=H.out.snoc (w1:=w1) (nv':=.slice (some ⟨g,o,none⟩) (Z.length+1) cap') HF1.out HS1.out fun b e=>by
  obtain rfl:g=b:=by simpa [Value.ownBlock] using e
  rcases HB1.out with e | e
  · exact .inl e
  right;omega
 obtain ⟨q1,q2,q3⟩:=hset;refine ⟨?_,_,⟨_,_,_,q1,by unfold takeA;rw [if_pos rfl];exact takeZ,fun b=>Iff.rfl⟩,q2.mono fun b _ e=>(HFF.out b).2 ?_,fun b hb=>?_⟩
 · unfold takeI
   rw [List.getLast?_nil,zas]
   rfl
 · rcases e with e | e
   · exact .inl e
   exact .inr (.inl e)
 rcases q3 b hb with e | e
 · exact .inl ((HFF.out b).2 e)
 exact .inr e
theorem zke (w:World) (t:Nat) (A:Arr) (fl:List Nat) (root:Nat) (many:Int) (F:Nat->Prop) (h:TreeZ w t A fl root many F) (hA:A.length<=1099511627) (hl:fl.length<=1099511627) :
 Calls Tryz.prog 155 #[.pointer (some ⟨t,0,none⟩)] w fun e w'=>e = .returned (.int .i64 (takeI A fl:Int))/\∃ F',TreeZ w' t (takeA A fl) fl.dropLast root many F'/\Fr F w w'/\∀ b,F' b->F b\/w.heap.size<=b:=by
 by_cases hne:fl = []
 · subst hne;exact zsn w t A root many F h hA
 exact zsm w t A fl root many F h hA hl hne
set_option maxHeartbeats 1000000 in
theorem zkj (w:World) (t:Nat) (A:Arr) (fl:List Nat) (root:Nat) (many:Int) (F:Nat->Prop) (h:TreeZ w t A fl root many F) (at_:Nat) (hat:at_ < A.length) (hA:A.length<=1099511627) (hl:fl.length<=1099511627) :
 Calls Tryz.prog 149 #[.pointer (some ⟨t,0,none⟩),.int .i64 at_] w fun e w'=>e = .returned (.tuple #[])/\∃ F',TreeZ w' t (A.set at_ nd0) (fl++[at_]) root many F'/\Fr F w w'/\∀ b,F' b->F b\/w.heap.size<=b:=by
 obtain ⟨nv,fv,Z,h,rfl,hF⟩:=h
 obtain ⟨z,hz,_⟩:=zcu hat
 rw [zas] at hA hat;have c0:=h.obj.cell 0 rfl;have c1:=h.obj.cell 1 rfl;have f1:=h.obj.free 1;obtain ⟨i0,hi0,hz0,hz1,hz2⟩:=info_parts info3;obtain ⟨a,cap,rfl,hc1,hc2,ha⟩:=h.nodes.shape;obtain ⟨nb,no,rfl⟩:=ha (by omega);have n0:=h.nodes.cell0 zbo at_ hz rfl;have n1:=h.nodes.cell zbo at_ 1 hz rfl;have nf:=h.nodes.free (no+at_ * 2);have nf1:=h.nodes.free (no+at_ * 2+1);have htn:t≠nb:=fun e=>h.a1.1 (by rw [e];rfl);have hp:=h.setPairs (w1:=w) (pv':=.slice none 0 0) (P':=[]) at_ z hz (Fr.refl _ w) (SlF.nil _ _ _ _) (fun b e=>by simp [Value.ownBlock] at e);obtain ⟨p1,p2,p3⟩:=hp
 have hz2':(Z.set at_ ⟨⟨[],z.nd.kids⟩,.slice none 0 0,z.kv⟩)[at_]? = some ⟨⟨[],z.nd.kids⟩,.slice none 0 0,z.kv⟩:=List.getElem?_set_self hat;have p1':TreeR (w.setCell ⟨nb,no+at_ * 2,none⟩ (.slice none 0 0)) t (.slice (some ⟨nb,no,none⟩) (Z.set at_ ⟨⟨[],z.nd.kids⟩,.slice none 0 0,z.kv⟩).length cap) fv (Z.set at_ ⟨⟨[],z.nd.kids⟩,.slice none 0 0,z.kv⟩) fl root many:=by rw [List.length_set];exact p1
 have hk:=p1'.setKids (w1:=w.setCell ⟨nb,no+at_ * 2,none⟩ (.slice none 0 0)) (kv':=.slice none 0 0) (K':=[]) at_ _ hz2' (Fr.refl _ _) (SlF.nil _ _ _ _) (fun b e=>by simp [Value.ownBlock] at e);obtain ⟨k1,k2,k3⟩:=hk;rw [List.set_set,List.length_set] at k1
 have hFz:∀ b,treeF t (.slice (some ⟨nb,no,none⟩) Z.length cap) fv (Z.set at_ nz0) b->treeF t (.slice (some ⟨nb,no,none⟩) Z.length cap) fv Z b\/w.heap.size<=b :=
  zbb hz fun b hb=>by rcases hb with e | e <;> simp [Value.ownBlock,nz0] at e
 have hK1:TreeR ((w.setCell ⟨nb,no+at_ * 2,none⟩ (.slice none 0 0)).setCell ⟨nb,no+at_ * 2+1,none⟩ (.slice none 0 0)) t (.slice (some ⟨nb,no,none⟩) Z.length cap) fv (Z.set at_ nz0) fl root many:=k1
 have hFR:Fr F w ((w.setCell ⟨nb,no+at_ * 2,none⟩ (.slice none 0 0)).setCell ⟨nb,no+at_ * 2+1,none⟩ (.slice none 0 0)):=by
  refine (((Fr.refl F w).setCell (p:=⟨nb,no+at_ * 2,none⟩) (.inl ?_) _).setCell (p:=⟨nb,no+at_ * 2+1,none⟩) (.inl ?_) _) <;> exact (hF nb).2 (.inr (.inl rfl))
 have hlnb:=h.nodes.lt nb rfl;have hlt:=h.obj.lt;have H:=H_ hK1;have HFZ:=H_ hFz;have HFF:=H_ hF;have HFR:=H_ hFR;clear h hF ha p1 p2 p3 p1' k1 k2 k3 hK1 hFz hFR hz hz2';have hj:(at_:Int) < (Z.length:Int):=by omega
 have hnew:=zar ((w.setCell ⟨nb,no+at_ * 2,none⟩ (.slice none 0 0)).setCell ⟨nb,no+at_ * 2+1,none⟩ (.slice none 0 0)) [.int .i64 (at_:Int)] 3 (0,0);have hsz:((w.setCell ⟨nb,no+at_ * 2,none⟩ (.slice none 0 0)).setCell ⟨nb,no+at_ * 2+1,none⟩ (.slice none 0 0)).heap.size=w.heap.size:=by simp
 rw [hsz] at hnew;have HSZ:=H_ hsz;clear hsz;go_enter Tryz.func149,Tryz.ntmps149;go_wp2_with (at_builtin;refine zao rfl _ _ 76 rfl 3 i0 _ 1 8 Tryz.underlying76 hi0 hz0 hz1 hz2 rfl (by decide) fv fl rfl (H.out.free.alloc _) w.heap.size 1 at_ rfl (by simpa [nat1] using hnew) rfl (by intro u hu;simp [nat1] at hu;subst hu;rfl) (by unfold maxLen;omega) (by omega) ?_);generalize ((w.setCell ⟨nb,no+at_ * 2,none⟩ (.slice none 0 0)).setCell ⟨nb,no+at_ * 2+1,none⟩ (.slice none 0 0))=W1 at *;intro g o cap' w1 hs1 hg1 hb1 hlt1;have hF1:Fr (fun b=>fv.ownBlock=some b) W1 w1:=(((Fr.refl _ W1).alloc _).grown hg1 fun k hk=>.inl hk);have hnt:¬ fv.ownBlock=some t:=H.out.a1.2.1;have e1:=hF1.cell (H.out.obj.cell 1 rfl) hnt;have g1:=hF1.free (H.out.obj.cell 1 rfl) (H.out.obj.free 1) hnt;have HS1:=H_ hs1;have HB1:=H_ hb1;have HF1:=H_ hF1
 clear hs1 hg1 hb1 hF1 c0 c1 f1 hnew n0 n1 nf nf1;go_wp2;refine bodyPost_end (results_none rfl _ _ _) rfl ⟨rfl,?_⟩
 have hset:=H.out.setFree (w1:=w1) (fl':=fl++[at_]) (fv':=.slice (some ⟨g,o,none⟩) (fl.length+1) cap') HF1.out HS1.out fun b e=>by
  obtain rfl:g=b:=by simpa [Value.ownBlock] using e
  rcases HB1.out with e | e
  · exact .inl e
  right;have:=HSZ.out;omega
 obtain ⟨q1,q2,q3⟩:=hset;refine ⟨_,⟨_,_,_,q1,by rw [zav];rfl,fun b=>Iff.rfl⟩,HFR.out.trans q2 fun b hb e=>(HFF.out b).2 ?_,fun b hb=>?_⟩
 · rcases e with e | e
   · exact .inl e
   exact .inr (.inr (.inl e))
 rcases q3 b hb with e | e
 · rcases HFZ.out b e with e | e
   · exact .inl ((HFF.out b).2 e)
   exact .inr e
 right;have:=HSZ.out;omega
end Go.Proofs.YthljnnjpmdgkoaaGreat