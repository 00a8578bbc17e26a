/- Own lemmas and contracts that the claim's proof needs, laid together. The conditions stand in each. -/
import Derived.Test.YthljnnjpmdgkoaaGreatG26
namespace Go.Proofs.YthljnnjpmdgkoaaGreat
open Go Go.Proofs Go.RowKit
set_option maxRecDepth 100000
set_option maxHeartbeats 8000000 in
theorem zla {TA:zaq} (hT:TreeOk TA 1000000) (_hTD:TreeDl TA) {k:Nat} {S:St} {D:Doc} (h:Good k S D) (hk:k<=40) (w:World) (s:Nat) (F:Nat->Prop) (hS:zal TA w s S F) (q:CalQ) (hq:fewCal q=true)
 (ha:SlR w 10 opC q.1.ops q.2.1) (hb:SlR w 1 strC q.1.keys q.2.2) (_haF:0 < q.2.1.length->∀ b,q.1.ops.ownBlock=some b->¬ F b) (_hbF:0 < q.2.2.length->∀ b,q.1.keys.ownBlock=some b->¬ F b)
 (a1 a2:Option Addr) (k1 k2:Nat) (hD:DocR w D (.slice a1 D.kvs.length k1) (.slice a2 D.events.length k2)) (hDF:(0 < D.kvs.length->∀ b,(Value.slice a1 D.kvs.length k1).ownBlock=some b->¬ F b)/\(0 < D.events.length->∀ b,(Value.slice a2 D.events.length k2).ownBlock=some b->¬ F b))
 (hk4:kindN q.1.kind=4) :
 Calls Tryz.prog 18 #[.pointer (some ⟨s,0,none⟩),docV D (.slice a1 D.kvs.length k1) (.slice a2 D.events.length k2),.agg (calC q).toArray] w (zhk TA (doT S q) (doD S D q) s F w):=by
 obtain ⟨f1,f2,f3,f4,f5⟩:=zdt hq;have hkd:=fun W=>zdx W q;have hlt:=hS.lt hT
 have hlen:D.kvs.length+D.events.length<=10000000:=by
  have hev:D.events.length<=20000 * k:=(by have:=h.ok.ev;rw [<-h.cpl.events];omega)
  have hkl:D.kvs.length<=16 * k:=by
   have h1:=h.size;rw [<-zch h];unfold zam;exact Nat.le_trans (List.length_filterMap_le _ _) (by omega)
  omega
 have hdr:∀ W,Fr F w W->DocR W D (.slice a1 D.kvs.length k1) (.slice a2 D.events.length k2):=fun W hW=>⟨hD.kvs.frp hW hDF.1,hD.evs.frp hW hDF.2⟩;obtain ⟨oa,ocap,hos,_,_,_⟩:=ha.shape;obtain ⟨ka,kcap,hks,_,_,_⟩:=hb.shape;have hrd:=h.rangeDoc q.1.rg
 have hA:rangeA D q.1.rg=⟨if rangeE S q.1.rg=0 then getL S q.1.rg S.rev else [],if rangeE S q.1.rg=0 then ((allL S q.1.rg S.rev).length:Int) else 0,decide (rangeE S q.1.rg=0) && moreB S q.1.rg S.rev,rangeE S q.1.rg⟩:=by
  obtain ⟨e1,e2⟩:=hrd;unfold rangeA;by_cases h0:rangeE S q.1.rg=0
  · obtain ⟨r1,r2,r3⟩:=e2 h0
    rw [if_pos (by rw [<-e1];exact h0),if_pos h0,if_pos h0,h0,r1,r2,r3];simp
  rw [if_neg (by rw [<-e1];exact h0),if_neg h0,if_neg h0,e1]
  simp [<-e1,h0]
 have c46:∀ W,Fr No w W->Calls Tryz.prog 46 #[.pointer (some ⟨s,0,none⟩),rgV q.1.rg] W fun e w'=>∃ v,e = .returned (.tuple #[v,.int .i64 (rangeA D q.1.rg).n,.bool (rangeA D q.1.rg).more,.int .i64 (rangeA D q.1.rg).e])/\SlF w' 99 6 kvC v (rangeA D q.1.rg).l/\Fr No W w':=fun W h1=>by
  rw [hA];exact (zfm hT h (by omega) W s F (hS.fr0 hT h1) q.1.rg f4).mono fun e w' ⟨v,a,b,c,_⟩=>⟨v,a,b,c⟩
 have c53:=fun W (h1:Fr F w W)=>zjt W D a1 a2 k1 k2 (hdr W h1) h.cpl.ks (by omega) q.1.rg (by omega)
 have hal:(rangeA D q.1.rg).l.length<=10000000:=by
  rw [hA];dsimp only
  split
  · rename_i h0
    rw [(hrd.2 h0).1]
    have h9:(outA q.1.rg (zbc D q.1.rg)).length<=(zbc D q.1.rg).length:=by
     unfold outA allA
     split
     · exact Nat.zero_le _
     rw [List.length_map,List.length_take]
     refine Nat.le_trans (Nat.min_le_right _ _) (Nat.le_trans (List.length_filter_le _ _) ?_)
     split
     · rw [List.length_reverse];exact Nat.le_refl _
     exact Nat.le_refl _
    have h8:(zbc D q.1.rg).length<=D.kvs.length+D.events.length:=by
     unfold zbc;rw [<-zeq];exact zep D _ _
    omega
  exact Nat.zero_le _
 have hS0:=fun W (h1:Fr No w W)=>hS.fr0 hT h1;have hdT:doT S q=S:=if_pos hk4;have hdD:doD S D q=D:=if_pos hk4;rw [hdT,hdD];unfold zhj at c53;generalize rangeA D q.1.rg=A at *;obtain ⟨L,n,mo,er⟩:=A;dsimp only at c46 c53 hal;have H46:=H_ c46;have H53:=H_ c53;have HS0:=H_ hS0;clear c46 c53 hS0 hrd hA hdT hdD ha hb _haF _hbF hq f1 f2 f3 f4 f5 h hk hS _hTD;obtain ⟨⟨p1,p2,⟨g1,g2,g3,g4,g5,g6,g7⟩,p3,p4,p5⟩,ops,keys⟩:=q;dsimp only at *;subst hos hks;unfold calC rgC rgV docV at *;dsimp only at *;generalize kindN p1=kd at *
 have hb1:(((w.alloc (Obj.cells #[.int .i64 D.rev,.int .i64 D.mark,.slice a1 D.kvs.length k1,.slice a2 D.events.length k2] 30)).alloc (Obj.cells #[.int .i64 p1,.slice oa ops.length ocap,.string g1,.string g2,.int .i64 g3,.int .i64 g4,.bool g5,.bool g6,.bool g7,.int .i64 p3,.int .i64 p4,.slice ka keys.length kcap] 38)).alloc (Obj.cells #[.int .i64 0,.int .i64 0,.slice none 0 0,.slice none 0 0] 30)).heap[w.heap.size]? = some (Obj.cells #[.int .i64 D.rev,.int .i64 D.mark,.slice a1 D.kvs.length k1,.slice a2 D.events.length k2] 30 (0,0)):=zaj (zaj (zad w _ _ rfl) _) _
 have hb2:(((w.alloc (Obj.cells #[.int .i64 D.rev,.int .i64 D.mark,.slice a1 D.kvs.length k1,.slice a2 D.events.length k2] 30)).alloc (Obj.cells #[.int .i64 p1,.slice oa ops.length ocap,.string g1,.string g2,.int .i64 g3,.int .i64 g4,.bool g5,.bool g6,.bool g7,.int .i64 p3,.int .i64 p4,.slice ka keys.length kcap] 38)).alloc (Obj.cells #[.int .i64 0,.int .i64 0,.slice none 0 0,.slice none 0 0] 30)).heap[w.heap.size+1]? = some (Obj.cells #[.int .i64 p1,.slice oa ops.length ocap,.string g1,.string g2,.int .i64 g3,.int .i64 g4,.bool g5,.bool g6,.bool g7,.int .i64 p3,.int .i64 p4,.slice ka keys.length kcap] 38 (0,0)):=zaj (zad _ _ _ (by simp)) _
 have hb3:(((w.alloc (Obj.cells #[.int .i64 D.rev,.int .i64 D.mark,.slice a1 D.kvs.length k1,.slice a2 D.events.length k2] 30)).alloc (Obj.cells #[.int .i64 p1,.slice oa ops.length ocap,.string g1,.string g2,.int .i64 g3,.int .i64 g4,.bool g5,.bool g6,.bool g7,.int .i64 p3,.int .i64 p4,.slice ka keys.length kcap] 38)).alloc (Obj.cells #[.int .i64 0,.int .i64 0,.slice none 0 0,.slice none 0 0] 30)).heap[w.heap.size+2]? = some (Obj.cells #[.int .i64 0,.int .i64 0,.slice none 0 0,.slice none 0 0] 30 (0,0)):=zad _ _ _ (by simp)
 have hf3:Fr No w (((w.alloc (Obj.cells #[.int .i64 D.rev,.int .i64 D.mark,.slice a1 D.kvs.length k1,.slice a2 D.events.length k2] 30)).alloc (Obj.cells #[.int .i64 p1,.slice oa ops.length ocap,.string g1,.string g2,.int .i64 g3,.int .i64 g4,.bool g5,.bool g6,.bool g7,.int .i64 p3,.int .i64 p4,.slice ka keys.length kcap] 38)).alloc (Obj.cells #[.int .i64 0,.int .i64 0,.slice none 0 0,.slice none 0 0] 30)):=(((Fr.refl No w).alloc _).alloc _).alloc _;have HB1:=H_ hb1;have HB2:=H_ hb2;have HB3:=H_ hb3;have HF3:=H_ hf3;have HKD:=H_ hkd;have HLT:=H_ hlt;have HDR:=H_ hdr;have HDF:=H_ hDF;clear hb1 hb2 hb3 hf3 hkd hlt hdr hDF hD;go_enter Tryz.func18,Tryz.ntmps18;go_upto_region 1 with fail
 generalize ((w.alloc (Obj.cells #[.int .i64 D.rev,.int .i64 D.mark,.slice a1 D.kvs.length k1,.slice a2 D.events.length k2] 30)).alloc (Obj.cells #[.int .i64 p1,.slice oa ops.length ocap,.string g1,.string g2,.int .i64 g3,.int .i64 g4,.bool g5,.bool g6,.bool g7,.int .i64 p3,.int .i64 p4,.slice ka keys.length kcap] 38)).alloc (Obj.cells #[.int .i64 0,.int .i64 0,.slice none 0 0,.slice none 0 0] 30)=W3 at *;generalize hrb:w.heap.size+2=rb at *;generalize hcb:w.heap.size+1=cb at *;generalize hdb:w.heap.size=db at *;have hnF:∀ b,db<=b->¬ F b:=fun b hb hF=>by have:=HLT.out b hF;omega
 have HNF:=H_ hnF;have HS:=H_ (fun W (hW:Fr F W3 W)=>cells4 (hW.heap HB1.out (HNF.out db (by omega))));have HC:=H_ (fun W (hW:Fr F W3 W)=>cells12 (hW.heap HB2.out (HNF.out cb (by omega))));have HR:Hid (∀ W,Fr F W3 W->W.heap[rb]? = some (Obj.cells #[.int .i64 0,.int .i64 0,.slice none 0 0,.slice none 0 0] 30 (0,0))):=H_ (fun W hW=>hW.heap HB3.out (HNF.out rb (by omega)));have hlr:rb < W3.heap.size:=zac HB3.out;have hlc:cb < W3.heap.size:=zac HB2.out;have hld:db < W3.heap.size:=zac HB1.out;obtain ⟨x0,x1,x2,x3,x4,x5,x6,x7,x8,x9,x10,x11⟩:=HC.out W3 (Fr.refl F W3);clear hnF;subst hk4
 go_upto_region 5 with (first
  | (go_at_call 52;refine (HKD.out _).mono ?_;rintro e w4 ⟨rfl,h4⟩
     have g4':Fr F W3 w4:=h4.mono fun _ _ h=>h.elim;clear x0 x1 x2 x3 x4 x5 x6 x7 x8 x9 x10 x11;obtain ⟨x0,x1,x2,x3,x4,x5,x6,x7,x8,x9,x10,x11⟩:=HC.out w4 g4';obtain ⟨d0,d1,d2,d3⟩:=HS.out w4 g4';have ld:=World.block_lt_of_cell? _ _ d0;have lc:=World.block_lt_of_cell? _ _ x0;have HF4:=H_ (HF3.out.trans0 h4);have G4:=H_ g4';clear h4 g4')
  | (go_at_call 46;(with_reducible refine (H46.out _ HF4.out).mono ?_);rintro e w5 ⟨v5,rfl,hs5,h5⟩
     have g5':=G4.out.trans0 h5;clear x0 x1 x2 x3 x4 x5 x6 x7 x8 x9 x10 x11 d0 d1 d2 d3 ld lc;obtain ⟨x0,x1,x2,x3,x4,x5,x6,x7,x8,x9,x10,x11⟩:=HC.out w5 g5';obtain ⟨d0,d1,d2,d3⟩:=HS.out w5 g5';have ld:=World.block_lt_of_cell? _ _ d0;have lc:=World.block_lt_of_cell? _ _ x0;have HF5:=H_ (HF4.out.trans0 h5);have G5:=H_ g5';have HV5:=H_ hs5;clear h5 g5' hs5)
  | (go_at_call 53;refine (H53.out _ (HF5.out.mono fun _ _ h=>h.elim)).mono ?_;rintro e w6 ⟨xa,xc,rfl,hs6,h6⟩
     have g6':=G5.out.trans0 h6;clear x0 x1 x2 x3 x4 x5 x6 x7 x8 x9 x10 x11 d0 d1 d2 d3 ld lc;have HF6:=H_ (HF5.out.trans0 h6);have G6:=H_ g6';have HV56:=H_ (HV5.out.fr0 h6);have HV6:=H_ hs6;clear h6 g6' hs6))
 have b1:=HS.out w6 G6.out;have b2:=HS.out w6.drew G6.out.drew;have hsk:=zgm w6.drew v5 _ L HV56.out.drew HV6.out.drew (by omega);have HSK:=H_ hsk;clear hsk
 go_region_held3 (fun W=>W.cell? ⟨db,0,none⟩=some (.int .i64 D.rev)/\W.cell? ⟨db,1,none⟩=some (.int .i64 D.mark)/\W.cell? ⟨db,2,none⟩=some (.slice a1 D.kvs.length k1)/\W.cell? ⟨db,3,none⟩=some (.slice a2 D.events.length k2))
  (first | with_reducible exact b1 | with_reducible exact b2 | with_reducible exact b3 | with_reducible exact b4)
  (first
    | (go_at_call 54;(with_reducible refine HSK.out.mono ?_);rintro e w7 ⟨rfl,h7⟩
       have g7':=G6.out.drew.trans0 h7;have b3:=HS.out w7 g7';have hrr:=HR.out w7 g7';obtain ⟨y0,y1,y2,y3⟩:=cells4 hrr;have yf:∀ j,w7.frozen? ⟨rb,j,none⟩=false:=fun j=>by simp [World.frozen?,hrr]
       have lr:=zac hrr;obtain ⟨Zw,hZ,hz,hzf,hzr⟩:=zba (w:=w) hrr (.int .i64 D.rev) (.int .i64 D.mark) (.slice a1 D.kvs.length k1) (.slice a2 D.events.length k2);have b4:=And.intro (hzr.cell b3.1 (show ¬ db=rb by omega)) (And.intro (hzr.cell b3.2.1 (show ¬ db=rb by omega)) (And.intro (hzr.cell b3.2.2.1 (show ¬ db=rb by omega)) (hzr.cell b3.2.2.2 (show ¬ db=rb by omega))));rw [<-hZ] at b4;have HZ:=H_ hZ;have HZ1:=H_ hz;have HZF:=H_ (hzf (HF6.out.drew.trans0 h7) (by omega));clear hZ hz hzf hzr hrr h7 g7'))
 go_wp2;rw [HZ.out];refine bodyPost_ret (zbg rfl _ _ rb 30 _ (0,0) _ rfl HZ1.out Tryz.underlying30 rfl (by kernel_rfl)) rfl ?_;have hFF:Fr F w Zw:=HZF.out.mono fun _ _ h=>h.elim;exact ⟨_,F,rfl,HS0.out _ HZF.out,⟨a1,k1,a2,k2,rfl,HDR.out _ hFF,HDF.out.1,HDF.out.2⟩,hFF,fun b h=>.inl h⟩
set_option maxHeartbeats 8000000 in
theorem zkz {TA:zaq} (hT:TreeOk TA 1000000) (hTD:TreeDl TA) {k:Nat} {S:St} {D:Doc} (h:Good k S D) (hk:k<=40) (w:World) (s:Nat) (F:Nat->Prop) (hS:zal TA w s S F) (q:CalQ) (hq:fewCal q=true)
 (ha:SlR w 10 opC q.1.ops q.2.1) (hb:SlR w 1 strC q.1.keys q.2.2) (_haF:0 < q.2.1.length->∀ b,q.1.ops.ownBlock=some b->¬ F b) (_hbF:0 < q.2.2.length->∀ b,q.1.keys.ownBlock=some b->¬ F b)
 (a1 a2:Option Addr) (k1 k2:Nat) (hD:DocR w D (.slice a1 D.kvs.length k1) (.slice a2 D.events.length k2)) (hDF:(0 < D.kvs.length->∀ b,(Value.slice a1 D.kvs.length k1).ownBlock=some b->¬ F b)/\(0 < D.events.length->∀ b,(Value.slice a2 D.events.length k2).ownBlock=some b->¬ F b))
 (hk5:kindN q.1.kind=5) :
 Calls Tryz.prog 18 #[.pointer (some ⟨s,0,none⟩),docV D (.slice a1 D.kvs.length k1) (.slice a2 D.events.length k2),.agg (calC q).toArray] w (zhk TA (doT S q) (doD S D q) s F w):=by
 obtain ⟨f1,f2,f3,f4,f5⟩:=zdt hq;have hkd:=fun W=>zdx W q;have hlt:=hS.lt hT
 have hlen:D.kvs.length+D.events.length<=10000000:=by
  have hev:D.events.length<=20000 * k:=(by have:=h.ok.ev;rw [<-h.cpl.events];omega)
  have hkl:D.kvs.length<=16 * k:=by
   have h1:=h.size;rw [<-zch h];unfold zam;exact Nat.le_trans (List.length_filterMap_le _ _) (by omega)
  omega
 have hdr:∀ W,Fr F w W->DocR W D (.slice a1 D.kvs.length k1) (.slice a2 D.events.length k2):=fun W hW=>⟨hD.kvs.frp hW hDF.1,hD.evs.frp hW hDF.2⟩;obtain ⟨oa,ocap,hos,_,_,_⟩:=ha.shape;obtain ⟨ka,kcap,hks,_,_,_⟩:=hb.shape;have hcd:=h.compactDoc q.1.rev;have hS0:=fun W (h1:Fr No w W)=>hS.fr0 hT h1;have hdT:doT S q=if zby D q.1.rev=0 then compS q.1.rev S else S:=by unfold doT;rw [if_neg (by omega),if_pos hk5,hcd]
 have hdD:doD S D q=zdd D q.1.rev:=by unfold doD zdd;rw [if_neg (by omega),if_pos hk5,hcd]
 have c50:=fun W (h1:Fr No w W)=>zfz hT hTD h (by omega) W s F (hS.fr0 hT h1) q.1.rev;rw [hcd] at c50;have c55:=fun W (h1:Fr F w W)=>zhw W D a1 a2 k1 k2 (hdr W h1) h.cpl.ks (by omega) q.1.rev;rw [hdT,hdD];unfold zjn at c55;generalize zdd D q.1.rev=CD at *;generalize (if zby D q.1.rev=0 then compS q.1.rev S else S)=ST at *;generalize zby D q.1.rev=ce at *;have HD0:=H_ hD;have H50:=H_ c50;have H55:=H_ c55;clear c50 c55 hS0 hcd hdT hdD ha hb _haF _hbF hq f1 f2 f3 f4 f5 h hk hS hTD;obtain ⟨⟨p1,p2,⟨g1,g2,g3,g4,g5,g6,g7⟩,p3,p4,p5⟩,ops,keys⟩:=q;dsimp only at *;subst hos hks;unfold calC rgC docV at *;dsimp only at *;generalize kindN p1=kd at *
 have hb1:(((w.alloc (Obj.cells #[.int .i64 D.rev,.int .i64 D.mark,.slice a1 D.kvs.length k1,.slice a2 D.events.length k2] 30)).alloc (Obj.cells #[.int .i64 p1,.slice oa ops.length ocap,.string g1,.string g2,.int .i64 g3,.int .i64 g4,.bool g5,.bool g6,.bool g7,.int .i64 p3,.int .i64 p4,.slice ka keys.length kcap] 38)).alloc (Obj.cells #[.int .i64 0,.int .i64 0,.slice none 0 0,.slice none 0 0] 30)).heap[w.heap.size]? = some (Obj.cells #[.int .i64 D.rev,.int .i64 D.mark,.slice a1 D.kvs.length k1,.slice a2 D.events.length k2] 30 (0,0)):=zaj (zaj (zad w _ _ rfl) _) _
 have hb2:(((w.alloc (Obj.cells #[.int .i64 D.rev,.int .i64 D.mark,.slice a1 D.kvs.length k1,.slice a2 D.events.length k2] 30)).alloc (Obj.cells #[.int .i64 p1,.slice oa ops.length ocap,.string g1,.string g2,.int .i64 g3,.int .i64 g4,.bool g5,.bool g6,.bool g7,.int .i64 p3,.int .i64 p4,.slice ka keys.length kcap] 38)).alloc (Obj.cells #[.int .i64 0,.int .i64 0,.slice none 0 0,.slice none 0 0] 30)).heap[w.heap.size+1]? = some (Obj.cells #[.int .i64 p1,.slice oa ops.length ocap,.string g1,.string g2,.int .i64 g3,.int .i64 g4,.bool g5,.bool g6,.bool g7,.int .i64 p3,.int .i64 p4,.slice ka keys.length kcap] 38 (0,0)):=zaj (zad _ _ _ (by simp)) _
 have hb3:(((w.alloc (Obj.cells #[.int .i64 D.rev,.int .i64 D.mark,.slice a1 D.kvs.length k1,.slice a2 D.events.length k2] 30)).alloc (Obj.cells #[.int .i64 p1,.slice oa ops.length ocap,.string g1,.string g2,.int .i64 g3,.int .i64 g4,.bool g5,.bool g6,.bool g7,.int .i64 p3,.int .i64 p4,.slice ka keys.length kcap] 38)).alloc (Obj.cells #[.int .i64 0,.int .i64 0,.slice none 0 0,.slice none 0 0] 30)).heap[w.heap.size+2]? = some (Obj.cells #[.int .i64 0,.int .i64 0,.slice none 0 0,.slice none 0 0] 30 (0,0)):=zad _ _ _ (by simp)
 have hf3:Fr No w (((w.alloc (Obj.cells #[.int .i64 D.rev,.int .i64 D.mark,.slice a1 D.kvs.length k1,.slice a2 D.events.length k2] 30)).alloc (Obj.cells #[.int .i64 p1,.slice oa ops.length ocap,.string g1,.string g2,.int .i64 g3,.int .i64 g4,.bool g5,.bool g6,.bool g7,.int .i64 p3,.int .i64 p4,.slice ka keys.length kcap] 38)).alloc (Obj.cells #[.int .i64 0,.int .i64 0,.slice none 0 0,.slice none 0 0] 30)):=(((Fr.refl No w).alloc _).alloc _).alloc _;have HB1:=H_ hb1;have HB2:=H_ hb2;have HB3:=H_ hb3;have HF3:=H_ hf3;have HKD:=H_ hkd;have HLT:=H_ hlt;have HDR:=H_ hdr;have HDF:=H_ hDF;clear hb1 hb2 hb3 hf3 hkd hlt hdr hDF hD;go_enter Tryz.func18,Tryz.ntmps18;go_upto_region 1 with fail
 generalize ((w.alloc (Obj.cells #[.int .i64 D.rev,.int .i64 D.mark,.slice a1 D.kvs.length k1,.slice a2 D.events.length k2] 30)).alloc (Obj.cells #[.int .i64 p1,.slice oa ops.length ocap,.string g1,.string g2,.int .i64 g3,.int .i64 g4,.bool g5,.bool g6,.bool g7,.int .i64 p3,.int .i64 p4,.slice ka keys.length kcap] 38)).alloc (Obj.cells #[.int .i64 0,.int .i64 0,.slice none 0 0,.slice none 0 0] 30)=W3 at *;generalize hrb:w.heap.size+2=rb at *;generalize hcb:w.heap.size+1=cb at *;generalize hdb:w.heap.size=db at *;have hnF:∀ b,db<=b->¬ F b:=fun b hb hF=>by have:=HLT.out b hF;omega
 have HNF:=H_ hnF;have HS:=H_ (fun W (hW:Fr F W3 W)=>cells4 (hW.heap HB1.out (HNF.out db (by omega))));have HC:=H_ (fun W (hW:Fr F W3 W)=>cells12 (hW.heap HB2.out (HNF.out cb (by omega))));have HR:Hid (∀ W,Fr F W3 W->W.heap[rb]? = some (Obj.cells #[.int .i64 0,.int .i64 0,.slice none 0 0,.slice none 0 0] 30 (0,0))):=H_ (fun W hW=>hW.heap HB3.out (HNF.out rb (by omega)));have hlr:rb < W3.heap.size:=zac HB3.out;have hlc:cb < W3.heap.size:=zac HB2.out;have hld:db < W3.heap.size:=zac HB1.out;obtain ⟨x0,x1,x2,x3,x4,x5,x6,x7,x8,x9,x10,x11⟩:=HC.out W3 (Fr.refl F W3);clear hnF;subst hk5
 go_upto_region 9 with (first
  | (go_at_call 52;refine (HKD.out _).mono ?_;rintro e w4 ⟨rfl,h4⟩
     have g4':Fr F W3 w4:=h4.mono fun _ _ h=>h.elim;clear x0 x1 x2 x3 x4 x5 x6 x7 x8 x9 x10 x11;obtain ⟨x0,x1,x2,x3,x4,x5,x6,x7,x8,x9,x10,x11⟩:=HC.out w4 g4';obtain ⟨d0,d1,d2,d3⟩:=HS.out w4 g4';have ld:=World.block_lt_of_cell? _ _ d0;have lc:=World.block_lt_of_cell? _ _ x0;have HF4:=H_ (HF3.out.trans0 h4);have G4:=H_ g4';clear h4 g4')
  | (go_at_call 50;refine (H50.out _ HF4.out).mono ?_;rintro e w5 ⟨rfl,F5,hs5,h5,hn5⟩
     have g5':=G4.out.trans h5 fun _ _ h=>h;clear x0 x1 x2 x3 x4 x5 x6 x7 x8 x9 x10 x11 d0 d1 d2 d3 ld lc;obtain ⟨x0,x1,x2,x3,x4,x5,x6,x7,x8,x9,x10,x11⟩:=HC.out w5 g5';obtain ⟨d0,d1,d2,d3⟩:=HS.out w5 g5';have ld:=World.block_lt_of_cell? _ _ d0;have lc:=World.block_lt_of_cell? _ _ x0;have G5:=H_ g5';have H5:=H_ h5;have HS5:=H_ hs5;have HN5:=H_ hn5;clear h5 g5' hs5 hn5)
  | (go_at_call 55;refine (H55.out _ ((HF4.out.mono fun _ _ h=>h.elim:Fr F w w4).trans H5.out fun _ _ h=>h)).mono ?_;rintro e w6 ⟨v6,rfl,hv6,h6⟩
     obtain ⟨b1,c1,b2,c2,rfl,hd6,n61,n62⟩:=hv6;have HV6':Hid (DocVN CD w5 D (.slice a1 D.kvs.length k1) (.slice a2 D.events.length k2) w6 (docV CD (.slice b1 CD.kvs.length c1) (.slice b2 CD.events.length c2))):=H_ ⟨b1,c1,b2,c2,rfl,hd6,n61,n62⟩;unfold docV;have H6':=H_ h6;clear x0 x1 x2 x3 x4 x5 x6 x7 x8 x9 x10 x11 d0 d1 d2 d3 ld lc h6 hd6 n61 n62))
 have hx7:=zad w6 (Obj.cells #[.int .i64 CD.rev,.int .i64 CD.mark,.slice b1 CD.kvs.length c1,.slice b2 CD.events.length c2] 30) _ rfl;have hf7:Fr No w6 (w6.alloc (Obj.cells #[.int .i64 CD.rev,.int .i64 CD.mark,.slice b1 CD.kvs.length c1,.slice b2 CD.events.length c2] 30)):=(Fr.refl No w6).alloc _;generalize w6.alloc (Obj.cells #[.int .i64 CD.rev,.int .i64 CD.mark,.slice b1 CD.kvs.length c1,.slice b2 CD.events.length c2] 30)=W7 at *;generalize hxb:w6.heap.size=xb at *;have H6:=H_ (H6'.out.trans0 hf7);have HV6:=H_ (HV6'.out.fr0 hf7);have g7:=G5.out.trans0 H6.out;obtain ⟨c0,c1',c2',c3⟩:=cells4 hx7;have lxb:=zac hx7;have hrr:=HR.out W7 g7;obtain ⟨y0,y1,y2,y3⟩:=cells4 hrr;have yf:∀ j,W7.frozen? ⟨rb,j,none⟩=false:=fun j=>by simp [World.frozen?,hrr]
 have lr:=zac hrr;obtain ⟨Zw,hZ,hz,hzf,hzr⟩:=zba (w:=w) hrr (.int .i64 CD.rev) (.int .i64 CD.mark) (.slice b1 CD.kvs.length c1) (.slice b2 CD.events.length c2);have HZ:=H_ hZ;have HZ1:=H_ hz;have HZR:=H_ hzr;have HRR:=H_ hrr;clear hZ hz hzf hzr hrr hx7 hf7 g7 H6' HV6';go_wp2;rw [HZ.out];refine bodyPost_ret (zbg rfl _ _ rb 30 _ (0,0) _ rfl HZ1.out Tryz.underlying30 rfl (by kernel_rfl)) rfl ?_
 have hrb5:¬ F5 rb:=fun hF=>by
  rcases HN5.out rb hF with h | h
  · exact HNF.out rb (by omega) h
  have:=G4.out.size
  have:=zac HB3.out;omega
 have hz5:Fr (fun j=>j=rb) w5 Zw:=((H6.out.mono fun _ _ h=>h.elim)).trans HZR.out fun _ _ h=>h;have hzw:Fr F w Zw:=((HF4.out.mono fun _ _ h=>h.elim:Fr F w w4).trans H5.out fun _ _ h=>h).trans hz5 fun j hj e=>by have e':j=rb:=e;omega
 have hnew:∀ b,F5 b->F b\/w.heap.size<=b:=fun b hb=>(HN5.out b hb).imp id fun h=>by have:=HF4.out.size;omega
 have hltw:∀ b,0 < D.kvs.length->(Value.slice a1 D.kvs.length k1).ownBlock=some b->b < w.heap.size:=fun b h0 hb=>HD0.out.kvs.lt zae (by decide) h0 b hb;have hltw2:∀ b,0 < D.events.length->(Value.slice a2 D.events.length k2).ownBlock=some b->b < w.heap.size:=fun b h0 hb=>HD0.out.evs.lt zab (by decide) h0 b hb;refine ⟨_,F5,rfl,HS5.out.fr hT hz5 fun b hb e=>hrb5 (by have e':b=rb:=e;rw [<-e'];exact hb),HV6.out.ap HZR.out HRR.out (fun h0 b hb hF=>?_) (fun h0 b hb hF=>?_) (HS5.out.lt hT),hzw,hnew⟩
 · rcases hnew b hF with h | h
   · exact HDF.out.1 h0 b hb h
   have:=hltw b h0 hb;omega
 rcases hnew b hF with h | h
 · exact HDF.out.2 h0 b hb h
 have:=hltw2 b h0 hb;omega
set_option maxHeartbeats 8000000 in
theorem zky {TA:zaq} (hT:TreeOk TA 1000000) (_hTD:TreeDl TA) {k:Nat} {S:St} {D:Doc} (h:Good k S D) (hk:k<=40) (w:World) (s:Nat) (F:Nat->Prop) (hS:zal TA w s S F) (q:CalQ) (hq:fewCal q=true)
 (ha:SlR w 10 opC q.1.ops q.2.1) (hb:SlR w 1 strC q.1.keys q.2.2) (_haF:0 < q.2.1.length->∀ b,q.1.ops.ownBlock=some b->¬ F b) (_hbF:0 < q.2.2.length->∀ b,q.1.keys.ownBlock=some b->¬ F b)
 (a1 a2:Option Addr) (k1 k2:Nat) (hD:DocR w D (.slice a1 D.kvs.length k1) (.slice a2 D.events.length k2)) (hDF:(0 < D.kvs.length->∀ b,(Value.slice a1 D.kvs.length k1).ownBlock=some b->¬ F b)/\(0 < D.events.length->∀ b,(Value.slice a2 D.events.length k2).ownBlock=some b->¬ F b))
 (hk6:kindN q.1.kind=6) :
 Calls Tryz.prog 18 #[.pointer (some ⟨s,0,none⟩),docV D (.slice a1 D.kvs.length k1) (.slice a2 D.events.length k2),.agg (calC q).toArray] w (zhk TA (doT S q) (doD S D q) s F w):=by
 obtain ⟨f1,f2,f3,f4,f5⟩:=zdt hq;have hkd:=fun W=>zdx W q;have hlt:=hS.lt hT
 have hlen:D.kvs.length+D.events.length<=10000000:=by
  have hev:D.events.length<=20000 * k:=(by have:=h.ok.ev;rw [<-h.cpl.events];omega)
  have hkl:D.kvs.length<=16 * k:=by
   have h1:=h.size;rw [<-zch h];unfold zam;exact Nat.le_trans (List.length_filterMap_le _ _) (by omega)
  omega
 have hdr:∀ W,Fr F w W->DocR W D (.slice a1 D.kvs.length k1) (.slice a2 D.events.length k2):=fun W hW=>⟨hD.kvs.frp hW hDF.1,hD.evs.frp hW hDF.2⟩;obtain ⟨oa,ocap,hos,_,_,_⟩:=ha.shape;obtain ⟨ka,kcap,hks,_,_,_⟩:=hb.shape;have hev:=h.eventsDoc q.1.rev q.1.upto;have hS0:=fun W (h1:Fr No w W)=>hS.fr0 hT h1;have hdT:doT S q=S:=by unfold doT;rw [if_neg (by omega),if_neg (by omega),if_pos hk6]
 have hdD:doD S D q=D:=by unfold doD;rw [if_neg (by omega),if_neg (by omega),if_pos hk6]
 have c47:=fun W (h1:Fr No w W)=>znu hT W s S F (hS.fr0 hT h1) (by have:=h.ok.ev;omega) (fun h1=>h.events_pos (by rw [<-h.rev];exact h1)) q.1.rev q.1.upto;rw [hev.1,hev.2,zoq] at c47;have c56:=fun W (h1:Fr F w W)=>zip W D a1 a2 D.kvs.length k1 k2 (hdr W h1).evs (by omega) q.1.rev q.1.upto;unfold zdi sinceL at c56;rw [hdT,hdD]
 have hal:(if zbq D q.1.rev q.1.upto=0 then D.events.filter (sinceB q.1.rev q.1.upto) else []).length<=10000000:=by
  split
  · exact Nat.le_trans (List.length_filter_le _ _) (by omega)
  exact Nat.zero_le _
 generalize (if zbq D q.1.rev q.1.upto=0 then D.events.filter (sinceB q.1.rev q.1.upto) else [])=L at *;generalize zbq D q.1.rev q.1.upto=er at *;have H47:=H_ c47;have H56:=H_ c56;have HS0:=H_ hS0;clear c47 c56 hS0 hev hdT hdD ha hb _haF _hbF hq f1 f2 f3 f4 f5 h hk hS _hTD;obtain ⟨⟨p1,p2,⟨g1,g2,g3,g4,g5,g6,g7⟩,p3,p4,p5⟩,ops,keys⟩:=q;dsimp only at *;subst hos hks;unfold calC rgC docV at *;dsimp only at *;generalize kindN p1=kd at *
 have hb1:(((w.alloc (Obj.cells #[.int .i64 D.rev,.int .i64 D.mark,.slice a1 D.kvs.length k1,.slice a2 D.events.length k2] 30)).alloc (Obj.cells #[.int .i64 p1,.slice oa ops.length ocap,.string g1,.string g2,.int .i64 g3,.int .i64 g4,.bool g5,.bool g6,.bool g7,.int .i64 p3,.int .i64 p4,.slice ka keys.length kcap] 38)).alloc (Obj.cells #[.int .i64 0,.int .i64 0,.slice none 0 0,.slice none 0 0] 30)).heap[w.heap.size]? = some (Obj.cells #[.int .i64 D.rev,.int .i64 D.mark,.slice a1 D.kvs.length k1,.slice a2 D.events.length k2] 30 (0,0)):=zaj (zaj (zad w _ _ rfl) _) _
 have hb2:(((w.alloc (Obj.cells #[.int .i64 D.rev,.int .i64 D.mark,.slice a1 D.kvs.length k1,.slice a2 D.events.length k2] 30)).alloc (Obj.cells #[.int .i64 p1,.slice oa ops.length ocap,.string g1,.string g2,.int .i64 g3,.int .i64 g4,.bool g5,.bool g6,.bool g7,.int .i64 p3,.int .i64 p4,.slice ka keys.length kcap] 38)).alloc (Obj.cells #[.int .i64 0,.int .i64 0,.slice none 0 0,.slice none 0 0] 30)).heap[w.heap.size+1]? = some (Obj.cells #[.int .i64 p1,.slice oa ops.length ocap,.string g1,.string g2,.int .i64 g3,.int .i64 g4,.bool g5,.bool g6,.bool g7,.int .i64 p3,.int .i64 p4,.slice ka keys.length kcap] 38 (0,0)):=zaj (zad _ _ _ (by simp)) _
 have hb3:(((w.alloc (Obj.cells #[.int .i64 D.rev,.int .i64 D.mark,.slice a1 D.kvs.length k1,.slice a2 D.events.length k2] 30)).alloc (Obj.cells #[.int .i64 p1,.slice oa ops.length ocap,.string g1,.string g2,.int .i64 g3,.int .i64 g4,.bool g5,.bool g6,.bool g7,.int .i64 p3,.int .i64 p4,.slice ka keys.length kcap] 38)).alloc (Obj.cells #[.int .i64 0,.int .i64 0,.slice none 0 0,.slice none 0 0] 30)).heap[w.heap.size+2]? = some (Obj.cells #[.int .i64 0,.int .i64 0,.slice none 0 0,.slice none 0 0] 30 (0,0)):=zad _ _ _ (by simp)
 have hf3:Fr No w (((w.alloc (Obj.cells #[.int .i64 D.rev,.int .i64 D.mark,.slice a1 D.kvs.length k1,.slice a2 D.events.length k2] 30)).alloc (Obj.cells #[.int .i64 p1,.slice oa ops.length ocap,.string g1,.string g2,.int .i64 g3,.int .i64 g4,.bool g5,.bool g6,.bool g7,.int .i64 p3,.int .i64 p4,.slice ka keys.length kcap] 38)).alloc (Obj.cells #[.int .i64 0,.int .i64 0,.slice none 0 0,.slice none 0 0] 30)):=(((Fr.refl No w).alloc _).alloc _).alloc _;have HB1:=H_ hb1;have HB2:=H_ hb2;have HB3:=H_ hb3;have HF3:=H_ hf3;have HKD:=H_ hkd;have HLT:=H_ hlt;have HDR:=H_ hdr;have HDF:=H_ hDF;clear hb1 hb2 hb3 hf3 hkd hlt hdr hDF hD;go_enter Tryz.func18,Tryz.ntmps18;go_upto_region 1 with fail
 generalize ((w.alloc (Obj.cells #[.int .i64 D.rev,.int .i64 D.mark,.slice a1 D.kvs.length k1,.slice a2 D.events.length k2] 30)).alloc (Obj.cells #[.int .i64 p1,.slice oa ops.length ocap,.string g1,.string g2,.int .i64 g3,.int .i64 g4,.bool g5,.bool g6,.bool g7,.int .i64 p3,.int .i64 p4,.slice ka keys.length kcap] 38)).alloc (Obj.cells #[.int .i64 0,.int .i64 0,.slice none 0 0,.slice none 0 0] 30)=W3 at *;generalize hrb:w.heap.size+2=rb at *;generalize hcb:w.heap.size+1=cb at *;generalize hdb:w.heap.size=db at *;have hnF:∀ b,db<=b->¬ F b:=fun b hb hF=>by have:=HLT.out b hF;omega
 have HNF:=H_ hnF;have HS:=H_ (fun W (hW:Fr F W3 W)=>cells4 (hW.heap HB1.out (HNF.out db (by omega))));have HC:=H_ (fun W (hW:Fr F W3 W)=>cells12 (hW.heap HB2.out (HNF.out cb (by omega))));have HR:Hid (∀ W,Fr F W3 W->W.heap[rb]? = some (Obj.cells #[.int .i64 0,.int .i64 0,.slice none 0 0,.slice none 0 0] 30 (0,0))):=H_ (fun W hW=>hW.heap HB3.out (HNF.out rb (by omega)));have hlr:rb < W3.heap.size:=zac HB3.out;have hlc:cb < W3.heap.size:=zac HB2.out;have hld:db < W3.heap.size:=zac HB1.out;obtain ⟨x0,x1,x2,x3,x4,x5,x6,x7,x8,x9,x10,x11⟩:=HC.out W3 (Fr.refl F W3);clear hnF;subst hk6
 go_upto_region 13 with (first
  | (go_at_call 52;refine (HKD.out _).mono ?_;rintro e w4 ⟨rfl,h4⟩
     have g4':Fr F W3 w4:=h4.mono fun _ _ h=>h.elim;clear x0 x1 x2 x3 x4 x5 x6 x7 x8 x9 x10 x11;obtain ⟨x0,x1,x2,x3,x4,x5,x6,x7,x8,x9,x10,x11⟩:=HC.out w4 g4';obtain ⟨d0,d1,d2,d3⟩:=HS.out w4 g4';have ld:=World.block_lt_of_cell? _ _ d0;have lc:=World.block_lt_of_cell? _ _ x0;have HF4:=H_ (HF3.out.trans0 h4);have G4:=H_ g4';clear h4 g4')
  | (go_at_call 47;refine (H47.out _ HF4.out).mono ?_;rintro e w5 ⟨v5,rfl,hs5,h5,_⟩
     have g5':=G4.out.trans0 h5;clear x0 x1 x2 x3 x4 x5 x6 x7 x8 x9 x10 x11 d0 d1 d2 d3 ld lc;obtain ⟨x0,x1,x2,x3,x4,x5,x6,x7,x8,x9,x10,x11⟩:=HC.out w5 g5';obtain ⟨d0,d1,d2,d3⟩:=HS.out w5 g5';have ld:=World.block_lt_of_cell? _ _ d0;have lc:=World.block_lt_of_cell? _ _ x0;have HF5:=H_ (HF4.out.trans0 h5);have G5:=H_ g5';have HV5:=H_ hs5;clear h5 g5' hs5)
  | (go_at_call 56;refine (H56.out _ (HF5.out.mono fun _ _ h=>h.elim)).mono ?_;rintro e w6 ⟨xa,xc,rfl,hs6,h6⟩
     have g6':=G5.out.trans0 h6;clear x0 x1 x2 x3 x4 x5 x6 x7 x8 x9 x10 x11 d0 d1 d2 d3 ld lc;have HF6:=H_ (HF5.out.trans0 h6);have G6:=H_ g6';have HV56:=H_ (HV5.out.fr0 h6);have HV6:=H_ hs6;clear h6 g6' hs6))
 have b1:=HS.out w6 G6.out;have b2:=HS.out w6.drew G6.out.drew;have hsk:=zhv w6.drew v5 _ L HV56.out.drew HV6.out.drew (by omega);have HSK:=H_ hsk;clear hsk
 go_region_held3 (fun W=>W.cell? ⟨db,0,none⟩=some (.int .i64 D.rev)/\W.cell? ⟨db,1,none⟩=some (.int .i64 D.mark)/\W.cell? ⟨db,2,none⟩=some (.slice a1 D.kvs.length k1)/\W.cell? ⟨db,3,none⟩=some (.slice a2 D.events.length k2))
  (first | with_reducible exact b1 | with_reducible exact b2 | with_reducible exact b3 | with_reducible exact b4)
  (first
    | (go_at_call 36;(with_reducible refine HSK.out.mono ?_);rintro e w7 ⟨rfl,h7⟩
       have g7':=G6.out.drew.trans0 h7;have b3:=HS.out w7 g7';have hrr:=HR.out w7 g7';obtain ⟨y0,y1,y2,y3⟩:=cells4 hrr;have yf:∀ j,w7.frozen? ⟨rb,j,none⟩=false:=fun j=>by simp [World.frozen?,hrr]
       have lr:=zac hrr;obtain ⟨Zw,hZ,hz,hzf,hzr⟩:=zba (w:=w) hrr (.int .i64 D.rev) (.int .i64 D.mark) (.slice a1 D.kvs.length k1) (.slice a2 D.events.length k2);have b4:=And.intro (hzr.cell b3.1 (show ¬ db=rb by omega)) (And.intro (hzr.cell b3.2.1 (show ¬ db=rb by omega)) (And.intro (hzr.cell b3.2.2.1 (show ¬ db=rb by omega)) (hzr.cell b3.2.2.2 (show ¬ db=rb by omega))));rw [<-hZ] at b4;have HZ:=H_ hZ;have HZ1:=H_ hz;have HZF:=H_ (hzf (HF6.out.drew.trans0 h7) (by omega));clear hZ hz hzf hzr hrr h7 g7'))
 go_wp2;rw [HZ.out];refine bodyPost_ret (zbg rfl _ _ rb 30 _ (0,0) _ rfl HZ1.out Tryz.underlying30 rfl (by kernel_rfl)) rfl ?_;have hFF:Fr F w Zw:=HZF.out.mono fun _ _ h=>h.elim;exact ⟨_,F,rfl,HS0.out _ HZF.out,⟨a1,k1,a2,k2,rfl,HDR.out _ hFF,HDF.out.1,HDF.out.2⟩,hFF,fun b h=>.inl h⟩
set_option maxHeartbeats 8000000 in
theorem zkx {TA:zaq} (hT:TreeOk TA 1000000) (_hTD:TreeDl TA) {k:Nat} {S:St} {D:Doc} (h:Good k S D) (hk:k<=40) (w:World) (s:Nat) (F:Nat->Prop) (hS:zal TA w s S F) (q:CalQ) (hq:fewCal q=true)
 (ha:SlR w 10 opC q.1.ops q.2.1) (hb:SlR w 1 strC q.1.keys q.2.2) (_haF:0 < q.2.1.length->∀ b,q.1.ops.ownBlock=some b->¬ F b) (hbF:0 < q.2.2.length->∀ b,q.1.keys.ownBlock=some b->¬ F b)
 (a1 a2:Option Addr) (k1 k2:Nat) (hD:DocR w D (.slice a1 D.kvs.length k1) (.slice a2 D.events.length k2)) (hDF:(0 < D.kvs.length->∀ b,(Value.slice a1 D.kvs.length k1).ownBlock=some b->¬ F b)/\(0 < D.events.length->∀ b,(Value.slice a2 D.events.length k2).ownBlock=some b->¬ F b))
 (hk7:kindN q.1.kind=7) :
 Calls Tryz.prog 18 #[.pointer (some ⟨s,0,none⟩),docV D (.slice a1 D.kvs.length k1) (.slice a2 D.events.length k2),.agg (calC q).toArray] w (zhk TA (doT S q) (doD S D q) s F w):=by
 obtain ⟨f1,f2,f3,f4,f5⟩:=zdt hq;have hkd:=fun W=>zdx W q;have hlt:=hS.lt hT
 have hlen:D.kvs.length+D.events.length<=10000000:=by
  have hev:D.events.length<=20000 * k:=(by have:=h.ok.ev;rw [<-h.cpl.events];omega)
  have hkl:D.kvs.length<=16 * k:=by
   have h1:=h.size;rw [<-zch h];unfold zam;exact Nat.le_trans (List.length_filterMap_le _ _) (by omega)
  omega
 have hdr:∀ W,Fr F w W->DocR W D (.slice a1 D.kvs.length k1) (.slice a2 D.events.length k2):=fun W hW=>⟨hD.kvs.frp hW hDF.1,hD.evs.frp hW hDF.2⟩;obtain ⟨oa,ocap,hos,_,_,_⟩:=ha.shape;obtain ⟨ka,kcap,hks,_,_,_⟩:=hb.shape;obtain ⟨e1,e2,e3⟩:=h.dropDoc (by omega) q.2.2 f3;have hdT:doT S q=dropS S q.2.2:=by unfold doT;rw [if_neg (by omega),if_neg (by omega),if_neg (by omega),if_pos hk7]
 have hdD:doD S D q=dropDD D q.2.2:=by unfold doD;rw [if_neg (by omega),if_neg (by omega),if_neg (by omega),if_pos hk7,e3]
 have c57:=fun W (h1:Fr No w W)=>zpo hT h (by omega) W s F (hS.fr0 hT h1) q.1.keys q.2.2 (hb.fr0 h1) hbF f3;have hr1:=h.rev1;have hm0:=h.cpl.m0;have c58:=fun W (h1:Fr F w W) hv=>zkv W D a1 a2 k1 k2 (hdr W h1) h.cpl.ks (by omega) (by omega) q.1.keys q.2.2 hv (by omega);rw [e2] at c57;unfold DropAR at c58;rw [e1,if_pos rfl] at c58;unfold DropX at c58
 have hal:(dropsQ D q.2.2).2.length<=10000000:=by
  have h1:=(zhr h.cpl.ks (by rw [<-zeq];have:=zep D D.rev D.events.length;omega) q.2.2 q.2.2.length (Nat.le_refl _)).2.1;rw [List.take_length] at h1;omega
 have hbk:=fun W (h1:Fr F w W)=>hb.frp h1 hbF;rw [hdT,hdD];generalize dropDD D q.2.2=CD at *;generalize dropS S q.2.2=ST at *;generalize (dropsQ D q.2.2).2=L at *;have HD0:=H_ hD;have H57:=H_ c57;have H58:=H_ c58;have HBK:=H_ hbk;clear c57 c58 hbk e1 e2 e3 hdT hdD ha hb _haF hbF hq f1 f2 f3 f4 f5 h hk hS _hTD;obtain ⟨⟨p1,p2,⟨g1,g2,g3,g4,g5,g6,g7⟩,p3,p4,p5⟩,ops,keys⟩:=q;dsimp only at *;subst hos hks;unfold calC rgC docV at *;dsimp only at *;generalize kindN p1=kd at *
 have hb1:(((w.alloc (Obj.cells #[.int .i64 D.rev,.int .i64 D.mark,.slice a1 D.kvs.length k1,.slice a2 D.events.length k2] 30)).alloc (Obj.cells #[.int .i64 p1,.slice oa ops.length ocap,.string g1,.string g2,.int .i64 g3,.int .i64 g4,.bool g5,.bool g6,.bool g7,.int .i64 p3,.int .i64 p4,.slice ka keys.length kcap] 38)).alloc (Obj.cells #[.int .i64 0,.int .i64 0,.slice none 0 0,.slice none 0 0] 30)).heap[w.heap.size]? = some (Obj.cells #[.int .i64 D.rev,.int .i64 D.mark,.slice a1 D.kvs.length k1,.slice a2 D.events.length k2] 30 (0,0)):=zaj (zaj (zad w _ _ rfl) _) _
 have hb2:(((w.alloc (Obj.cells #[.int .i64 D.rev,.int .i64 D.mark,.slice a1 D.kvs.length k1,.slice a2 D.events.length k2] 30)).alloc (Obj.cells #[.int .i64 p1,.slice oa ops.length ocap,.string g1,.string g2,.int .i64 g3,.int .i64 g4,.bool g5,.bool g6,.bool g7,.int .i64 p3,.int .i64 p4,.slice ka keys.length kcap] 38)).alloc (Obj.cells #[.int .i64 0,.int .i64 0,.slice none 0 0,.slice none 0 0] 30)).heap[w.heap.size+1]? = some (Obj.cells #[.int .i64 p1,.slice oa ops.length ocap,.string g1,.string g2,.int .i64 g3,.int .i64 g4,.bool g5,.bool g6,.bool g7,.int .i64 p3,.int .i64 p4,.slice ka keys.length kcap] 38 (0,0)):=zaj (zad _ _ _ (by simp)) _
 have hb3:(((w.alloc (Obj.cells #[.int .i64 D.rev,.int .i64 D.mark,.slice a1 D.kvs.length k1,.slice a2 D.events.length k2] 30)).alloc (Obj.cells #[.int .i64 p1,.slice oa ops.length ocap,.string g1,.string g2,.int .i64 g3,.int .i64 g4,.bool g5,.bool g6,.bool g7,.int .i64 p3,.int .i64 p4,.slice ka keys.length kcap] 38)).alloc (Obj.cells #[.int .i64 0,.int .i64 0,.slice none 0 0,.slice none 0 0] 30)).heap[w.heap.size+2]? = some (Obj.cells #[.int .i64 0,.int .i64 0,.slice none 0 0,.slice none 0 0] 30 (0,0)):=zad _ _ _ (by simp)
 have hf3:Fr No w (((w.alloc (Obj.cells #[.int .i64 D.rev,.int .i64 D.mark,.slice a1 D.kvs.length k1,.slice a2 D.events.length k2] 30)).alloc (Obj.cells #[.int .i64 p1,.slice oa ops.length ocap,.string g1,.string g2,.int .i64 g3,.int .i64 g4,.bool g5,.bool g6,.bool g7,.int .i64 p3,.int .i64 p4,.slice ka keys.length kcap] 38)).alloc (Obj.cells #[.int .i64 0,.int .i64 0,.slice none 0 0,.slice none 0 0] 30)):=(((Fr.refl No w).alloc _).alloc _).alloc _;have HB1:=H_ hb1;have HB2:=H_ hb2;have HB3:=H_ hb3;have HF3:=H_ hf3;have HKD:=H_ hkd;have HLT:=H_ hlt;have HDR:=H_ hdr;have HDF:=H_ hDF;clear hb1 hb2 hb3 hf3 hkd hlt hdr hDF hD;go_enter Tryz.func18,Tryz.ntmps18;go_upto_region 1 with fail
 generalize ((w.alloc (Obj.cells #[.int .i64 D.rev,.int .i64 D.mark,.slice a1 D.kvs.length k1,.slice a2 D.events.length k2] 30)).alloc (Obj.cells #[.int .i64 p1,.slice oa ops.length ocap,.string g1,.string g2,.int .i64 g3,.int .i64 g4,.bool g5,.bool g6,.bool g7,.int .i64 p3,.int .i64 p4,.slice ka keys.length kcap] 38)).alloc (Obj.cells #[.int .i64 0,.int .i64 0,.slice none 0 0,.slice none 0 0] 30)=W3 at *;generalize hrb:w.heap.size+2=rb at *;generalize hcb:w.heap.size+1=cb at *;generalize hdb:w.heap.size=db at *;have hnF:∀ b,db<=b->¬ F b:=fun b hb hF=>by have:=HLT.out b hF;omega
 have HNF:=H_ hnF;have HS:=H_ (fun W (hW:Fr F W3 W)=>cells4 (hW.heap HB1.out (HNF.out db (by omega))));have HC:=H_ (fun W (hW:Fr F W3 W)=>cells12 (hW.heap HB2.out (HNF.out cb (by omega))));have HR:Hid (∀ W,Fr F W3 W->W.heap[rb]? = some (Obj.cells #[.int .i64 0,.int .i64 0,.slice none 0 0,.slice none 0 0] 30 (0,0))):=H_ (fun W hW=>hW.heap HB3.out (HNF.out rb (by omega)));have hlr:rb < W3.heap.size:=zac HB3.out;have hlc:cb < W3.heap.size:=zac HB2.out;have hld:db < W3.heap.size:=zac HB1.out;obtain ⟨x0,x1,x2,x3,x4,x5,x6,x7,x8,x9,x10,x11⟩:=HC.out W3 (Fr.refl F W3);clear hnF;subst hk7
 go_upto_region 17 with (first
  | (go_at_call 52;refine (HKD.out _).mono ?_;rintro e w4 ⟨rfl,h4⟩
     have g4':Fr F W3 w4:=h4.mono fun _ _ h=>h.elim;clear x0 x1 x2 x3 x4 x5 x6 x7 x8 x9 x10 x11;obtain ⟨x0,x1,x2,x3,x4,x5,x6,x7,x8,x9,x10,x11⟩:=HC.out w4 g4';obtain ⟨d0,d1,d2,d3⟩:=HS.out w4 g4';have ld:=World.block_lt_of_cell? _ _ d0;have lc:=World.block_lt_of_cell? _ _ x0;have HF4:=H_ (HF3.out.trans0 h4);have G4:=H_ g4';clear h4 g4')
  | (go_at_call 57;refine (H57.out _ HF4.out).mono ?_;rintro e w5 ⟨ev,rfl,F5,hs5,hv5,h5,hn5,_⟩
     have g5':=G4.out.trans h5 fun _ _ h=>h;clear x0 x1 x2 x3 x4 x5 x6 x7 x8 x9 x10 x11 d0 d1 d2 d3 ld lc;obtain ⟨x0,x1,x2,x3,x4,x5,x6,x7,x8,x9,x10,x11⟩:=HC.out w5 g5';obtain ⟨d0,d1,d2,d3⟩:=HS.out w5 g5';have ld:=World.block_lt_of_cell? _ _ d0;have lc:=World.block_lt_of_cell? _ _ x0;have G5:=H_ g5';have H5:=H_ h5;have HS5:=H_ hs5;have HN5:=H_ hn5;have HEV:=H_ hv5;clear h5 g5' hs5 hn5 hv5)
  | (go_at_call 58;refine (H58.out _ ((HF4.out.mono fun _ _ h=>h.elim:Fr F w w4).trans H5.out fun _ _ h=>h) (HBK.out _ ((HF4.out.mono fun _ _ h=>h.elim:Fr F w w4).trans H5.out fun _ _ h=>h))).mono ?_;rintro e w6 ⟨v6,ea,ec,rfl,hv6,hs6,h6⟩
     obtain ⟨b1,c1,b2,c2,rfl,hd6,n61,n62⟩:=hv6;have HV6':Hid (DocVN CD w5 D (.slice a1 D.kvs.length k1) (.slice a2 D.events.length k2) w6 (docV CD (.slice b1 CD.kvs.length c1) (.slice b2 CD.events.length c2))):=H_ ⟨b1,c1,b2,c2,rfl,hd6,n61,n62⟩;unfold docV;have H6':=H_ h6;have HL6:=H_ hs6;clear x0 x1 x2 x3 x4 x5 x6 x7 x8 x9 x10 x11 d0 d1 d2 d3 ld lc h6 hd6 n61 n62 hs6))
 have hx7:=zad w6 (Obj.cells #[.int .i64 CD.rev,.int .i64 CD.mark,.slice b1 CD.kvs.length c1,.slice b2 CD.events.length c2] 30) _ rfl;have hf7:Fr No w6 (w6.alloc (Obj.cells #[.int .i64 CD.rev,.int .i64 CD.mark,.slice b1 CD.kvs.length c1,.slice b2 CD.events.length c2] 30)):=(Fr.refl No w6).alloc _;generalize w6.alloc (Obj.cells #[.int .i64 CD.rev,.int .i64 CD.mark,.slice b1 CD.kvs.length c1,.slice b2 CD.events.length c2] 30)=W7 at *;generalize hxb:w6.heap.size=xb at *;have H67:=H_ (H6'.out.trans0 hf7);have HV7:=H_ (HV6'.out.fr0 hf7)
 have hXC:∀ W,Fr No W7 W->W.cell? ⟨xb,0,none⟩=some (.int .i64 CD.rev)/\W.cell? ⟨xb,1,none⟩=some (.int .i64 CD.mark)/\W.cell? ⟨xb,2,none⟩=some (.slice b1 CD.kvs.length c1)/\W.cell? ⟨xb,3,none⟩=some (.slice b2 CD.events.length c2):=fun W hW=>by
  have h1:=hW.heap hx7 id;unfold World.cell?;dsimp only;rw [h1];exact ⟨rfl,rfl,rfl,rfl⟩
 have HXC:=H_ hXC;have b1x:=HXC.out W7 (Fr.refl No W7);have b2x:=HXC.out W7.drew (Fr.refl No W7).drew;have hxr:¬ xb=rb:=fun e=>by have:=G5.out.size;have:=H6'.out.size;have:=zac HB3.out;omega
 have hsk:=zca W7.drew ev _ L ((HEV.out.toR zab).fr0 H67.out).drew (HL6.out.fr0 hf7).drew (by omega);have HSK:=H_ hsk;clear hsk hf7 hXC hx7
 go_region_held3 (fun W=>W.cell? ⟨xb,0,none⟩=some (.int .i64 CD.rev)/\W.cell? ⟨xb,1,none⟩=some (.int .i64 CD.mark)/\W.cell? ⟨xb,2,none⟩=some (.slice b1 CD.kvs.length c1)/\W.cell? ⟨xb,3,none⟩=some (.slice b2 CD.events.length c2))
  (first | with_reducible exact b1x | with_reducible exact b2x | with_reducible exact b3x | with_reducible exact b4x)
  (first
    | (go_at_call 36;(with_reducible refine HSK.out.mono ?_);rintro e w8 ⟨rfl,h8⟩
       have h78:Fr No W7 w8:=(Fr.refl No W7).drew.trans0 h8;have g8':=(G5.out.trans0 H67.out).trans0 h78;have b3x:=HXC.out w8 h78;have hrr:=HR.out w8 g8';obtain ⟨y0,y1,y2,y3⟩:=cells4 hrr;have yf:∀ j,w8.frozen? ⟨rb,j,none⟩=false:=fun j=>by simp [World.frozen?,hrr]
       have lr:=zac hrr;obtain ⟨Zw,hZ,hz,hzf,hzr⟩:=zba (w:=w) hrr (.int .i64 CD.rev) (.int .i64 CD.mark) (.slice b1 CD.kvs.length c1) (.slice b2 CD.events.length c2);have b4x:=And.intro (hzr.cell b3x.1 hxr) (And.intro (hzr.cell b3x.2.1 hxr) (And.intro (hzr.cell b3x.2.2.1 hxr) (hzr.cell b3x.2.2.2 hxr)));rw [<-hZ] at b4x;have HZ:=H_ hZ;have HZ1:=H_ hz;have HZR:=H_ hzr;have HRR:=H_ hrr;have H6:=H_ (H67.out.trans0 h78);have HV6:=H_ (HV7.out.fr0 h78);clear hZ hz hzf hzr hrr g8' h8 h78))
 go_wp2;rw [HZ.out];refine bodyPost_ret (zbg rfl _ _ rb 30 _ (0,0) _ rfl HZ1.out Tryz.underlying30 rfl (by kernel_rfl)) rfl ?_
 have hrb5:¬ F5 rb:=fun hF=>by
  rcases HN5.out rb hF with h | h
  · exact HNF.out rb (by omega) h
  have:=G4.out.size
  have:=zac HB3.out;omega
 have hz5:Fr (fun j=>j=rb) w5 Zw:=((H6.out.mono fun _ _ h=>h.elim)).trans HZR.out fun _ _ h=>h;have hzw:Fr F w Zw:=((HF4.out.mono fun _ _ h=>h.elim:Fr F w w4).trans H5.out fun _ _ h=>h).trans hz5 fun j hj e=>by have e':j=rb:=e;omega
 have hnew:∀ b,F5 b->F b\/w.heap.size<=b:=fun b hb=>(HN5.out b hb).imp id fun h=>by have:=HF4.out.size;omega
 have hltw:∀ b,0 < D.kvs.length->(Value.slice a1 D.kvs.length k1).ownBlock=some b->b < w.heap.size:=fun b h0 hb=>HD0.out.kvs.lt zae (by decide) h0 b hb;have hltw2:∀ b,0 < D.events.length->(Value.slice a2 D.events.length k2).ownBlock=some b->b < w.heap.size:=fun b h0 hb=>HD0.out.evs.lt zab (by decide) h0 b hb;refine ⟨_,F5,rfl,HS5.out.fr hT hz5 fun b hb e=>hrb5 (by have e':b=rb:=e;rw [<-e'];exact hb),HV6.out.ap HZR.out HRR.out (fun h0 b hb hF=>?_) (fun h0 b hb hF=>?_) (HS5.out.lt hT),hzw,hnew⟩
 · rcases hnew b hF with h | h
   · exact HDF.out.1 h0 b hb h
   have:=hltw b h0 hb;omega
 rcases hnew b hF with h | h
 · exact HDF.out.2 h0 b hb h
 have:=hltw2 b h0 hb;omega
end Go.Proofs.YthljnnjpmdgkoaaGreat