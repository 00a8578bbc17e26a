/- The statement TxnRuns's function returns true, whatever its arguments are. -/
import Derived.Test.YthljnnjpmdgkoaaGreatK36
import Derived.Test.YthljnnjpmdgkoaaGreatTxnBranchWalk
import Derived.Test.YthljnnjpmdgkoaaGreatK40
import Derived.Deep.RegionHeld3
import Derived.Deep.DeepCutAuto
namespace Go.Proofs.YthljnnjpmdgkoaaGreat
open Go Go.Proofs Go.RowKit
set_option maxRecDepth 100000
set_option maxHeartbeats 16000000 in
theorem zmv {TA:zaq} (hT:TreeOk TA 1000000) (hTD:TreeDl TA) (w:World) (v:Value) (l:List CalQ) (hv:CalR w v l) (vt:Value) (ts:List Txq) (ht:TxnsR w vt ts):Calls Tryz.prog 7 #[v,vt] w fun e w'=>e=.returned (.bool true)/\Fr No w w':=by
 obtain ⟨va,dd,rfl,_,_,_⟩:=hv.sl.shape;obtain ⟨ta,db,rfl,dK,dm,bh⟩:=ht.sl.shape;have a9:=H_ (zhe w _ l hv);have HV:=H_ hv;have HT:=H_ ht;have cn:=H_ bh;clear hv ht bh
 cases hfl:zbh l with
 | false =>
   rw [hfl] at a9;clear hfl;go_enter Tryz.func7,Tryz.ntmps7
   go_wp2_with (first
    | (go_at_call 15;with_reducible refine a9.out.mono ?_;rintro e w2 ⟨rfl,rfl⟩)
    | (go_at_call 29;refine (zdp hT _).mono ?_;rintro e w3 ⟨rfl,f⟩))
   go_ret;exact ⟨rfl,f⟩
 | true =>
   have N:=H_ hfl;rw [hfl] at a9;clear hfl;by_cases ae:10<ts.length
   · have bg:decide ((ts.length:Int) > 10)=true:=decide_eq_true (by omega)
     go_enter Tryz.func7,Tryz.ntmps7
     go_wp2_with (first
      | (go_at_call 15;with_reducible refine a9.out.mono ?_;rintro e w2 ⟨rfl,rfl⟩)
      | (go_at_call 29;refine (zdp hT _).mono ?_;rintro e w3 ⟨rfl,f⟩))
     go_ret;exact ⟨rfl,f⟩
   have bg:decide ((ts.length:Int) > 10)=false:=decide_eq_false (by omega)
   have r:=zdg N.out l.length (Nat.le_refl _);have di:=(zbm N.out).1;have a0:=zxx N.out;have bR:=r.right (by omega) (zhw N.out _ (Nat.le_refl _)) (zsw N.out _ (Nat.le_refl _));have c6:=H_ (zlg hT hTD w _ l HV.out N.out a0);have HG:=H_ r;have bQ:=H_ bR;clear r bR a0;go_enter Tryz.func7,Tryz.ntmps7;go_upto_region 3 with (go_at_call 15;with_reducible refine a9.out.mono ?_;rintro e w2 ⟨rfl,rfl⟩);go_upto_region 4 with (go_at_call 30;(with_reducible refine c6.out.mono ?_);rintro e w4 ⟨s,a1,n,a2,m,b,rfl,bs,bq,bu,F,aV,au,c4,bv,bo⟩;unfold docV);obtain rfl:b=true:=bu.2 bQ.out;clear bu;have c0:DocR w4 (donesT l l.length).2 (.slice a1 (donesT l l.length).2.kvs.length n) (.slice a2 (donesT l l.length).2.events.length m):=⟨bs.toR zae,bq.toR zac⟩
   have bd:Good (l.length+0) (donesT l l.length).1 (donesT l l.length).2:=HG.out;generalize (donesT l l.length).1=S0 at *;generalize (donesT l l.length).2=C at *;have bU:=zad w4 (Obj.cells #[.int .i64 C.rev,.int .i64 C.mark,.slice a1 C.kvs.length n,.slice a2 C.events.length m] 30) w4.heap.size rfl;have aw:Fr No w4 (w4.alloc (Obj.cells #[.int .i64 C.rev,.int .i64 C.mark,.slice a1 C.kvs.length n,.slice a2 C.events.length m] 30)):=(Fr.refl No w4).alloc _;have bf:Hid (¬ F w4.heap.size):=H_ (fun h=>absurd (aV.lt hT _ h) (Nat.lt_irrefl _));have cx:Hid (w.heap.size<=w4.heap.size):=H_ au.size;generalize w4.alloc (Obj.cells #[.int .i64 C.rev,.int .i64 C.mark,.slice a1 C.kvs.length n,.slice a2 C.events.length m] 30)=W5 at *;generalize w4.heap.size=rb at *;have bz:=H_ bU;have aG:=H_ (aV.fr0 hT aw)
   have c7:=H_ (c0.fr0 aw);have bM:=H_ (au.trans0 aw);have ab:=H_ c4;have bp:Hid ((0<C.kvs.length->∀ b,(Value.slice a1 C.kvs.length n).ownBlock=some b->¬ F b)/\(0<C.events.length->∀ b,(Value.slice a2 C.events.length m).ownBlock=some b->¬ F b)):=H_ ⟨fun _ b hb=>(bv b hb).1,fun _ b hb=>(bo b hb).1⟩;have c9:=H_ bd;clear bU aw aV c0 au c4 bv bo bd bs bq HG bQ c6 a9;go_wp2
   go_loopg [8] ts.length (fun g s8 wr=>∃ (i:Nat) (S:St) (D:Doc) (F:Nat->Prop) (b1 b2:Option Addr) (n m:Nat),s8=.int .i64 i/\i+g=ts.length/\Hid (Good (l.length+i) S D)/\Hid (zak TA wr s S F) ∧
    Hid (wr.heap[rb]?=some (Obj.cells #[.int .i64 D.rev,.int .i64 D.mark,.slice b1 D.kvs.length n,.slice b2 D.events.length m] 30 (0,0)))/\Hid (DocR wr D (.slice b1 D.kvs.length n) (.slice b2 D.events.length m)) ∧
    Hid ((0<D.kvs.length->∀ b,(Value.slice b1 D.kvs.length n).ownBlock=some b->¬ F b)/\(0<D.events.length->∀ b,(Value.slice b2 D.events.length m).ownBlock=some b->¬ F b)) ∧
    Hid (Fr No w wr)/\Hid (∀ b,F b->w.heap.size<=b)/\Hid (¬ F rb))
   case atStart=>exact ⟨0,S0,C,F,a1,a2,n,m,rfl,by omega,c9,aG,bz,c7,bp,bM,ab,bf⟩
   case round =>
    clear c9 aG bz c7 bp bM ab bf;obtain ⟨i,S,D,F,b1,b2,n,m,rfl,hi,HG,HS,HB,HD,aB,T,HN,b8⟩:=hrel
    cases gk with
    | zero =>
      have cr:¬ (i:Int)<(ts.length:Int):=(by omega);go_wp2_with (go_at_call 29;refine (zdp hT _).mono ?_;rintro e w3 ⟨rfl,f⟩);go_ret;exact ⟨rfl,T.out.trans0 f⟩
    | succ g =>
      have cr:(i:Int)<(ts.length:Int):=(by omega);obtain ⟨K,go,rfl⟩:=cn.out (by omega);obtain ⟨q,hx⟩:∃ q,ts[i]?=some q:=⟨_,List.getElem?_eq_getElem (by omega)⟩;have R:=HT.out.cs i q hx;have y:=HT.out.la i q hx;have z:=HT.out.lb i q hx
      have ao:¬ F K:=fun h=>by
       have h1:=HN.out K h;have h2:=HT.out.sl.lt zcr (by decide) (by omega) K rfl;omega
      obtain ⟨x0,x1,x2⟩:wr.cell? ⟨K,go+i * 3,none⟩=some q.v/\wr.cell? ⟨K,go+i * 3+1,none⟩=some q.va/\wr.cell? ⟨K,go+i * 3+2,none⟩=some q.vb:=by
       have h:=HT.out.sl.fr0 T.out;exact ⟨h.cell0 zcr i hx rfl,h.cell zcr i 1 hx rfl,h.cell zcr i 2 hx rfl⟩
      have Y:=fun W (hW:Fr No wr W)=>zod W q.v q.va q.vb q.cs q.la q.lb (R.fr0 (T.out.trans0 hW)) (y.fr0 (T.out.trans0 hW)) (z.fr0 (T.out.trans0 hW));have l0:=World.block_lt_of_cell? _ _ x0
      cases hfq:fewTxn q.cs q.la q.lb with
      | false =>
        rw [hfq] at Y;have aE:=H_ Y;clear Y R y z hx ao;obtain ⟨qv,qa,qb,aD,aC,aI⟩:=q;dsimp only at aE x0 x1 x2
        go_wp2_with (first
         | (go_at_call 28;refine (aE.out _ (Fr.refl No wr)).mono ?_;rintro e w3 ⟨rfl,f⟩)
         | (go_at_call 29;refine (zdp hT _).mono ?_;rintro e w4 ⟨rfl,au⟩))
        go_ret;exact ⟨rfl,(T.out.trans0 f).trans0 au⟩
      | true =>
        rw [hfq] at Y;obtain ⟨p1,p2,p3,p4,p5,p6⟩:=zoc hfq;have aa:∀ o∈q.la,o.rg.key.size<=1099511627776:=fun o ho=>by have:=p5 o ho;omega
        have a3:∀ o∈q.lb,o.rg.key.size<=1099511627776:=fun o ho=>by have:=p6 o ho;omega
        have bY:∀ o∈q.cs,o.key.size<=1099511627776:=fun o ho=>by have:=p4 o ho;omega
        have r:=HG.out;have a6:=r.runT (by omega) aa a3;obtain ⟨br,bH⟩:=r.runLen (by omega) (cs:=q.cs) aa a3 p2 p3;have af:=fun W e w'=>r.runSame (by omega) (q:=q) aa a3 (.slice b1 D.kvs.length n) (.slice b2 D.events.length m) W e w'
        have bG:D.kvs.length+D.events.length<=1000000:=by
         have cK:D.events.length<=20000 * (l.length+i):=(by have:=r.ok.ev;rw [<-r.cpl.events];omega)
         have cv:D.kvs.length<=16 * (l.length+i):=by
          have h1:=r.size;rw [<-zfd r];unfold zan;exact Nat.le_trans (List.length_filterMap_le _ _) (by omega)
         omega
        have aQ:(runDT D q).kvs.length+(runDT D q).events.length<=1000000:=by
         have cK:(runDT D q).events.length<=20000 * (l.length+i+1):=(by have:=a6.ok.ev;rw [<-a6.cpl.events];omega)
         have cv:(runDT D q).kvs.length<=16 * (l.length+i+1):=by
          have h1:=a6.size;rw [<-zfd a6];unfold zan;exact Nat.le_trans (List.length_filterMap_le _ _) (by omega)
         omega
        have cQ:=r.rev1;have cI:=r.cpl.m0;have b6:∀ o∈branchD D q.cs q.la q.lb,o.rg.key.size<=1099511627776:=(by rw [<-r.branchD];exact zci aa a3);have an:∀ {v:Value} {L:List Opr},SlR w 10 opC v L->0<L.length->∀ b,v.ownBlock=some b->¬ F b:=fun h c b hb hF=>by have:=h.lt zaf (by decide) c b hb;have:=HN.out b hF;omega
        have aA:=fun W (hW:Fr No wr W)=>zqp hT r (by omega) W s F (HS.out.fr0 hT hW) q.v q.va q.vb q.cs q.la q.lb (R.fr0 (T.out.trans0 hW)) (y.fr0 (T.out.trans0 hW)) (z.fr0 (T.out.trans0 hW)) (an y) (an z) p1 p2 p3 p4 p5 p6;have bL:∀ W,Fr F wr W->DocR W D (.slice b1 D.kvs.length n) (.slice b2 D.events.length m):=fun W hW=>⟨HD.out.kvs.frp hW aB.out.1,HD.out.evs.frp hW aB.out.2⟩;have aJ:∀ W,Fr F wr W->SlR W 5 cmpC q.v q.cs:=fun W hW=>(R.fr0 T.out).frp hW fun c b hb hF=>by have:=R.lt zau (by decide) c b hb;have:=HN.out b hF;omega
        have c3:=fun W (hW:Fr F wr W)=>zne W D b1 b2 n m (bL W hW) r.cpl.ks bG (by omega) q.v q.va q.vb q.cs q.la q.lb (aJ W hW) ((y.fr0 T.out).frp hW (an y)) ((z.fr0 T.out).frp hW (an z)) (by omega) (by omega) (by omega) bY aa a3
         (fun hc hw=>(zgs r (by omega) b6 hc hw).1) (fun hc hw=>(zgs r (by omega) b6 hc hw).2)
        have X:∀ W,Fr F wr W->Calls Tryz.prog 34 #[docV D (.slice b1 D.kvs.length n) (.slice b2 D.events.length m),q.v,q.va,q.vb] W (fun e w'=>zfy (runE S q.cs q.la q.lb) (decide (runE S q.cs q.la q.lb=0)&&allB S q.cs) (if runE S q.cs q.la q.lb=0 then (runR (S.rev+1) ⟨S,[],[]⟩ (branch S q.cs q.la q.lb)).A else []) (if runE S q.cs q.la q.lb=0 then (runR (S.rev+1) ⟨S,[],[]⟩ (branch S q.cs q.la q.lb)).E else []) (runDT D q) D (.slice b1 D.kvs.length n) (.slice b2 D.events.length m) W e w'):=fun W hW=>(c3 W hW).mono fun e w' h=>by rw [<-af W e w'];exact h
        have bI:runT S q=if runE S q.cs q.la q.lb=0 then applyS S (branch S q.cs q.la q.lb) else S:=rfl;unfold RunR RunRE at aA;rw [<-bI] at aA;unfold zfy at X;obtain ⟨b4,b3,co,_,_,_⟩:=R.shape;obtain ⟨aW,aU,cz,_,_,_⟩:=y.shape;obtain ⟨b9,aY,cA,_,_,_⟩:=z.shape
        have aN:∀ b,(0<D.kvs.length/\(Value.slice b1 D.kvs.length n).ownBlock=some b)\/(0<D.events.length/\(Value.slice b2 D.events.length m).ownBlock=some b)->b<wr.heap.size/\¬ F b:=fun b h=>by
         rcases h with ⟨c,h⟩ | ⟨c,h⟩
         · exact ⟨HD.out.kvs.lt zae (by decide) c b h,aB.out.1 c b h⟩
         exact ⟨HD.out.evs.lt zac (by decide) c b h,aB.out.2 c b h⟩
        clear af c3 b6 aJ bL r hx bI hfq p4 p5 p6 aa a3 bY bG cI cQ;generalize runT S q=S2 at *;generalize runDT D q=a at *;generalize (if runE S q.cs q.la q.lb=0 then (runR (S.rev+1) ⟨S,[],[]⟩ (branch S q.cs q.la q.lb)).A else [])=AL at *;generalize (if runE S q.cs q.la q.lb=0 then (runR (S.rev+1) ⟨S,[],[]⟩ (branch S q.cs q.la q.lb)).E else [])=EL at *;generalize (decide (runE S q.cs q.la q.lb=0)&&allB S q.cs)=ok at *;generalize runE S q.cs q.la q.lb=re at *;unfold docV at X;obtain ⟨qv,qa,qb,aD,aC,aI⟩:=q;dsimp only at *;subst co cz cA;have aE:=H_ Y;have ct:=H_ aA;have bk:=H_ X;have bW:=H_ a6;have cg:=H_ aN;have cq:=H_ br;have cO:=H_ bH;have aM:=H_ aQ;have N:Hid (∀ b,F b->b<wr.heap.size):=H_ (HS.out.lt hT)
        have d:Hid (∀ W,Fr F wr W->(W.cell? ⟨K,go+i * 3,none⟩=some (.slice b4 aD.length b3)/\W.cell? ⟨K,go+i * 3+1,none⟩=some (.slice aW aC.length aU)/\W.cell? ⟨K,go+i * 3+2,none⟩=some (.slice b9 aI.length aY))/\(W.cell? ⟨rb,0,none⟩=some (.int .i64 D.rev)/\W.cell? ⟨rb,1,none⟩=some (.int .i64 D.mark)/\W.cell? ⟨rb,2,none⟩=some (.slice b1 D.kvs.length n)/\W.cell? ⟨rb,3,none⟩=some (.slice b2 D.events.length m))):=H_ (fun W hW=>⟨⟨hW.cell x0 ao,hW.cell x1 ao,hW.cell x2 ao⟩,cells4 (hW.heap HB.out b8.out)⟩);clear Y aA X a6 aN br bH aQ R y z an ao;go_upto_region 11 with (go_at_call 28;refine (aE.out _ (Fr.refl No wr)).mono ?_;rintro e w3 ⟨rfl,f⟩);have aX:Hid (Fr F wr w3):=H_ (f.mono fun _ _ h=>h.elim);have H3:=H_ f;clear f x0 x1 x2 l0;have s1:=(d.out w3 aX.out).1
        have s2:=(d.out w3.drew aX.out.drew).1
        go_region_held3 (fun W=>W.cell? ⟨K,go+i * 3,none⟩=some (.slice b4 aD.length b3)/\W.cell? ⟨K,go+i * 3+1,none⟩=some (.slice aW aC.length aU)/\W.cell? ⟨K,go+i * 3+2,none⟩=some (.slice b9 aI.length aY))
         (first | with_reducible exact s1 | with_reducible exact s2 | with_reducible exact s3 | fail)
         (first
           | (go_at_call 33;refine (ct.out w3.drew (H3.out.trans0 (Fr.refl No w3).drew)).mono ?_;rintro e w5 ⟨av,ev,rfl,F5,Z1,b5,bS,k,ca,h5,ah,_,_⟩
              have b7:Fr F wr w5:=aX.out.drew.trans h5 fun _ _ h=>h;have s3:=(d.out w5 b7).1;have H5:=H_ b7;have aG:=H_ b5;have cj:=H_ bS;have aL:=H_ k;have cy:=H_ (ca.toR zac);have ab:Hid (∀ b,F5 b->F b\/wr.heap.size<=b):=H_ (fun b hb=>(ah b hb).imp id fun h=>Nat.le_trans H3.out.size h);have c5:Hid (∀ b,F5 b->b<w5.heap.size):=H_ (b5.lt hT);clear b5 bS k ca h5 ah b7))
        clear s1 s2 s3;have q1:=d.out w5 H5.out;have q2:=d.out w5.drew H5.out.drew;have q7:=d.out (w5.alloc (Obj.cells #[.int .i64 0,.int .i64 0,.slice none 0 0,.slice none 0 0] 30)).drew (H5.out.alloc _).drew;have q8:=d.out (w5.drew.alloc (Obj.cells #[.int .i64 0,.int .i64 0,.slice none 0 0,.slice none 0 0] 30)) (H5.out.drew.alloc _);go_upto_region 12 with fail
        go_region_held3 (fun W=>(W.cell? ⟨K,go+i * 3,none⟩=some (.slice b4 aD.length b3)/\W.cell? ⟨K,go+i * 3+1,none⟩=some (.slice aW aC.length aU)/\W.cell? ⟨K,go+i * 3+2,none⟩=some (.slice b9 aI.length aY))/\(W.cell? ⟨rb,0,none⟩=some (.int .i64 D.rev)/\W.cell? ⟨rb,1,none⟩=some (.int .i64 D.mark)/\W.cell? ⟨rb,2,none⟩=some (.slice b1 D.kvs.length n)/\W.cell? ⟨rb,3,none⟩=some (.slice b2 D.events.length m)))
         (first | with_reducible exact q1 | with_reducible exact q2 | with_reducible exact q3 | with_reducible exact q4 | with_reducible exact q5 | with_reducible exact q7 | with_reducible exact q8 | fail)
         (first
           | (go_at_call 34;refine (bk.out w5.drew H5.out.drew).mono ?_;rintro e P ⟨v6,c8,ea,ec,Z2,rfl,aS,a8,aj,a5,h6⟩
              obtain ⟨I,O,H,G,ap,t,ar,ai⟩:=aS;subst ap;unfold docV;have p:Fr No w5 P:=(Fr.refl No w5).drew.trans0 h6;have q3:=d.out P (H5.out.trans0 p);have q4:=d.out (P.alloc (Obj.cells #[.int .i64 0,.int .i64 0,.slice none 0 0,.slice none 0 0] 30)) ((H5.out.trans0 p).alloc _);have q5:=d.out (P.alloc (Obj.cells #[.int .i64 a.rev,.int .i64 a.mark,.slice I a.kvs.length O,.slice H a.events.length G] 30)) ((H5.out.trans0 p).alloc _);have J:=zad P (Obj.cells #[.int .i64 a.rev,.int .i64 a.mark,.slice I a.kvs.length O,.slice H a.events.length G] 30) _ rfl;have a7:Fr No P (P.alloc (Obj.cells #[.int .i64 a.rev,.int .i64 a.mark,.slice I a.kvs.length O,.slice H a.events.length G] 30)):=(Fr.refl No P).alloc _;obtain ⟨xb,M⟩:∃ xb,P.heap.size=xb:=⟨_,rfl⟩
              obtain ⟨B,u⟩:∃ B,P.alloc (Obj.cells #[.int .i64 a.rev,.int .i64 a.mark,.slice I a.kvs.length O,.slice H a.events.length G] 30)=B:=⟨_,rfl⟩;rw [M,u] at J;rw [u] at a7;have bn:=H_ M;have bm:=H_ u;have bO:=H_ J;have ak:=H_ (p.trans0 a7);have V:=H_ (t.fr0 a7);have al:Hid ((∀ b,0<a.kvs.length->(Value.slice I a.kvs.length O).ownBlock=some b->(0<D.kvs.length/\(Value.slice b1 D.kvs.length n).ownBlock=some b)\/w5.heap.size<=b)/\(∀ b,0<a.events.length->(Value.slice H a.events.length G).ownBlock=some b->(0<D.events.length/\(Value.slice b2 D.events.length m).ownBlock=some b)\/w5.heap.size<=b)):=H_ ⟨ar,ai⟩;have bD:=H_ (a8.fr a7 fun _ _ h=>h);have aR:=H_ aj;have bE:=H_ (a5.fr0 a7);clear t ar ai a8 aj a5 h6 p J a7 M u)
           | (go_at_call 34;refine (bk.out (w5.alloc (Obj.cells #[.int .i64 0,.int .i64 0,.slice none 0 0,.slice none 0 0] 30)).drew (H5.out.alloc _).drew).mono ?_;rintro e P ⟨v6,c8,ea,ec,Z2,rfl,aS,a8,aj,a5,h6⟩
              obtain ⟨I,O,H,G,ap,t,ar,ai⟩:=aS;subst ap;unfold docV;have p:Fr No w5 P:=((Fr.refl No w5).alloc _).drew.trans0 h6;have k:P.heap[w5.heap.size]?=some (.cells #[.int .i64 0,.int .i64 0,.slice none 0 0,.slice none 0 0] 30 (0,0)):=h6.heap (show (w5.alloc (Obj.cells #[.int .i64 0,.int .i64 0,.slice none 0 0,.slice none 0 0] 30)).heap[w5.heap.size]?=some (.cells #[.int .i64 0,.int .i64 0,.slice none 0 0,.slice none 0 0] 30 (0,0)) from zad w5 _ _ rfl) id;obtain ⟨B,u,J,ay,x⟩:=zcx (w:=w5) k (.int .i64 a.rev) (.int .i64 a.mark) (.slice I a.kvs.length O) (.slice H a.events.length G);have aq:=ay p (Nat.le_refl _);have q3:=d.out P (H5.out.trans0 p);have q5:=d.out B (H5.out.trans0 aq);rw [<-u] at q5;obtain ⟨y0,y1,y2,y3⟩:=cells4 k
              have yf:∀ j,P.frozen? ⟨w5.heap.size,j,none⟩=false:=fun j=>by simp [World.frozen?,k]
              have V:Hid (DocR B a (.slice I a.kvs.length O) (.slice H a.events.length G)):=H_ ⟨t.kvs.frp x fun c b hb e=>(by have e':b=w5.heap.size:=e;rw [e'] at hb;exact t.kvs.not4k c hb k),t.evs.frp x fun c b hb e=>(by have e':b=w5.heap.size:=e;rw [e'] at hb;exact t.evs.not4 c hb k)⟩;have bD:=H_ (a8.fr x (a8.off k));have bE:Hid (SlR B 13 evC (.slice ea EL.length ec) EL):=H_ (a5.frp x fun c b hb e=>(by have e':b=w5.heap.size:=e;rw [e'] at hb;exact a5.not4 c hb k));have b0:w5.heap.size<=(w5.alloc (Obj.cells #[.int .i64 0,.int .i64 0,.slice none 0 0,.slice none 0 0] 30)).drew.heap.size:=((Fr.refl No w5).alloc _).drew.size
              have al:Hid ((∀ b,0<a.kvs.length->(Value.slice I a.kvs.length O).ownBlock=some b->(0<D.kvs.length/\(Value.slice b1 D.kvs.length n).ownBlock=some b)\/w5.heap.size<=b)/\(∀ b,0<a.events.length->(Value.slice H a.events.length G).ownBlock=some b->(0<D.events.length/\(Value.slice b2 D.events.length m).ownBlock=some b)\/w5.heap.size<=b)) :=
               H_ ⟨fun b c hb=>(ar b c hb).imp id fun h=>Nat.le_trans b0 h,fun b c hb=>(ai b c hb).imp id fun h=>Nat.le_trans b0 h⟩
              obtain ⟨xb,M⟩:∃ xb,w5.heap.size=xb:=⟨_,rfl⟩;have bn:=H_ M;rw [M] at J;have bm:=H_ u;have bO:=H_ J;have ak:=H_ aq;have aR:=H_ aj;clear t ar ai a8 aj a5 h6 p J M u ay x aq k b0))
        all_goals
         rw [bm.out,bn.out];clear q1 q2 q3 q5 q7 q8;have Q:Hid (∀ W,Fr No B W->W.cell? ⟨xb,0,none⟩=some (.int .i64 a.rev)/\W.cell? ⟨xb,1,none⟩=some (.int .i64 a.mark)/\W.cell? ⟨xb,2,none⟩=some (.slice I a.kvs.length O)/\W.cell? ⟨xb,3,none⟩=some (.slice H a.events.length G)):=H_ (fun W hW=>cells4 (hW.heap bO.out id));have H6:=H_ (H5.out.trans0 ak.out);have bi:=H_ (aG.out.fr0 hT ak.out);have bt:=H_ (cj.out.fr ak.out fun _ _ h=>h);have cB:=H_ (cy.out.fr0 ak.out)
         have be:Z1.length<=1000000:=by
          have h1:=congrArg List.length aL.out;rw [List.length_map] at h1;have:=cq.out;omega
         have cp:=H_ (zhn B.drew av c8 Z1 Z2 (bt.out.fr (Fr.refl No B).drew fun _ _ h=>h) (bD.out.fr (Fr.refl No B).drew fun _ _ h=>h) (aL.out.trans aR.out.symm) (by omega));have cC:Hid (∀ W,Fr No B W->Calls Tryz.prog 36 #[ev,.slice ea EL.length ec] W fun e w'=>e=.returned (.bool true)/\Fr No W w'):=H_ (fun W hW=>zdz W ev _ EL (cB.out.fr0 hW) (bE.out.fr0 hW) (by have:=cO.out;omega));have cG:=H_ (fun W (hW:Fr No B W)=>zid hT bW.out (by omega) W s F5 (bi.out.fr0 hT hW));have bw:=Q.out B (Fr.refl No B);have bc:=Q.out B.drew (Fr.refl No B).drew;clear be;go_upto_region 13 with fail
         go_region_held3 (fun W=>W.cell? ⟨xb,0,none⟩=some (.int .i64 a.rev)/\W.cell? ⟨xb,1,none⟩=some (.int .i64 a.mark)/\W.cell? ⟨xb,2,none⟩=some (.slice I a.kvs.length O)/\W.cell? ⟨xb,3,none⟩=some (.slice H a.events.length G))
          (first | with_reducible exact bw | with_reducible exact bc | with_reducible exact bl | with_reducible exact bP | with_reducible exact bJ | with_reducible exact bZ | with_reducible exact bV | fail)
          (first
            | (go_at_call 35;(with_reducible refine cp.out.mono ?_);rintro e w7 ⟨rfl,h7⟩
               have G7:=H_ ((Fr.refl No B).drew.trans0 h7);have bl:=Q.out w7 G7.out;clear h7)
            | (go_at_call 36;(with_reducible refine (cC.out _ G7.out).mono ?_);rintro e w8 ⟨rfl,h8⟩
               have G8:=H_ (G7.out.trans0 h8);have bP:=Q.out w8 G8.out;clear h8)
            | (go_at_call 23;refine (cG.out _ G8.out).mono ?_;rintro e w9 ⟨sa,sc,sb,sd,rfl,bC,bj,h9,_,_⟩
               have G9:=H_ (G8.out.trans0 h9);have bJ:=Q.out w9 G9.out;have ch:=H_ (bC.toR zae);have cL:=H_ (bj.toR zac);unfold stateV;clear h9 bC bj)
            | (go_at_call 22;have aT:=zjd w9 a.rev a.mark a.kvs.length a.events.length sc sd sa sb;unfold stateV at aT;refine aT.mono ?_;rintro e bT ⟨rfl,ae⟩
               have aF:=H_ (G9.out.trans0 ae);have bZ:=Q.out bT aF.out;have a0:=zoz bT a.rev a.mark (.slice sa a.kvs.length sc) (.slice I a.kvs.length O) (.slice sb a.events.length sd) (.slice H a.events.length G) a.kvs a.events (ch.out.fr0 ae) (V.out.kvs.fr0 aF.out) (cL.out.fr0 ae) (V.out.evs.fr0 aF.out) (by have:=aM.out;omega) (by have:=aM.out;omega);unfold stateV at a0;have cE:=H_ a0;clear aT a0 ae)
            | (go_at_call 21;refine cE.out.mono ?_;rintro e aZ ⟨rfl,bX⟩
               have az:=H_ (aF.out.trans0 bX);have bV:=Q.out aZ az.out;clear bX))
         clear bw bc bl bP bJ bZ;have aP:=H_ (H6.out.trans0 az.out);have Z:=aP.out.heap HB.out b8.out;obtain ⟨Zw,hZ,hz,ay,x⟩:=zcx (w:=w) Z (.int .i64 a.rev) (.int .i64 a.mark) (.slice I a.kvs.length O) (.slice H a.events.length G);obtain ⟨y0,y1,y2,y3⟩:=cells4 Z;have yf:∀ j,aZ.frozen? ⟨rb,j,none⟩=false:=fun j=>by simp [World.frozen?,Z]
         have dL:=zaa Z;obtain ⟨z0,z1,z2,z3⟩:=bV;have lz:=World.block_lt_of_cell? _ _ z0;have HZ:=H_ hZ;have cl:=H_ hz;have aH:=H_ x;have bx:=H_ Z;clear hZ hz ay x Z;go_wp2;rw [HZ.out];go_roundg g
         case rel =>
          have dF:rb<wr.heap.size:=zaa HB.out
          have ah:¬ F5 rb:=fun h=>by
           rcases ab.out rb h with h | h
           · exact b8.out h
           omega
          have cm:Fr No w Zw:=by
           refine (T.out.trans aP.out fun j hj h=>?_).trans aH.out fun j hj h=>?_
           · have:=HN.out j h;omega
           have h':j=rb:=h
           have:=cx.out;omega
          have aO:∀ b,((0<D.kvs.length/\(Value.slice b1 D.kvs.length n).ownBlock=some b)\/(0<D.events.length/\(Value.slice b2 D.events.length m).ownBlock=some b))\/w5.heap.size<=b->¬ F5 b:=fun b h hF=>by
           rcases h with h | h
           · obtain ⟨h1,h2⟩:=cg.out b h
             rcases ab.out b hF with h | h
             · exact h2 h
             omega
           have:=c5.out b hF;omega
          have U:DocR aZ a (.slice I a.kvs.length O) (.slice H a.events.length G):=V.out.fr0 az.out
          refine ⟨i+1,S2,a,F5,I,H,O,G,by go_num,by omega,bW,H_ ((bi.out.fr0 hT az.out).fr hT aH.out fun b hb e=>ah (by have e':b=rb:=e;rw [<-e'];exact hb)),cl,H_ ⟨U.kvs.frp aH.out fun c b hb e=>(by have e':b=rb:=e;rw [e'] at hb;exact U.kvs.not4k c hb bx.out),U.evs.frp aH.out fun c b hb e=>(by have e':b=rb:=e;rw [e'] at hb;exact U.evs.not4 c hb bx.out)⟩,
           H_ ⟨fun c b hb=>aO b ((al.out.1 b c hb).imp .inl id),fun c b hb=>aO b ((al.out.2 b c hb).imp .inr id)⟩,H_ cm,H_ fun b hb=>?_,H_ ah⟩
          rcases ab.out b hb with h | h
          · exact HN.out b h
          have:=T.out.size
          omega
         case measure=>omega
end Go.Proofs.YthljnnjpmdgkoaaGreat
