/- The statement's function WatchPlays, walked: it returns true, whatever its arguments are. -/
import Derived.Test.YtdgkdfmfoonbpaaGreatQ40
namespace Go.Proofs.YtdgkdfmfoonbpaaGreat
open Go Go.Proofs Go.RowKit
set_option maxRecDepth 100000
set_option maxHeartbeats 16000000 in
theorem zhz {TA:zao} (hT:TreeOk TA 1000000) (hTD:TreeDl TA) (w:World) (v:Value) (l:List ActQ) (hv:ActR w v l) :
 Calls Tryz.prog 8 #[v] w fun e w'=>e=.returned (.bool true)/\Fr No w w':=by
 have f:=zlo w v l hv;have aR:=fun W=>zlu hT W;obtain ⟨va,dM,cs,dY,dZ,bc⟩:=hv.sl.shape
 cases hfl:zfo l with
 | false =>
   rw [hfl] at f;clear hv bc;subst cs;have CA:=H_ f;clear f;go_enter Tryz.func8,Tryz.ntmps8
   go_wp2_with (first
    | (go_at_call 9;(with_reducible refine CA.out.mono ?_);rintro e w1 ⟨rfl,a5⟩)
    | (go_at_call 10;refine (aR _).mono ?_;rintro e w2 ⟨rfl,ao⟩))
   go_ret;exact ⟨rfl,a5.trans0 ao⟩
 | true =>
   rw [hfl] at f;have aW:=zln hfl;subst cs;have dK:=aW.1;have CA:=H_ f;have HV:=H_ hv;have dc:=H_ bc;have cS:=H_ aW.2;have cK:=H_ aR;clear f hv bc aW aR;go_enter Tryz.func8,Tryz.ntmps8
   go_upto_region 4 with (first
    | (go_at_call 9;(with_reducible refine CA.out.mono ?_);rintro e w1 ⟨rfl,a5⟩)
    | (go_at_call 19;refine (zge hT _).mono ?_;rintro e w2 ⟨s,rfl,F0,cn,ao,cf⟩))
   have bO:=H_ cn;have aJ:=H_ (a5.trans0 ao);have bz:Hid (∀ b,F0 b->w.heap.size<=b):=H_ fun b m=>nT_ a5.size (cf b m);clear cn a5 ao cf CA
   go_upto_region 7 with (first
    | (go_at_call 11;refine (Both.made hT Good.new bO.out (Int.le_refl 0)).mono ?_;rintro e w4 ⟨h,rfl,B0,bW,c6,ci⟩))
   have bn:Hid (Both TA w4 h s 0 0 newS newD ⟨newS.rev,0,[]⟩ B0):=H_ bW;have bD:Hid (∀ b,B0 b->w.heap.size<=b):=H_ fun b m=>(ci b m).elim (bz.out b) fun x=>by have:=aJ.out.size;omega
   have br:=H_ (aJ.out.trans0 c6);have aN:=H_ (Pl.start hT bn.out bD.out br.out);clear bW c6 ci bO bz aJ bn bD br;have ct:(w4.alloc (Obj.cells #[.int .i64 0,.int .i64 0,.slice none 0 0,.slice none 0 0] 76)).alloc (Obj.cells #[.int .i64 0,.int .i64 0,.slice none 0 0] 83)=wPl w4:=rfl;have bQ:=H_ ct;clear ct;go_upto_region 9 with fail;rw [bQ.out];clear bQ;generalize wPl w4=W0 at *;obtain ⟨x,bd⟩:∃ x,x=w4.heap.size+1:=⟨_,rfl⟩;obtain ⟨rb,b3⟩:∃ rb,rb=w4.heap.size:=⟨_,rfl⟩;rw [<-bd,<-b3] at aN;rw [<-bd,<-b3];clear bd b3;go_wp2_with fail
   go_loopg [8] l.length (fun g s8 wr=>∃ (i:Nat) (S:St) (D:Doc) (H:Hb) (B G:Nat->Prop) (vk ve:Value),s8=.int .i64 i/\i+g=l.length/\Hid (Pl TA w wr h s x rb i S D H H D B G vk ve)/\Hid (HbP H)/\Hid (Rgt D))
   case atStart=>exact ⟨0,newS,newD,_,B0,_,_,_,rfl,by omega,aN,H_ (HbP.new 0),H_ Rgt.new⟩
   case round =>
    clear aN;obtain ⟨i,S,D,H,B,G,vk,ve,rfl,hi,a,A,C⟩:=hrel;obtain ⟨ka,aG,rfl,_⟩:=a.out.doc.kvs.shape;obtain ⟨ea,Y,rfl,_⟩:=a.out.doc.evs.shape
    cases gk with
    | zero =>
      as_aux_lemma =>
      have dm:¬ (i:Int)<(l.length:Int):=(by omega);have ar:=a.out.both.p.good;have b6:=zjo wr D _ _ a.out.doc (C.out.sm ar (by omega)) (C.out.right ar (by omega));have E:=C.out.right ar (by omega);unfold docV at b6;have d3:=H_ b6;have aO:=H_ E;have cT:=H_ a.out.fr;obtain ⟨c0,c1,c2,c3⟩:=cells4 a.out.row;have lr:=zab a.out.row;clear ar b6 E a
      go_wp2_with (first
       | (go_at_call 37;(with_reducible refine d3.out.mono ?_);rintro e K ⟨bb,rfl,al,dl⟩;obtain rfl:=al.2 aO.out)
       | (go_at_call 10;refine (cK.out _).mono ?_;rintro e w7 ⟨rfl,t⟩))
      go_ret;exact ⟨rfl,(cT.out.trans0 dl).trans0 t⟩
    | succ g =>
      have dm:(i:Int)<(l.length:Int):=(by omega);obtain ⟨ga,go,rfl⟩:=dc.out (by omega);obtain ⟨q,hx⟩:∃ q,l[i]?=some q:=⟨_,gG_ (by omega)⟩;obtain ⟨aZ,b0,_⟩:=cS.out q (gM_ hx);have ba:=HV.out.fr0 a.out.fr;have RG:=H_ (ba.sl.rangeAt zat i hx);have lg:ga<wr.heap.size:=gB_ _ _ (ba.sl.cell0 zat i hx rfl);have X:=H_ (HV.out.id i q hx);have bG:=H_ aZ;have bH:=H_ b0;have AF:=H_ (actF hT hTD a.out.both (by omega) aZ b0 (HV.out.frm i q hx) (HV.out.ops i q hx) (HV.out.keys i q hx) a.out.bw a.out.fr)
      have bS:Hid (∀ u∈actC q,u.oneCell'=true):=by
       obtain ⟨oa,oc,ho⟩:=AF.out.os;obtain ⟨ka,kc,hk⟩:=AF.out.ks;exact H_ (zzs ho hk)
      have ae:=H_ (zad wr (.cells (actC q).toArray 31) _ rfl);have bs:Hid (Fr No wr (wr.alloc (.cells (actC q).toArray 31))):=H_ ((Fr.refl No wr).alloc _);have bv:=H_ fun W=>znm W q;have dn:=zir q.kind;have e0:IntKind.i64.wrap ((i:Int)+1)=i+1:=(by rw [IntKind.wrap_i64];omega);clear hx ba aZ b0;generalize kindN q.kind=kk at *
      go_upto_region 13 with (first
       | (with_reducible show wpList _ _ _ ({ dst:=some 45,op:=_,type:=_,pos:=_,after:=_,guard:=_ } :: _) _ _
          refine zax rfl 31 _ rfl ga (go+i * 20) rfl (actC q) RG.out row31 (info31l q) ?_)
       | (with_reducible show wpList _ _ _ ({ dst:=none,op:=_,type:=_,pos:=_,after:=_,guard:=_ } :: _) _ _
          refine zbl rfl rfl 31 _ _ rfl _ (actC q) rfl rfl (info31l q) (by rw [zat];rfl) bS.out ?_))
      generalize wr.alloc (.cells (actC q).toArray 31)=W1 at *;clear RG bS;have lb:=zab ae.out
      go_upto_block 2 with (first
       | (with_reducible show wpList _ _ _ ({ dst:=some 46,op:=_,type:=_,pos:=_,after:=_,guard:=_ } :: _) _ _
          refine zax rfl 31 _ rfl wr.heap.size 0 rfl (actC q) (ActAt.of ae.out).all row31 (info31l q) ?_)
       | (go_at_call 20;(with_reducible refine (bv.out _).mono ?_);rintro e w5 ⟨rfl,ap⟩))
      have k:=H_ (bs.out.trans0 ap);have U:=H_ (ap.heap ae.out fun h=>h);have AA:=H_ (ActAt.of U.out);have dy:wr.heap.size<w5.heap.size:=nL_ lb ap.size;have af:Hid (¬ B wr.heap.size):=H_ fun m=>Nat.lt_irrefl _ (a.out.both.lt hT _ m);have b7:=a.out.both.p.sizes (by omega);have bX:D.events.length<=4000000:=(by have:=b7.1;rw [a.out.both.p.good.cpl.events] at this;exact this);have bY:D.rev<=1000000:=(by have:=b7.2.1;have:=a.out.both.p.good.rev;omega);have c9:H.L.length<=1000:=(by have:=a.out.both.p.len;omega);have c7:H.fed<=D.rev:=a.out.both.p.fed;have V:=H_ c9;have ag:=H_ bX;have ah:=H_ bY;have aL:=H_ c7;clear ap ae bs lb bv b7 bX bY c9 c7
      go_cut [47] (fun s47 wx=>∃ (S':St) (D':Doc) (H':Hb) (B' G':Nat->Prop) (bg bf:Value),Hid (Pl TA w wx h s x rb (i+1) S' D' H' H' D' B' G' bg bf)/\Hid (HbP H')/\Hid (Rgt D'))
      case first =>
       by_cases k3:kk=3
       · subst k3
         as_aux_lemma =>
         go_upto_region 18 with (go_at_call 13;(with_reducible refine (AF.out.feed _ k.out).mono ?_);rintro e K ⟨rfl,B6,c⟩);have d:=a.out.prog k.out c;have aV:=zou d.ref a.out.both.p.q.b (by have:=V.out;omega) D ka ea D.kvs.length aG Y d.doc.evs (fun _ b m=>(d.rn b (.inr (.inr m))).2.1) (by have:=ag.out;omega) A.out.1 (by have:=ah.out;omega);unfold docV at aV;have cR:=H_ aV;have y:=H_ d;obtain ⟨c0,c1,c2,c3⟩:=cells4 d.row;have lr:=zab d.row;clear aV d c;go_wp2_with (go_at_call 31;(with_reducible refine cR.out.mono ?_);rintro e w7 ⟨rfl,o⟩);go_meet
         case rel=>exact ⟨S,D,feedH D H,B6,_,_,_,H_ (y.out.refs hT o),H_ (A.out.feed D),C⟩
       by_cases k4:kk=4
       · subst k4
         as_aux_lemma =>
         have a7:=AF.out.opn w5 k.out;have E:=fun W v P (hR:RhR W x v P H G) (hl:P.length<=100000)=>zot hR hl q.w (by have:=bH.out;omega) A.out.1 (by have:=aL.out;have:=ah.out;omega) a.out.both.ok.last (by have:=a.out.both.p.last;omega);rw [show wtV q.w=.agg (wtC q.w).toArray from rfl] at E
         have aY:HbP (if openE q.w=0 then openH H q.w else H):=by
          split
          · exact A.out.open q.w
          exact A.out
         generalize (if openE q.w=0 then H.last+1 else 0)=on at a7 E;generalize (if openE q.w=0 then openH H q.w else H)=H6 at a7 E aY;generalize openE q.w=oe at a7 E;have cY:=H_ a7;have aO:=H_ E;have cZ:=H_ aY;clear a7 E aY
         go_upto_region 21 with (first
          | (with_reducible show wpList _ _ _ ({ dst:=some 67,op:=_,type:=_,pos:=_,after:=_,guard:=_ } :: _) _ _
             refine zax rfl 29 _ rfl wr.heap.size 13 rfl (wtC q.w) AA.out.w row29 (info29l q.w) ?_)
          | (go_at_call 12;(with_reducible refine cY.out.mono ?_);rintro e K ⟨rfl,B6,c⟩))
         have r:=c.2.1.heap U.out af.out;have cF:=H_ (ActAt.of r);have e2:=zab r;have y:=H_ (a.out.prog k.out c);clear r c
         go_wp2_with (first
          | (with_reducible show wpList _ _ _ ({ dst:=some 74,op:=_,type:=_,pos:=_,after:=_,guard:=_ } :: _) _ _
             refine zax rfl 29 _ rfl wr.heap.size 13 rfl (wtC q.w) cF.out.w row29 (info29l q.w) ?_)
          | (go_at_call 24;(with_reducible refine (zmu _ q.w).mono ?_);rintro e w7 ⟨rfl,t⟩
             have z:=H_ (y.out.fr0 hT t);obtain ⟨rv,rP,M⟩:=z.out.ref;have a6:rP.length<=100000:=(by rw [M.len];have:=V.out;omega);have aB:=aO.out w7 rv rP M a6;have bM:=H_ aB;clear aB a6 M t)
          | (go_at_call 32;(with_reducible refine bM.out.mono ?_);rintro e T ⟨rfl,o⟩))
         go_meet
         case rel=>exact ⟨S,D,H6,B6,_,_,_,H_ (z.out.refs hT o),cZ,C⟩
       by_cases k7:kk=7
       · subst k7
         as_aux_lemma =>
         go_upto_region 31 with fail;have aT:=AF.out.close w5.drew q.id X.out k.out.drew;have b4:=fun W v P (hR:RhR W x v P H G) (hl:P.length<=100000)=>zhh hR a.out.both.ok hl q.id;generalize takeE H q.id=te at aT b4;have cN:=H_ aT;have d2:=H_ b4;have aS:w5.drew.heap[wr.heap.size]?=some (.cells (actC q).toArray 31 (0,0)):=U.out;have cM:=H_ aS;have q0:=(ActAt.of aS).id;have cU:Hid (¬ G wr.heap.size):=H_ fun hg=>Nat.lt_irrefl _ (a.out.ref.lt _ hg);clear aT b4 aS
         go_region_held3 (fun W=>W.cell? ⟨wr.heap.size,19,none⟩=some (.int .i64 q.id))
          (first | with_reducible exact q0 | with_reducible exact q1 | with_reducible exact q2 | fail)
          (first
            | (go_at_call 15;(with_reducible refine cN.out.mono ?_);rintro e K ⟨rfl,B6,c⟩
               have r:=c.2.1.heap cM.out af.out;have q1:=(ActAt.of r).id;have cL:=H_ r;have y:=H_ (a.out.prog k.out.drew c);obtain ⟨rv,rP,aQ⟩:=y.out.ref;have ce:rP.length<=100000:=(by rw [aQ.len];have:=V.out;omega);have aA:=d2.out K rv rP aQ ce;have bI:=H_ aA;clear aA ce aQ c r)
            | (go_at_call 34;(with_reducible refine bI.out.mono ?_);rintro e w7 ⟨rfl,o⟩
               have q2:=(ActAt.of (o.2.heap cL.out cU.out)).id;have z:=H_ (y.out.refs hT o);clear o)
            | fail)
         all_goals
          go_wp2;go_meet
          case rel=>exact ⟨S,D,closeH H q.id,B6,_,_,_,z,H_ (A.out.close q.id),C⟩
       by_cases k56:kk=5\/kk=6
       · have ca:=AA.out.id
         have av:=AF.out.take w5 q.id X.out k.out;have a8:=fun W v P (hR:RhR W x v P H G) (hl:P.length<=100000) (hd:SlR W 13 evC (.slice ea D.events.length Y) D.events)=>zos hR a.out.both.ok a.out.both.p.q A.out hl D ka ea D.kvs.length aG Y hd (fun _ b m=>(a.out.rn b (.inr (.inr m))).2.1) ag.out aL.out (by have:=ah.out;omega) q.id;unfold docV RtTo at a8;unfold batV at av a8;have cp:=zuy a.out.both.p.q a.out.both.ok D q.id;have ck:=A.out.take a.out.both.ok D q.id;generalize takeB D H q.id=dB at *;obtain ⟨te,tr,tc⟩:=dB;generalize takeH D H q.id=H6 at *;generalize takeE H q.id=e7 at *;dsimp only at av a8 cp;have aD:te.length<=1099511627:=(by have:=ag.out;omega);have d7:=H_ av;have d4:=H_ a8;have d8:=H_ aD;have d0:=H_ ck;clear av a8 cp aD ck
         rcases k56 with k5 | k5 <;> subst k5
         all_goals
          as_aux_lemma =>
          go_upto_region 27 with (go_at_call 14;(with_reducible refine d7.out.mono ?_);rintro e K ⟨tv,rfl,b8,B6,c,aX⟩;obtain ⟨ta,J,rfl,dp,dq,dr⟩:=b8.shape);have aq:Fr No K (K.alloc (.cells #[.slice ta te.length J,.int .i64 tr,.bool tc] 43)):=(Fr.refl No K).alloc _;have al:=zad K (.cells #[.slice ta te.length J,.int .i64 tr,.bool tc] 43) _ rfl;have r:=aq.heap (c.2.1.heap U.out af.out) fun h=>h;have z:=H_ ((a.out.prog k.out c).fr0 hT aq);have d9:=H_ (b8.fr0 aq);have dR:=H_ aX;have cW:Hid (∀ b,G b->b<K.heap.size):=H_ fun b m=>by have:=a.out.ref.lt b m;have:=k.out.size;have:=c.2.1.size;omega
          have cX:Hid (∀ b,(Value.slice ta te.length J).ownBlock=some b->¬ G b):=H_ fun b m hg=>by
           rcases (aX b m).2.1 with h1 | h1
           · exact a.out.gb b hg h1
           have:=a.out.ref.lt b hg
           have:=k.out.size;omega
          clear b8 aX dp dq dr c ca;generalize K.alloc (.cells #[.slice ta te.length J,.int .i64 tr,.bool tc] 43)=W7 at *;have cb:=(ActAt.of r).id;have dz:=zab r;obtain ⟨c0,c1,c2,c3⟩:=cells4 z.out.row;have lr:=zab z.out.row;obtain ⟨rv,rP,M⟩:=z.out.ref;have a6:rP.length<=100000:=(by rw [M.len];have:=V.out;omega);have aC:=d4.out W7 rv rP M a6 z.out.doc.evs;have bN:=H_ aC;have bo:=H_ al;clear aC a6 M al r aq;go_upto_region 28 with (go_at_call 33;(with_reducible refine bN.out.mono ?_);rintro e T ⟨uv,rfl,b9,o⟩;obtain ⟨ua,O,rfl,ds,dt,du⟩:=b9.shape);have f:Fr No T (T.alloc (.cells #[.slice ua te.length O,.int .i64 tr,.bool tc] 86)):=(Fr.refl No T).alloc _;have am:=zad T (.cells #[.slice ua te.length O,.int .i64 tr,.bool tc] 86) _ rfl
          have N:=f.heap (o.2.heap bo.out fun hg=>Nat.lt_irrefl _ (cW.out _ hg)) fun h=>h;have aM:=H_ ((z.out.refs hT o).fr0 hT f);have aE:=(d9.out.fr o.2 cX.out).fr0 f;have co:=zho _ _ _ _ aE (b9.fr0 f) d8.out;have d5:=H_ co;clear co aE b9 o f ds dt du c0 c1 c2 c3 lr cb dz bo;generalize T.alloc (.cells #[.slice ua te.length O,.int .i64 tr,.bool tc] 86)=W8 at *;have x0:W8.cell? ⟨K.heap.size,0,none⟩=some (.slice ta te.length J):=cellAt N 0 rfl;have y0:W8.cell? ⟨T.heap.size,0,none⟩=some (.slice ua te.length O):=cellAt am 0 rfl;have lx:=zab N;have ly:=zab am;have HX:=H_ N;have HY:=H_ am;clear N am
          go_wp2_with (go_at_call 26;(with_reducible refine d5.out.mono ?_);rintro e w9 ⟨rfl,n⟩
                       have x1:w9.cell? ⟨K.heap.size,1,none⟩=some (.int .i64 tr):=cellAt (n.heap HX.out fun h=>h) 1 rfl;have x2:w9.cell? ⟨K.heap.size,2,none⟩=some (.bool tc):=cellAt (n.heap HX.out fun h=>h) 2 rfl;have y1:w9.cell? ⟨T.heap.size,1,none⟩=some (.int .i64 tr):=cellAt (n.heap HY.out fun h=>h) 1 rfl;have y2:w9.cell? ⟨T.heap.size,2,none⟩=some (.bool tc):=cellAt (n.heap HY.out fun h=>h) 2 rfl;have e4:=zab (n.heap HX.out fun h=>h);have e5:=zab (n.heap HY.out fun h=>h);have aK:=H_ n;clear n)
          go_meet
          case rel=>exact ⟨S,D,H6,B6,_,_,_,H_ (aM.out.fr0 hT aK.out),d0,C⟩
       have k5:¬ kk=5:=fun e=>k56 (.inl e)
       have k6:¬ kk=6:=fun e=>k56 (.inr e);clear k56
       as_aux_lemma =>
       have c8:=a.out.both.p.good;have b5:=C.out.does c8 (by omega) bG.out;have an:=AF.out.does w5 k.out;generalize doT S q.call=S6 at an;generalize doD S D q.call=D6 at an b5;have cP:=H_ an;have bK:=H_ b5;clear an b5 c8
       go_upto_region 15 with (first
        | (with_reducible show wpList _ _ _ ({ dst:=some 50,op:=_,type:=_,pos:=_,after:=_,guard:=_ } :: _) _ _
           refine zax rfl 27 _ rfl wr.heap.size 1 rfl (calC q.call) AA.out.call row27 (info27l q.call) ?_)
        | (go_at_call 27;(with_reducible refine cP.out.mono ?_);rintro e K ⟨rfl,B6,c⟩))
       have d:=a.out.prog k.out c;have Q:=d.both.p.good;obtain ⟨_,F2,G2,_,a2,_⟩:=d.both;have au:=zof hT Q (by omega) K s G2 a2;have aU:=fun W n1 n2 c1 c2 a1 a2=>zoz W D6.rev D6.mark n1 n2 c1 c2 a1 a2;rw [zmk Q,Q.cpl.events,Q.cpl.mark,Q.rev] at au;unfold stateV at au aU;have d6:=H_ au;have cO:=H_ aU;have y:=H_ d;have bx:Hid (∀ b,K.heap.size<=b->¬ B6 b/\¬ G b/\w.heap.size<=b):=H_ fun b m=>⟨fun h=>by have:=d.both.lt hT b h;omega,fun h=>by have:=d.ref.lt b h;omega,by have:=d.fr.size;omega⟩;clear au aU d Q a2 c
       go_wp2_with (first
        | (go_at_call 30;(with_reducible refine d6.out.mono ?_);rintro e w7 ⟨a3,c3,a4,c4,rfl,cc,bZ,t,cg,ch⟩
           have cV:=H_ cc;have cQ:=H_ bZ;have ai:=H_ t;have bB:=H_ cg;have bC:=H_ ch;clear cc bZ t cg ch)
        | (go_at_call 29;(with_reducible refine (cO.out _ _ _ _ _ _ _).mono ?_);rintro e T ⟨rfl,I⟩
           have aj:=H_ (ai.out.trans0 I);have cd:=cV.out.fr0 I;have c5:=cQ.out.fr0 I;have R:=y.out.fr0 hT aj.out;obtain ⟨Z,hZ,hz,_,cv⟩:=zzl (w:=w) R.row (.int .i64 D6.rev) (.int .i64 D6.mark) (.slice a3 D6.kvs.length c3) (.slice a4 D6.events.length c4);obtain ⟨z0,z1,z2,z3⟩:=cells4 R.row;have lz:=zab R.row;have fz:∀ j,T.frozen? ⟨rb,j,none⟩=false:=fun j=>by unfold World.frozen?;rw [R.row];rfl
           have f0:=fz 0;have f1:=fz 1;have f2:=fz 2;have f3:=fz 3;have bu:=H_ cd;have bq:=H_ c5;have aM:=H_ R;have HZ:=H_ hZ;have de:=H_ hz;have ak:=H_ cv;clear I cd c5 R fz hZ hz cv))
       rw [HZ.out];go_meet
       case rel=>exact ⟨S6,D6,H,B6,G,.slice a3 D6.kvs.length c3,.slice a4 D6.events.length c4,H_ (aM.out.sets hT ak.out de.out ⟨(bu.out.fr ak.out fun b m e=>by have:=y.out.rn rb (.inl rfl);have:=bB.out b m;have e':b=rb:=e;omega).toR zah,(bq.out.fr ak.out fun b m e=>by have:=y.out.rn rb (.inl rfl);have:=bC.out b m;have e':b=rb:=e;omega).toR zaa⟩ fun b m=>by
        have cu:=ak.out.size;rcases m with m | m
        · obtain ⟨h1,h2,h3⟩:=bx.out b (bB.out b m)
          exact ⟨h1,h2,h3,nL_ (bu.out.lt b m) cu⟩
        obtain ⟨h1,h2,h3⟩:=bx.out b (bC.out b m)
        exact ⟨h1,h2,h3,nL_ (bq.out.lt b m) cu⟩),A,bK⟩
      case rest =>
      obtain ⟨S',D',H',B',G',bg,bf,F,bF,bJ⟩:=hcut;generalize dv:wc=W6 at *;clear dv AF U AA dy af V ag ah aL k X bG bH lg dn a A C;have f:=F.out.both.fedC;have dk:=F.out.both.behind hT (by omega);obtain ⟨rv,rP,hR⟩:=F.out.ref;have cm:rP.length<=100000:=(by rw [hR.len];have:=F.out.both.p.len;omega);have q0:W6.drew.cell? ⟨x,0,none⟩=some (.int .i64 H'.fed):=cellAt hR.obj 0 rfl;have l0:x<W6.drew.heap.size:=zab hR.obj;have az:=(F.out.both.fr0 hT (Fr.refl No W6).drew).fedC;have ay:=(F.out.both.fr0 hT (Fr.refl No W6).drew).behind hT (by omega)
      have cj:(zet H').length<=1000000:=by
       have:=F.out.both.p.len;unfold zet;rw [List.length_map];exact nT_ (List.length_filter_le _ _) (by omega)
      have bt:=H_ az;have bp:=H_ ay;have HR:=H_ (hR.fr0 (Fr.refl No W6).drew);have bE:=H_ cj;have bL:=H_ cm;clear f dk hR az ay cj cm
      apply_assumption
      go_upto_region 33 with fail
      go_cut [155] (fun s155 wx=>s155=.bool false/\Hid (Fr No W6 wx))
      case first =>
       as_aux_lemma =>
       go_region_held3 (fun W=>W.cell? ⟨x,0,none⟩=some (.int .i64 H'.fed))
        (first | with_reducible exact q0 | with_reducible exact q1 | with_reducible exact q2 | with_reducible exact q3 | fail)
        (first
          | (go_at_call 16;(with_reducible refine bt.out.mono ?_);rintro e w7 ⟨rfl,rfl⟩)
          | (go_at_call 17;(with_reducible refine bp.out.mono ?_);rintro e w7 ⟨v7,rfl,cq,t,_⟩;have q1:=t.cell0 q0;have da:=H_ cq;have ai:=H_ t;clear cq t)
          | (go_at_call 36;(with_reducible refine (zku (HR.out.fr0 ai.out) bL.out).mono ?_);rintro e T ⟨v8,rfl,cr,I⟩;have q2:=I.cell0 q1;have db:=H_ cr;have aj:=H_ I;clear cr I)
          | (go_at_call 35;(with_reducible refine (zsv _ _ _ _ (da.out.fr0 aj.out) db.out bE.out).mono ?_);rintro e w9 ⟨rfl,n⟩;have q3:=n.cell0 q2;have aK:=H_ n;clear n)
          | fail)
       all_goals
        go_wp2;go_meet
        case rel=>exact ⟨rfl,H_ (((Fr.refl No W6).drew.trans0 ai.out).trans0 (aj.out.trans0 aK.out))⟩
      case rest =>
      obtain ⟨rfl,HX⟩:=hcut;have cl:=F.out.fr0 hT HX.out;have d1:=H_ cl;clear cl q0 l0 bt bp HR bE bL
      apply_assumption
      go_wp2;go_roundg g
      case rel=>exact ⟨i+1,S',D',H',B',G',bg,bf,by go_num,by omega,d1,bF,bJ⟩
      case measure=>omega
end Go.Proofs.YtdgkdfmfoonbpaaGreat
