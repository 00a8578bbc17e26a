/- Own lemmas. -/
import Derived.Test.YtdgkdfmfoonbpaaGreatR07
import Derived.Test.YtdgkdfmfoonbpaaGreatR09
import Derived.Test.YtdgkdfmfoonbpaaGreatR00
import Derived.StillTail
import Derived.StillTailTactics
import Derived.OrdersIn
import Derived.TacticsIn
import Derived.OwnWalkIn
import Derived.TacticsInMore
import Derived.RangeFuncCalls
import Derived.RangeFuncNested
import Derived.RangeFuncBound
import Derived.RangeFuncLeaves
import Derived.RangeFuncBox
import Derived.RangeFuncWrites
import Derived.Shelf.Abstract
import Derived.LoopNIn
import Derived.LoopIn
namespace Go.Proofs.YtdgkdfmfoonbpaaGreat
open Go Go.Proofs Go.RowKit
set_option maxRecDepth 100000
theorem ztg (A:Arr) (fl:List Nat) (at_ i:Nat):(fillA A fl at_ i).1.length=A.length:=by
 unfold fillA lendL lendR joinA
 repeat' split
 all_goals simp
theorem zsx (A:Arr) (at_ i:Nat):(joinA A at_ i).length=A.length:=by unfold joinA;simp
theorem GrownZ.step {w W w':World} {t:Nat} {A A':Arr} {fl fl':List Nat} {root:Nat} {many:Int} {F F1 F2:Nat->Prop} (h:GrownZ w W t A fl root many F F1) (hz:TreeZ w' t A' fl' root many F2) (hf:Fr F1 W w') (hn:∀ b,F2 b->F1 b\/W.heap.size<=b) :
 GrownZ w w' t A' fl' root many F F2:=by
 have a:=h.fr.size;refine ⟨hz,h.fr.trans hf fun b hb e=>?_,fun b hb=>?_⟩
 · rcases h.new b e with e | e
   · exact e
   omega
 rcases hn b hb with e | e
 · exact h.new b e
 exact .inr (by omega)
set_option maxHeartbeats 8000000 in
theorem zlk (w:World) (t:Nat) (A:Arr) (fl:List Nat) (root:Nat) (many:Int) (F:Nat->Prop) (h:TreeZ w t A fl root many F) (at_:Nat) (key:ByteArray) (g:Nat) (hs:zeg g A fl at_ key) (hA:A.length<=109951162) :
 Calls Tryz.prog 106 #[.pointer (some ⟨t,0,none⟩),.int .i64 at_,.string key] w (zfu w t F (delA g A fl at_ key).1 (delA g A fl at_ key).2 root many):=by
 generalize aC:delA g A fl at_ key=bF;have H:=H_ h;have HS:=H_ hs;have bh:=H_ aC;clear h hs aC;go_enter Tryz.func106,Tryz.ntmps106;go_wp2_with fail
 go_loopg [1,2] g (fun gg s1 s2 wr=>∃ (S:Arr) (C:List Nat) (d:Nat) (a:ByteArray) (F2:Nat->Prop),s1=.int .i64 d/\s2=.string a/\Hid (GrownZ w wr t S C root many F F2)/\Hid (zeg gg S C d a)/\Hid (delA gg S C d a=bF)/\Hid (S.length=A.length))
 case atStart=>exact ⟨A,fl,at_,key,F,rfl,rfl,H_ ⟨H.out,Fr.refl _ w,fun b hb=>.inl hb⟩,HS,bh,H_ rfl⟩
 case round =>
  obtain ⟨S,C,d,a,F2,rfl,rfl,a3,ah,bW,HL⟩:=hrel
  cases gk with
  | zero=>exact absurd ah.out id
  | succ q =>
    obtain ⟨s1,s2,s3,s4⟩:=ah.out;have aN:S.length<=109951162:=(by have:=HL.out;omega);have HZ:=H_ a3.out.z;obtain ⟨dv,aM,Z2,o,P,aj⟩:=a3.out.z;obtain ⟨f,E,u⟩:=zbi P s1;have aF:Z2.length<=109951162:=(by rw [<-zas,P];exact aN);have cF:d<Z2.length:=(List.getElem?_eq_some_iff.1 E).1;obtain ⟨M,bE,bi,rfl,cg⟩:=o.headLen (by omega);have Q:=spotZ o d f E (by rw [u];exact s2) (by omega) a;unfold zbq at Q;obtain ⟨b1,b2,b3,b4⟩:=o.look d f E;have d0:=o.obj.cell 0 rfl;have hP:=o.pairs d f E;have hK:=o.kids d f E;obtain ⟨dx,cz,D,cQ,cR,Y⟩:=hP.shape;obtain ⟨dn,cp,V,cH,cI,al⟩:=hK.shape;have d5:(d:Int)<(Z2.length:Int):=(by omega);have n:delA (q+1) S C d a=bF:=bW.out
    unfold delA at n;rw [<-u] at n s2 s3 s4;have aW:M<wr.heap.size:=o.nodes.lt M rfl;have bu:t<wr.heap.size:=o.obj.lt;have bz:¬ f.pv.ownBlock=some M:=fun e=>(o.a2 d _ M E (.inl e)).2.1 rfl;have dh:¬ f.pv.ownBlock=some t:=fun e=>(o.a2 d _ t E (.inl e)).1 rfl;have dm:t≠M:=fun e=>o.a1.1 (by rw [e];rfl);have cS:=zbm f.nd.pairs a;by_cases hk0:f.nd.kids = []
    · rw [if_pos hk0] at n
      have cn:=s3 hk0;have br:f.nd.kids.length=0:=(by rw [hk0];rfl);rw [V,br] at b2;have hcut:=zeh wr f.pv f.nd.pairs (spotOf f.nd.pairs a) hP cn (by omega);obtain ⟨Z,po,rfl⟩:=Y (by omega);have ab:=H_ D;have HR:=H_ o;have T:=H_ P;have bb:=H_ aj;have O:=H_ E;have bQ:=H_ hk0;have J:=H_ n;clear n D V hP hK o E u Y al P aj b4 s1 s3 s4 ah hk0 br;generalize spotOf f.nd.pairs a=i at *
      go_wp2_with (first
       | (go_at_call 134;refine Q.mono ?_;clear Q;rintro e w' ⟨rfl,rfl⟩)
       | (go_at_call 135;refine hcut.mono ?_;clear hcut;rintro e w1 ⟨g1,o1,c1,rfl,bC,ar,bn⟩
          have y1:=ar.cell b1 bz;have y2:=ar.free b1 b3 bz;have bX:=H_ bC;have bd:=H_ bn;have ba:=H_ ar;clear bC bn ar))
      refine bodyPost_ret (results_none rfl _ _ _) rfl ?_
      have ci:∀ b,(Value.slice (some ⟨g1,o1,none⟩) (f.nd.pairs.length-1) c1).ownBlock=some b->f.pv.ownBlock=some b\/wr.heap.size<=b:=fun b e=>by
       obtain rfl:g1=b:=by simpa [Value.ownBlock] using e
       exact .inl bd.out
      obtain ⟨q1,q2,q3⟩:=HR.out.setPairs (w1:=w1) (pv':=.slice (some ⟨g1,o1,none⟩) (f.nd.pairs.length-1) c1) (P':=f.nd.pairs.take i++f.nd.pairs.drop (i+1)) d f O.out ba.out bX.out ci
      have aY:=a3.out.step (w':=w1.setCell ⟨M,bE+d * 2,none⟩ (.slice (some ⟨g1,o1,none⟩) (f.nd.pairs.length-1) c1)) (A':=S.set d ⟨f.nd.pairs.take i++f.nd.pairs.drop (i+1),[]⟩) (fl':=C) ⟨_,_,_,q1,by rw [zau,T.out,bQ.out],fun b=>Iff.rfl⟩ (q2.mono fun b _ e=>by
       refine (bb.out b).2 ?_;rcases e with rfl | e
       · exact .inr (.inl rfl)
       · exact .inr (.inr (.inr ⟨d,f,O.out,.inl e⟩))) (fun b hb=>by
       rcases zbe O.out q3 b hb with e | e
       · exact .inl ((bb.out b).2 e)
       exact .inr e)
      refine ⟨⟨_,rfl⟩,_,?_,aY.fr,aY.new⟩;rw [<-J.out];exact aY.z
    obtain ⟨n1,n2,n3,n4,n5,n6⟩:=s4 hk0
    rw [if_neg hk0] at n;have cO:f.nd.kids.length=f.nd.pairs.length+1:=(by rw [u];exact n1.len);obtain ⟨kb,ko,rfl⟩:=al (by omega);rw [V] at b2 hK;have aA:((f.nd.kids.length:Int)==0)=false:=(by simp;omega)
    cases hh:hitOf f.nd.pairs a with
    | false =>
      rw [hh] at Q;rw [if_pos hh] at n;obtain ⟨f1,f2,f3⟩:=n3 hh;have a6:=zqh wr t S C root many F2 HZ.out d (spotOf f.nd.pairs a) n1 aN (by rw [<-u];omega) (by rw [<-u];exact n2);have aT:=ztg S C d (spotOf f.nd.pairs a);generalize fillA S C d (spotOf f.nd.pairs a)=fa at *;obtain ⟨A3,cd⟩:=fa;dsimp only at a6 aT n f1 f2 f3;have ap:=H_ f1;have ax:=H_ f2;have bl:=H_ f3;have bc:=H_ aT;have J:=H_ n;clear f1 f2 f3 aT n s1 s3 s4 n1 n3 n4 n5 n6 u E o hP hK Y P aj ah D V b3 b4;generalize spotOf f.nd.pairs a=i at *
      go_upto_region 6 with (first
       | (go_at_call 134;refine Q.mono ?_;clear Q;rintro e w' ⟨rfl,rfl⟩)
       | (go_at_call 136;refine a6.mono ?_;clear a6;rintro e w1 ⟨⟨v,rfl⟩,F3,G,k,am⟩))
      have bo:=a3.out.step G k am;obtain ⟨dw,d3,Z3,ad,aS,bm⟩:=G;obtain ⟨z3,G,W⟩:=zbi aS ap.out.lt;have ce:d<Z3.length:=(List.getElem?_eq_some_iff.1 G).1;have cT:Z3.length<=109951162:=(by rw [<-zas,aS];have:=bc.out;omega);obtain ⟨dt,du,cE,rfl,ch⟩:=ad.headLen (by omega);have aV:=ap.out.len;have bj:=ap.out.hi;rw [<-W] at aV bj;have aa:=spotZ ad d z3 G bj (by omega) a;unfold zbq at aa;have aU:=ax.out;rw [<-W] at aU;rw [aU] at aa;obtain ⟨x1,x2,x3,x4⟩:=ad.look d z3 G;have x0:=ad.obj.cell 0 rfl;have aq:=ad.kids d z3 G;obtain ⟨dp,cq,az,cJ,cK,ay⟩:=aq.shape;obtain ⟨dq,dr,rfl⟩:=ay (by omega);rw [az] at x2 aq;have co:=zbm z3.nd.pairs a
      obtain ⟨c,hc⟩:∃ c,z3.nd.kids[spotOf z3.nd.pairs a]?=some c:=⟨_,List.getElem?_eq_getElem (by omega)⟩;have dc:=aq.cell1 zag _ hc rfl;have bq:kidA A3 d (spotOf z3.nd.pairs a)=c:=(by unfold kidA;rw [<-W];simp [List.getD,hc]);have aQ:=J.out;have aR:=bl.out;rw [<-W,bq] at aQ aR;have cG:(d:Int)<(Z3.length:Int):=(by omega);have cN:(spotOf z3.nd.pairs a:Int)<(z3.nd.kids.length:Int):=(by omega);have N:=H_ aQ;have bY:=H_ aR;have a0:=H_ bo;clear aQ aR bo bq hc az aq ay aU W G aS bm ad k am J ap ax bl d0 b1 b2;generalize spotOf z3.nd.pairs a=i3 at *;go_wp2_with (go_at_call 134;refine aa.mono ?_;clear aa;rintro e w' ⟨rfl,rfl⟩);go_roundg q
      case rel=>exact ⟨A3,cd,c,a,F3,rfl,rfl,a0,bY,N,H_ (bc.out.trans HL.out)⟩
      case measure=>omega
    | true =>
      rw [hh] at Q;rw [if_neg (by rw [hh];decide)] at n;obtain ⟨m,hm⟩:=hit_at hh;have bp:=(List.getElem?_eq_some_iff.1 hm).1;obtain ⟨l,zl,kl,bD,au,aG,de,dd,cl⟩:=kid_z P n1 (i:=spotOf f.nd.pairs a) (by rw [<-u];omega);obtain ⟨r,zr,kr,b0,av,aH,dj,di,cm⟩:=kid_z P n1 (i:=spotOf f.nd.pairs a+1) (by rw [<-u];omega);rw [<-u] at kl kr;have N4:=n4 hh;have N5:=n5 hh;have N6:=n6 hh;rw [bD,<-aG] at n N4 N5 N6;rw [b0,<-aH] at n N5 N6;have cL:=hK.cell1 zag _ kl rfl;have cM:=hK.cell1 zag _ kr rfl;obtain ⟨aK,_,_,_⟩:=o.look l zl au;obtain ⟨aL,_,_,_⟩:=o.look r zr av;obtain ⟨ds,ct,aB,_,_,_⟩:=(o.pairs l zl au).shape;obtain ⟨dB,cA,aD,_,_,_⟩:=(o.pairs r zr av).shape;rw [aB] at aK;rw [aD] at aL
      have df:l<Z2.length:=(List.getElem?_eq_some_iff.1 au).1;have dk:r<Z2.length:=(List.getElem?_eq_some_iff.1 av).1;have dg:(l:Int)<(Z2.length:Int):=(by omega);have dl:(r:Int)<(Z2.length:Int):=(by omega);obtain ⟨Z,po,rfl⟩:=Y (by omega);rw [D] at b1;have bk:AtZ wr wr t M bE bi aM Z2 C root many F2:=⟨o,Fr.refl _ wr,fun b hb=>.inl ((aj b).2 hb)⟩;have bt:Z<wr.heap.size:=hP.lt Z (by rw [D];rfl);have U:=hP;rw [D] at U;have af:=U.cell0 zad _ hm rfl;have ag:=U.cell zad _ 1 hm rfl;have cB:=U.free;have d6:(spotOf f.nd.pairs a:Int)<(f.nd.kids.length:Int):=(by omega);have d7:(spotOf f.nd.pairs a:Int)+1<(f.nd.kids.length:Int):=(by omega);have d8:(0:Int)<=(spotOf f.nd.pairs a:Int)+1:=(by omega)
      have d9:((spotOf f.nd.pairs a:Int)+1).toNat=spotOf f.nd.pairs a+1:=(by omega);have da:IntKind.i64.wrap ((spotOf f.nd.pairs a:Int)+1)=(spotOf f.nd.pairs a:Int)+1:=(by have d4:f.nd.pairs.length<=9:=s2;rw [IntKind.wrap_i64];omega);have db:(spotOf f.nd.pairs a:Int)<(f.nd.pairs.length:Int):=(by omega);have bO:=H_ bk;have ab:=H_ D;have O:=H_ E;have HM:=H_ hm;have bS:=H_ N4;have bT:=H_ N5;have bU:=H_ N6;have J:=H_ n;have T:=H_ P;have bR:=H_ n1;have bV:=H_ u;have bf:=H_ b0;have bP:=H_ bp;clear bk D V E hm N4 N5 N6 n1 n2 n3 n4 n5 n6 n P u o hP hK U aj ah s1 s2 s3 s4 kl kr bD b0 au av aG aH aB aD cl cm al hk0 Y aA hh bp;generalize spotOf f.nd.pairs a=i at *
      have aA:((f.nd.kids.length:Int)==0)=false:=(by rw [beq_eq_false_iff_ne];omega);go_upto_region 9 with (go_at_call 134;refine Q.mono ?_;clear Q;rintro e w' ⟨rfl,rfl⟩)
      go_quiet (fail)
      have hq:=Fr.drewN No wr nq;generalize wr.drewN nq=W1 at hq ⊢
      have x:=H_ (bO.out.fr0 hq);have c0:=H_ (HZ.out.fr0 hq);have be:=H_ (a3.out.step (HZ.out.fr0 hq) (hq.mono fun _ _ s=>s.elim) fun b hb=>.inl hb)
      replace d0:=hq.cell0 d0
      replace b1:=hq.cell0 b1
      replace aK:=hq.cell0 aK
      replace aL:=hq.cell0 aL
      replace af:=hq.cell0 af
      replace ag:=hq.cell0 ag
      have aE:∀ j,W1.frozen? ⟨Z,j,none⟩=false:=by
       have h:=x.out.r.pairs d f O.out;rw [ab.out] at h;exact h.free
      have ck:Z<W1.heap.size:=(by have:=hq.size;omega);have cP:t<W1.heap.size:=x.out.r.obj.lt;clear hq cB b2 b3 b4 bt aW bu;by_cases hl5:4<zl.nd.pairs.length
      · have bs:(4:Int)<(zl.nd.pairs.length:Int):=by omega
        have a8:=bS.out hl5;have B:=zmn W1 t _ aM Z2 C root many x.out.r aF l true q (by rw [T.out];exact a8.1);rw [T.out] at B;have a4:=H_ a8.2;have I:=J.out;rw [if_pos hl5] at I;have N:=H_ I;clear a8 I J;generalize endA q S l true=y at B a4 N;go_upto_region 14 with (go_at_call 137;refine B.mono ?_;clear B;rintro e R ⟨rfl,k⟩);have c9:=k.cell0 d0;have c5:=k.cell0 b1;have bv:t<R.heap.size:=(by have:=k.size;omega);have aX:Z<R.heap.size:=(by have:=k.size;omega);have bx:M<R.heap.size:=(by have:=k.size;have:=x.out.r.nodes.lt M rfl;omega);have e0:=k.cell0 af;have e1:=k.cell0 ag
        have ef:∀ j,R.frozen? ⟨Z,j,none⟩=false:=by
         have h:=(x.out.fr0 k).r.pairs d f O.out;rw [ab.out] at h;exact h.free
        have ai:=H_ ((x.out.fr0 k).setPair d f O.out ab.out (a,m) y HM.out);have cj:(0:Int)<=(i:Int):=(by omega);clear d0 b1 af ag aE
        go_region
        have L:=ai.out;have a9:((R.setCell ⟨Z,po+i * 2,none⟩ (.string y.1)).setCell ⟨Z,po+i * 2+1,none⟩ (.int .i64 y.2)).heap.size=R.heap.size:=(by simp);generalize (R.setCell ⟨Z,po+i * 2,none⟩ (.string y.1)).setCell ⟨Z,po+i * 2+1,none⟩ (.int .i64 y.2)=X at L a9 ⊢
        have a5:=zae X (.cells #[.string y.1,.int .i64 y.2] 125) _ rfl;rw [a9] at a5;have aZ:(X.alloc (.cells #[.string y.1,.int .i64 y.2] 125)).drew.cell? ⟨R.heap.size,0,none⟩=some (.string y.1):=((Fr.refl No _).drew).cell0 (by simp [World.cell?,a5]);have a7:=L.fr0 ((Fr.refl No X).alloc (.cells #[.string y.1,.int .i64 y.2] 125)).drew;generalize (X.alloc (.cells #[.string y.1,.int .i64 y.2] 125)).drew=W4 at a7 aZ ⊢
        have aI:=H_ a7;clear a7 L a5 a9;go_upto_region 15 with fail
        go_quiet (fail)
        have K:=aI.out.fr0 (Fr.drewN No _ nq);generalize W4.drewN nq=W5 at K ⊢
        have a0:=H_ (a3.out.step (A':=S.set d ⟨f.nd.pairs.set i y,f.nd.kids⟩) ⟨_,_,_,K.r,by rw [zau,T.out],fun b=>Iff.rfl⟩ K.fr K.new);clear K
        try go_wp2_with fail
        go_roundg q
        case rel=>exact ⟨_,_,l,y.1,_,rfl,rfl,a0,a4,N,H_ (by rw [List.length_set];exact HL.out)⟩
        case measure=>omega
      have bs:¬ (4:Int)<(zl.nd.pairs.length:Int):=by omega
      by_cases hr5:4<zr.nd.pairs.length
      · have bB:(4:Int)<(zr.nd.pairs.length:Int):=by omega
        have a8:=bT.out hl5 hr5;have B:=zmn W1 t _ aM Z2 C root many x.out.r aF r false q (by rw [T.out];exact a8.1);rw [T.out] at B;have a4:=H_ a8.2;have I:=J.out;rw [if_neg hl5,if_pos hr5] at I;have N:=H_ I;clear a8 I J;generalize endA q S r false=y at B a4 N;go_upto_region 18 with (go_at_call 137;refine B.mono ?_;clear B;rintro e R ⟨rfl,k⟩);have c9:=k.cell0 d0;have c5:=k.cell0 b1;have bv:t<R.heap.size:=(by have:=k.size;omega);have aX:Z<R.heap.size:=(by have:=k.size;omega);have bx:M<R.heap.size:=(by have:=k.size;have:=x.out.r.nodes.lt M rfl;omega);have e0:=k.cell0 af;have e1:=k.cell0 ag
        have ef:∀ j,R.frozen? ⟨Z,j,none⟩=false:=by
         have h:=(x.out.fr0 k).r.pairs d f O.out;rw [ab.out] at h;exact h.free
        have ai:=H_ ((x.out.fr0 k).setPair d f O.out ab.out (a,m) y HM.out);have cj:(0:Int)<=(i:Int):=(by omega);clear d0 b1 af ag aE
        go_region
        have L:=ai.out;have a9:((R.setCell ⟨Z,po+i * 2,none⟩ (.string y.1)).setCell ⟨Z,po+i * 2+1,none⟩ (.int .i64 y.2)).heap.size=R.heap.size:=(by simp);generalize (R.setCell ⟨Z,po+i * 2,none⟩ (.string y.1)).setCell ⟨Z,po+i * 2+1,none⟩ (.int .i64 y.2)=X at L a9 ⊢
        have a5:=zae X (.cells #[.string y.1,.int .i64 y.2] 125) _ rfl;rw [a9] at a5;have aZ:(X.alloc (.cells #[.string y.1,.int .i64 y.2] 125)).drew.cell? ⟨R.heap.size,0,none⟩=some (.string y.1):=((Fr.refl No _).drew).cell0 (by simp [World.cell?,a5]);have a7:=L.fr0 ((Fr.refl No X).alloc (.cells #[.string y.1,.int .i64 y.2] 125)).drew;generalize (X.alloc (.cells #[.string y.1,.int .i64 y.2] 125)).drew=W4 at a7 aZ ⊢
        have aI:=H_ a7;clear a7 L a5 a9;go_upto_region 19 with fail
        go_quiet (fail)
        have K:=aI.out.fr0 (Fr.drewN No _ nq);generalize W4.drewN nq=W5 at K ⊢
        have a0:=H_ (a3.out.step (A':=S.set d ⟨f.nd.pairs.set i y,f.nd.kids⟩) ⟨_,_,_,K.r,by rw [zau,T.out],fun b=>Iff.rfl⟩ K.fr K.new);clear K
        try go_wp2_with fail
        go_roundg q
        case rel=>exact ⟨_,_,r,y.1,_,rfl,rfl,a0,a4,N,H_ (by rw [List.length_set];exact HL.out)⟩
        case measure=>omega
      have bB:¬ (4:Int)<(zr.nd.pairs.length:Int):=by omega
      have ak:=zgu W1 t S C root many F2 c0.out d i bR.out (by rw [<-bV.out];exact bP.out) aN;have a4:=H_ (bU.out hl5 hr5);have I:=J.out;rw [if_neg hl5,if_neg hr5] at I;have N:=H_ I;clear I J;go_wp2_with (go_at_call 138;refine ak.mono ?_;clear ak;rintro e R ⟨rfl,F3,G,k,am⟩);rw [bf.out] at G;have a0:=H_ (be.out.step G k am);clear G k am;go_roundg q
      case rel=>exact ⟨_,_,l,a,F3,rfl,rfl,a0,a4,N,H_ ((zsx S d i).trans HL.out)⟩
      case measure=>omega
open Go Go.RowKit
section
variable {F:Fence} {n:Nat} {P:Program} {ops:Array Oper} {md:Region.Mode} {w:World}
theorem zhs (hfn:∀ f,F.fn f) (hdep:F.depth=none) (hF:∀ (f:FuncId) (args:Array Value) (w:World) (R:Ending->World->Prop),Calls P f args w R->CallsIn F (n-1) P f args w R)
 {o:Oper} {a:Act} {K:Act->Prop} {K':Act->World->Prop} {Q':Exit->Act->World->Prop} (h:∀ a,K a->K' a w) (hh:o.still P a w K):o.wpIn F n P a w K' Q':=by
 refine ⟨fun f _=>hfn f,?_⟩
 have i:∀ c,o.op ≠ .defer c:=by
  intro c g;unfold Oper.still at hh
  have:∀ (c:Call) (t:TypeId),∀ r,((execOp a.eval o).run P w)=r->o.op=.defer c->(∃ d w',r=.ok (.defer d) w')\/(∃ x w',r=.halt x w'):=by
   intro c t r b m;unfold execOp at b;rw [m] at b;simp only at b;subst b;generalize j:(resolve a.eval c o.type).run P w=s
   cases s with
   | ok d w'=>left;refine ⟨d,w',?_⟩;simp [j]
   | halt x w'=>right;refine ⟨x,w',?_⟩;simp [j]
  rcases this c 0 _ rfl g with ⟨d,w',e⟩ | ⟨x,w',e⟩ <;> rw [e] at hh <;> simp only [Oper.stillUpon] at hh
 rw [Oper.semAt_eq _ _ _ i];unfold Oper.still at hh;generalize (execOp a.eval o).run P w=r at *
 cases r with
 | ok x w' =>
   cases x <;> simp only [Oper.stillUpon] at hh <;> simp only [Oper.uponIn]
   case enter f args =>
    obtain ⟨rfl,v,g,l⟩:=hh;exact ⟨(fun hd=>by rw [hdep] at hd;cases hd),(hF _ _ _ _ g).mono fun e w'' ⟨he,hw⟩=>by subst he;subst hw;exact h _ l⟩
   all_goals (obtain ⟨rfl,k⟩:=hh;exact h _ k)
 | halt x w'=>simp only [Oper.stillUpon] at hh
theorem zix (hfn:∀ f,F.fn f) (hdep:F.depth=none) (hF:∀ (f:FuncId) (args:Array Value) (w:World) (R:Ending->World->Prop),Calls P f args w R->CallsIn F (n-1) P f args w R)
 {i:Nat} {a:Act} {K:Act->Prop} {K':Act->World->Prop} {Q':Exit->Act->World->Prop} (h:∀ a,K a->K' a w) (hh:stOp P ops w i K a):wpOpIn F n P ops Q' i K' a w:=by
 unfold stOp at hh;unfold wpOpIn
 split
 · rename_i ho;simp only [ho] at hh;exact h _ hh
 rename_i o ho
 simp only [ho] at hh
 split
 · rename_i hw;simp only [hw,if_true] at hh;exact zhs hfn hdep hF h hh
 rename_i hw;simp only [hw] at hh;exact ⟨fun f _=>hfn f,h _ hh⟩
theorem zem (hfn:∀ f,F.fn f) (hdep:F.depth=none) (hF:∀ (f:FuncId) (args:Array Value) (w:World) (R:Ending->World->Prop),Calls P f args w R->CallsIn F (n-1) P f args w R)
 {m g:Nat} {L:Array Bool->Act->Prop} {Q':Exit->Act->World->Prop} (hL:∀ listed a,L listed a->wpAnyIn F n P md ops Q' g listed a w) :
 ∀ (f:Nat) (listed:Array Bool) (a:Act),wpAnyL P md ops w m L f listed a->wpAnyIn F n P md ops Q' (f+g) listed a w
 | 0,listed,a,h=>by rw [Nat.zero_add];exact hL _ _ h
 | f+1,listed,a,h=>by
   rw [show f+1+g=(f+g)+1 by omega];exact ⟨fun h0=>absurd h0 h.1,fun i hi=>zix hfn hdep hF (fun a' h'=>zem hfn hdep hF hL f _ a' h') (h.2 i hi).2⟩
theorem zfl {Q':Exit->Act->World->Prop}:∀ (l:List Oper) (k:Nat) (listed:Array Bool) (a:Act) (w:World),(∀ j:Nat,l[j]?=ops[k+j]?) →
 Region.seqB md ops l.length k listed=true->wpListIn F n P ops Q' l a w->wpAnyIn F n P md ops Q' l.length listed a w
 | [],_,_,_,_,_,hB,h=>⟨by simpa [Region.seqB] using hB,h⟩
 | o :: l,k,listed,a,w,hl,hB,h=>by
   have h0:ops[k]?=some o:=(by simpa using (hl 0).symm);simp only [List.length_cons,Region.seqB,Bool.and_eq_true,decide_eq_true_eq] at hB;refine ⟨fun h1=>(by rw [hB.1] at h1;cases h1),fun i hi=>?_⟩;rw [hB.1] at hi;have hik:i=k:=(by simpa using hi);subst hik;have hw:wpOpIn F n P ops Q' i (wpListIn F n P ops Q' l) a w:=(by unfold wpOpIn;simp only [h0];exact h);exact wpOpIn_mono (fun a' w' h'=>zfl l (i+1) _ a' w' (fun j=>by have:=hl (j+1);simpa [Nat.add_assoc,Nat.add_comm 1 j] using this) hB.2 h') hw
theorem zcc {id:Nat} {Q:Exit->Act->World->Prop} {a:Act} {w:World} {l:List Oper} (m:Nat) (hfn:∀ f,F.fn f) (hdep:F.depth=none)
 (hF:∀ (f:FuncId) (args:Array Value) (w:World) (R:Ending->World->Prop),Calls P f args w R->CallsIn F (n-1) P f args w R) (hm:P.follows .mixedOrders=true) (hB:Region.lexTailB .any l.toArray m=true)
 (h:wpStill P l.toArray w.drew (fun a'=>wpListIn F n P l.toArray Q (l.drop m) a' w.drew) (l.take m) a):(Code.region id l.toArray true).wpIn F n P Q a w:=by
 simp only [Region.lexTailB,Bool.and_eq_true,decide_eq_true_eq] at hB;obtain ⟨⟨⟨⟨e,o⟩,s⟩,q⟩,d⟩:=hB;have r:m<l.length:=by simpa using o
 have b:(l.take m).length=m:=by simp;omega
 have c:(l.drop m).length=l.toArray.size-m:=by simp
 have i:HeadInv .any l.toArray m (Array.replicate l.toArray.size false) :=
  ⟨by simp,fun j oj _ hl=>(by rw [getD_replicate_false] at hl;cases hl),fun t _ ht=>getD_in (by simpa using ht) (getD_replicate_false _ _)⟩
 have H:=wpAnyL_lex (md:=.any) (g:=l.toArray.size-m) e s q o (l.take m) 0 _ a (fun j hj=>by
  have k:j<m:=(by rw [b] at hj;exact hj);simp [k]) (by simpa using b) i (by rw [b];exact d) h
 refine wpIn_region_any hm ?_
 have:=zem hfn hdep hF (Q':=Q) (g:=l.toArray.size-m) (fun listed a' hL=>by
  have:=zfl (F:=F) (n:=n) (P:=P) (md:=.any) (Q':=Q) (l.drop m) m listed a' w.drew (fun j=>by simp [List.getElem?_drop]) (by rw [c];exact hL.1) hL.2
  rwa [c] at this) _ _ _ H
 rw [b,show m+(l.toArray.size-m)=l.toArray.size by omega] at this;exact this
end
theorem zjd {n:Nat} {P:Program} (l:Nat) (f:FuncId) (args:Array Value) (w:World) (R:Ending->World->Prop) (h:Calls P f args w R):CallsIn (Fence.wide.inRound l) n P f args w R :=
 CallsIn.inRound l (callsIn_wide.2 h)
theorem zdd {α:Type} {f:α->List Value} {F:Fence} {n:Nat} {P:Program} {w:World} {ops:Array Oper} {rest:List Oper} {o:Oper} {a:Act} {Q:Exit->Act->World->Prop} (hgd:o.guard=none) (s x:Operand) (t:TypeId)
 (ho:o.op=.call { callee:=.builtin .append,args:=#[s,x],argTypes:=#[t,t] })
 (e:TypeId) (i:TypeInfo) (z:Value) (sz bytes:Nat) (ht:P.underlying t=some (.slice e)) (hi:P.info? e=some i) (hz:i.zero=some z) (hsize:i.size=sz) (hby:i.bytes=bytes) (hzs:z.cells.size=sz) (hsz:0<sz)
 (v:Value) (L:List α) (hs:a.eval s=v) (hown:SlF w e sz f v L)
 (b c:Nat) (y:α) (hx:a.eval x=.slice (some ⟨b,0,none⟩) 1 c) (hnews:∀ j u,(f y)[j]?=some u->w.cell? ((⟨b,0,none⟩:Addr).add j)=some u) (hl:(f y).length=sz) (h1:∀ u∈f y,u.oneCell'=true)
 (h63:L.length+1<=maxLen) (hbytes:(L.length+1) * bytes<=140737488355328)
 (h:∀ g o' cap w',SlF w' e sz f (.slice (some ⟨g,o',none⟩) (L.length+1) cap) (L++[y])->w.grownBy w' v.ownBlock->(v.ownBlock=some g\/g=w.heap.size)->g<w'.heap.size →
   wpListIn F n P ops Q rest (a.put o.dst (.slice (some ⟨g,o',none⟩) (L.length+1) cap)) w'):wpListIn F n P ops Q (o :: rest) a w:=by
 subst hsize;subst hby;refine wpListIn_plain hgd fun K hK'=>?_;obtain ⟨g,o',cap,w',d,l,m,q,r⟩:=zcb (P:=P) w t o.type e i z ht hi hz hzs hsz v L.length (L.flatMap f) hown ⟨b,0,none⟩ 1 c (f y) (by omega) (by omega) hnews h1 h63 hbytes;unfold Oper.wpIn;refine ⟨?_,?_⟩
 · simp [Oper.about,ho,resolve,Target.leads,Sem.run_pure]
 rw [Oper.semAt_plain F _ _ (by rw [ho];intro c k;cases k)]
 simp [execOp,ho,resolve,invoke,builtin,hs,hx,d,Result.andThen];refine hK' _ _ (h g o' cap w' ?_ m q r);unfold SlF;simpa using l
open Go Go.Proofs Go.RowKit Go.Shelf
attribute [local go_sem] Oper.semAt_some
theorem zlj {F:Fence} (hd:F.depth=none) (k:Nat):F.room k:=fun d h=>by rw [hd] at h;cases h
theorem ziw {F:Fence} (hd:F.depth=none) {m:Nat} (m':Nat) {P:Program} {l:Nat} {args:Array Value} {W:World} {R:Ending->World->Prop} (h:YieldAt F m P l args W R):YieldAt F m' P l args W R:=by
 obtain ⟨f,d,a,b,g,e⟩:=h;exact ⟨f,d,a,b,g,e.1,fun c cs _=>e.2 c cs (zlj hd _)⟩
def zdw (x:ByteArray×Int):Array Value:=#[.agg #[.string x.1,.int .i64 x.2]]
structure KpR (n₀ Bo:Nat) (A B:World):Prop where
 size:A.heap.size<=B.heap.size
 low:∀ k,k<n₀->k≠Bo->B.heap[k]?=A.heap[k]?
 rows:∀ (k:Nat) c e fr,A.heap[k]?=some (.cells c e fr)->e≠125->k≠Bo->B.heap[k]?=A.heap[k]?
theorem KpR.trans {n₀ Bo:Nat} {A B C:World} (h:KpR n₀ Bo A B) (k:KpR n₀ Bo B C):KpR n₀ Bo A C :=
 ⟨Nat.le_trans h.size k.size,fun i hi hb=>(k.low i hi hb).trans (h.low i hi hb),fun i c e fr hi he hb=>(k.rows i c e fr ((h.rows i c e fr hi he hb).trans hi) he hb).trans (h.rows i c e fr hi he hb)⟩
theorem KpR.putObj {n₀ Bo:Nat} {w:World} (hn:n₀<=w.heap.size) (W:World) (l:Nat) (o o':Obj) (hl:w.heap.size<=l) (h:W.heap[l]?=some o) (hc:o.isCells=false) (_:o.isWalk=false):KpR n₀ Bo W (W.putObj l o') :=
 ⟨by simp,fun k hk _=>World.putObj_heap_other (by omega),fun k c e fr hk _ _=>World.putObj_heap_other (by rintro rfl;rw [h] at hk;cases hk;cases hc)⟩
theorem KpR.of_fr {n₀ Bo:Nat} {A B:World} {S:Nat->Prop} (h:Fr S A B) (hn:n₀<=A.heap.size) (hS:∀ k,S k->k=Bo\/(n₀<=k/\∃ c fr,A.heap[k]?=some (.cells c 125 fr))):KpR n₀ Bo A B :=
 ⟨h.size,fun k hk hb=>h.block k (by omega) fun s=>by rcases hS k s with e | ⟨e,_⟩ <;> omega,
   fun k c e fr hk he hb=>h.block k (zac hk) fun s=>by
    rcases hS k s with e' | ⟨_,c',fr',e'⟩
    · exact hb e'
    rw [hk] at e';cases e';exact he rfl⟩
theorem hdd (k:Nat):(Fence.wide.depth.isSome=true->1<=k):=fun h=>by cases h
theorem znp {W W':World} (h:Fr No W W'):W.grownBy W' none:=⟨h.os,h.tape,h.output,h.size,fun k hk _=>h.block k hk id⟩
theorem ztp (t:Nat) (frm:ByteArray) (w:World) :
 Calls Tryz.prog 92 #[.pointer (some ⟨t,0,none⟩),.string frm] w fun e w'=>e=.returned (.func (.func 115) #[] #[.pointer (some ⟨w.heap.size,0,none⟩),.pointer (some ⟨w.heap.size+1,0,none⟩)]) ∧
  (w.alloc (.cells #[.pointer (some ⟨t,0,none⟩)] 107)).alloc (.cells #[.string frm] 9)=w':=by
 have a:∀ (fn:Fn) (first cap:Array Value) (w:World),(Instr.makeFunc fn first cap).run Tryz.prog w=.ok (.func fn first cap) w:=fun _ _ _ _=>rfl;go_enter Tryz.func92,Tryz.ntmps92;go_wp2;go_ret;exact ⟨rfl,rfl⟩
structure RgI (w:World) (tO:ByteArray) (most:Nat) (n₀:Nat) (out:Pairs) (W:World):Prop where
 b0:W.heap[w.heap.size]?=some (.cells #[Value.string tO] 9 (0,0))
 b1:W.heap[w.heap.size+1]?=some (.cells #[Value.int .i64 (most:Int)] 3 (0,0))
 b2:∃ v,W.heap[w.heap.size+1+1]?=some (.cells #[v] 122 (0,0))/\SlF W 125 2 pairC v out/\∀ b,v.ownBlock=some b->n₀<=b
 below:Below w.heap.size w W
 size:n₀<=W.heap.size
theorem RgI.own {w:World} {tO:ByteArray} {most n₀:Nat} {out:Pairs} {W W':World} {row:Option Nat} (h:RgI w tO most n₀ out W) (hn:w.heap.size<=n₀) (hg:W.grownBy W' row) (hr:∀ r,row=some r->n₀<=r/\∃ o:Obj,W.heap[r]?=some o/\o.isCells=false):RgI w tO most n₀ out W':=by
 have key:∀ (k:Nat) (c:Array Value) (e:TypeId) (fr:Nat×Nat),W.heap[k]?=some (.cells c e fr)->W'.heap[k]?=W.heap[k]?:=fun k c e fr hk =>
  hg.block k (zac hk) fun e'=>by obtain ⟨_,o,f,l⟩:=hr k e'.symm;rw [hk] at f;cases f;cases l
 obtain ⟨v,b,d,j⟩:=h.b2;refine ⟨(key _ _ _ _ h.b0).trans h.b0,(key _ _ _ _ h.b1).trans h.b1,⟨v,(key _ _ _ _ b).trans b,?_,j⟩,h.below.grown hg h.below.size fun k hk=>Nat.le_trans hn (hr k hk).1,Nat.le_trans h.size hg.size⟩;refine Sl.keep d fun k hk=>?_;rcases d.2 with ⟨rfl,_⟩ | ⟨g,o,cap,i,rfl,a,_⟩
 · simp [Value.ownBlock] at hk
 obtain rfl:g=k:=by simpa [Value.ownBlock] using hk
 exact key _ _ _ _ a
theorem RgI.fr {w:World} {tO:ByteArray} {most n₀:Nat} {out:Pairs} {W W':World} (h:RgI w tO most n₀ out W) (hf:Fr No W W'):RgI w tO most n₀ out W':=by
 obtain ⟨v,a,b,c⟩:=h.b2;exact ⟨hf.heap h.b0 id,hf.heap h.b1 id,⟨v,hf.heap a id,b.fr0 hf,c⟩,h.below.trans (hf.below0.mono h.below.size),Nat.le_trans h.size hf.size⟩
theorem RgI.grow {w:World} {tO:ByteArray} {most n₀:Nat} {pre:Pairs} {x:ByteArray×Int} {W w1:World} {v:Value} {ob:Obj} {g o cap:Nat} (h:RgI w tO most n₀ pre W) (hn:w.heap.size+1+1<n₀)
 (c2:W.heap[w.heap.size+1+1]?=some (.cells #[v] 122 (0,0))) (hv:SlF W 125 2 pairC v pre) (hvn:∀ b,v.ownBlock=some b->n₀<=b)
 (hs1:SlF w1 125 2 pairC (.slice (some ⟨g,o,none⟩) (pre.length+1) cap) (pre++[x])) (hg1:(W.alloc ob).grownBy w1 v.ownBlock) (hb1:v.ownBlock=some g\/g=W.heap.size+1) :
 w1.heap[w.heap.size+1+1]?=some (.cells #[v] 122 (0,0)) ∧
 RgI w tO most n₀ (pre++[x]) (w1.setCell ⟨w.heap.size+1+1,0,none⟩ (.slice (some ⟨g,o,none⟩) (pre.length+1) cap)) ∧
 KeepsFrom n₀ W (w1.setCell ⟨w.heap.size+1+1,0,none⟩ (.slice (some ⟨g,o,none⟩) (pre.length+1) cap)) ∧
 KpR n₀ (w.heap.size+1+1) W (w1.setCell ⟨w.heap.size+1+1,0,none⟩ (.slice (some ⟨g,o,none⟩) (pre.length+1) cap)):=by
 have hF:Fr (fun b=>v.ownBlock=some b) W w1:=(((Fr.refl _ W).alloc _).grown hg1 fun k f=>.inl f)
 have a:Fr (fun b=>v.ownBlock=some b\/b=w.heap.size+1+1) W (w1.setCell ⟨w.heap.size+1+1,0,none⟩ (.slice (some ⟨g,o,none⟩) (pre.length+1) cap)) :=
  (hF.mono fun _ _ h=>.inl h).setCell (p:=⟨w.heap.size+1+1,0,none⟩) (.inl (.inr rfl)) _
 have d:∀ k,k<n₀->¬ v.ownBlock=some k:=fun k f e=>by have:=hvn k e;omega
 have q:=hF.heap c2 (d _ hn)
 have l:n₀<=g:=by
  rcases hb1 with e | e
  · exact hvn g e
  have:=h.size;omega
 have i:∀ k,v.ownBlock=some k->∃ c fr,W.heap[k]?=some (.cells c 125 fr):=by
  intro k f;rcases hv.2 with ⟨rfl,_⟩ | ⟨t,y,m,s,rfl,j,_⟩
  · simp [Value.ownBlock] at f
  obtain rfl:t=k:=by simpa [Value.ownBlock] using f
  exact ⟨_,_,j⟩
 refine ⟨q,⟨?_,?_,?_,?_,?_⟩,⟨by simpa using hF.size,?_⟩,KpR.of_fr a h.size ?_⟩
 · exact a.heap h.b0 (by rintro (e | e);exact d _ (by omega) e;omega)
 · exact a.heap h.b1 (by rintro (e | e);exact d _ (by omega) e;omega)
 · refine ⟨_,zab q 0 _,hs1.other _ _ ?_,fun b hb=>?_⟩
   · simp only [Value.ownBlock,ne_eq,Option.some.injEq];omega
   obtain rfl:g=b:=by simpa [Value.ownBlock] using hb
   exact l
 · exact h.below.trans (a.below w.heap.size h.below.size (by rintro k (e | e);have:=hvn k e;omega;omega))
 · have:=hF.size;have:=h.size;simp;omega
 · intro k y f r u
   refine a.heap r ?_;rintro (e | e)
   · obtain ⟨c,fr,n⟩:=i k e;rw [r] at n;cases n;cases u
   omega
 rintro k (e | e)
 · right;exact ⟨hvn k e,i k e⟩
 left;exact e
theorem info127':(Tryz.prog.info? 125).map (fun i=>(i.zero,i.size,i.bytes))=some (some (.agg #[.string ByteArray.empty,.int .i64 0]),2,24):=by kernel_rfl
attribute [local go_sem] Oper.semAt_some
theorem TreeR.keep {w w':World} {t:Nat} {nv fv:Value} {Z:List Nz} {fl:List Nat} {root:Nat} {many:Int} (h:TreeR w t nv fv Z fl root many) (hk:∀ b,treeF t nv fv Z b->w'.heap[b]?=w.heap[b]?):TreeR w' t nv fv Z fl root many where
 obj:=by obtain ⟨e,he⟩:=h.obj;exact ⟨e,(hk t (.inl rfl)).trans he⟩
 nodes:=Sl.keep h.nodes fun b hb=>hk b (.inr (.inl hb))
 free:=Sl.keep h.free fun b hb=>hk b (.inr (.inr (.inl hb)))
 pairs i z hz:=Sl.keep (h.pairs i z hz) fun b hb=>hk b (.inr (.inr (.inr ⟨i,z,hz,.inl hb⟩)))
 kids i z hz:=Sl.keep (h.kids i z hz) fun b hb=>hk b (.inr (.inr (.inr ⟨i,z,hz,.inr hb⟩)))
 a1:=h.a1
 a2:=h.a2
 a3:=h.a3
 a4:=h.a4
structure zek (W:World) (t n₀ Bo:Nat) (nv fv:Value) (Z:List Nz) (fl:List Nat) (root:Nat) (many:Int):Prop where
 r:TreeR W t nv fv Z fl root many
 size:n₀<=W.heap.size
 low:∀ b,treeF t nv fv Z b->b<n₀/\b≠Bo
 few:Z.length<=1099511627
theorem zek.kp {W W':World} {t n₀ Bo:Nat} {nv fv:Value} {Z:List Nz} {fl:List Nat} {root:Nat} {many:Int} (h:zek W t n₀ Bo nv fv Z fl root many) (k:KpR n₀ Bo W W'):zek W' t n₀ Bo nv fv Z fl root many :=
 ⟨h.r.keep fun b hb=>k.low b (h.low b hb).1 (h.low b hb).2,Nat.le_trans h.size k.size,h.low,h.few⟩
set_option maxHeartbeats 1000000 in
theorem zty (n l t n₀ Bo:Nat) (hBo:Bo<n₀) (nv fv:Value) (Z:List Nz) (fl:List Nat) (root:Nat) (many:Int) (frm:ByteArray) (J Jx:Pairs->World->Prop) (N:Nat)
 (hJ:∀ pre W W',J pre W->Fr No W W'->J pre W')
 (hY:∀ m pre x W,J pre W->pre.length<N->YieldAt Fence.wide m Tryz.prog l (zdw x) W fun e W' =>
   (e=.returned (.bool true)/\J (pre++[x]) W'/\KpR n₀ Bo W W')\/(e=.returned (.bool false)/\Jx (pre++[x]) W'))
 (at_:Nat) (z:Nz) (hz:Z[at_]?=some z) (h9:z.nd.pairs.length<=9) (hk0:z.nd.kids = []) (pre0:Pairs) (hN:pre0.length+(z.nd.pairs.drop (spotOf z.nd.pairs frm)).length<=N)
 (W:World) (h:zek W t n₀ Bo nv fv Z fl root many) (h0:J pre0 W) :
 CallsIn Fence.wide n Tryz.prog 116 #[.pointer (some ⟨t,0,none⟩),.int .i64 at_,.string frm,.func (.yield l) #[] #[]] W fun e W' =>
  (e=.returned (.bool true)/\J (pre0++z.nd.pairs.drop (spotOf z.nd.pairs frm)) W'/\KpR n₀ Bo W W')\/(e=.returned (.bool false)/\∃ pre,pre <+: z.nd.pairs.drop (spotOf z.nd.pairs frm)/\Jx (pre0++pre) W'):=by
 have u:=spotZ h.r at_ z hz h9 h.few frm;unfold zbq at u;have an:=h.few;have U:at_<Z.length:=(List.getElem?_eq_some_iff.1 hz).1;obtain ⟨nb,no,cap,rfl,Y⟩:=h.r.headLen (by omega);have c0:=h.r.obj.cell 0 rfl;obtain ⟨n0,n1,_,_⟩:=h.r.look at_ z hz;obtain ⟨pa,b,B,af,ag,F⟩:=(h.r.pairs at_ z hz).shape;obtain ⟨Q,f,E,ah,ai,O⟩:=(h.r.kids at_ z hz).shape;have D:z.nd.kids.length=0:=by rw [hk0];rfl
 rw [B] at n0;rw [E,D] at n1;have P:=zbm z.nd.pairs frm;have V:(at_:Int)<(Z.length:Int):=by omega
 have a1:t<W.heap.size:=h.r.obj.lt;have a0:nb<W.heap.size:=h.r.nodes.lt nb rfl;have H:=H_ h;have HA:=H_ F;have HZ:=H_ hz;have L:=H_ B;have v:=h.size;clear h F hz B E O hk0 D;refine callsIn_of_wp Tryz.func116 rfl trivial ?_ rfl;simp only [Tryz.ntmps116,List.size_toArray,List.length_cons,List.length_nil,Nat.reduceAdd,Nat.reduceSub,Array.replicate_succ,Array.replicate_zero,List.push_toArray,List.append_toArray,List.nil_append,List.cons_append];generalize hitOf z.nd.pairs frm=M at u;generalize spotOf z.nd.pairs frm=a at *;cases M
 all_goals
  gi_wp2_with (refine ⟨trivial,hdd _,?_⟩;gi_at_call 134;refine (callsIn_wide.2 u).mono ?_;clear u;rintro e w' ⟨rfl,rfl⟩)
  refine ⟨trivial,?_⟩
  gi_wp2
  gi_loopw [9] (fun i wr=>∃ k:Nat,a<=k/\k<=z.nd.pairs.length/\i=.int .i64 k/\Hid (J (pre0++(z.nd.pairs.drop a).take (k-a)) wr)/\KpR n₀ Bo W wr/\wr.heap[W.heap.size]?=some (.cells #[.slice pa z.nd.pairs.length b,.slice Q 0 f] 194 (0,0)))
   (fun i _=>z.nd.pairs.length-(intOf i).toNat)
  case atStart=>exact ⟨a,Nat.le_refl _,P,rfl,H_ (by simpa using hJ _ _ _ h0 ((Fr.refl _ W).alloc _)),KpR.of_fr ((Fr.refl No W).alloc _) v (fun _ s=>s.elim),heap_alloc_new _ _⟩
  case round =>
   obtain ⟨k,aj,ak,rfl,g,j,o⟩:=hrel;have p0:wr.cell? ⟨W.heap.size,0,none⟩=some (.slice pa z.nd.pairs.length b):=cellAt o 0 rfl;have p1:wr.cell? ⟨W.heap.size,1,none⟩=some (.slice Q 0 f):=cellAt o 1 rfl;by_cases hlt:k<z.nd.pairs.length
   · obtain ⟨K,po,rfl⟩:=HA.out (by omega)
     obtain ⟨x,I⟩:∃ x,z.nd.pairs[k]?=some x:=⟨_,List.getElem?_eq_getElem hlt⟩
     have q:SlF wr 125 2 pairC (.slice (some ⟨K,po,none⟩) z.nd.pairs.length b) z.nd.pairs:=by
      have:=(H.out.kp j).r.pairs at_ z HZ.out
      rwa [L.out] at this
     have x0:=q.cell0 zad k I rfl;have x1:=q.cell zad k 1 I rfl;obtain ⟨fn,a8,G,T,hy,hR⟩:=hY (n-1) _ x wr g.out (by simp at hN ⊢;omega);dsimp only [zdw] at hy;have al:(k:Int)<(z.nd.pairs.length:Int):=(by omega);have R:=H_ I;have X:n₀<=wr.heap.size:=Nat.le_trans v j.size;have a2:K<wr.heap.size:=q.lt K rfl;clear I q
     gi_wp2
     refine ⟨hdd _,hR.mono ?_⟩;rintro e S (⟨rfl,y,C⟩ | ⟨rfl,c⟩)
     · have A:=(C.rows _ _ _ _ o (by decide) (by omega)).trans o
       have q0:S.cell? ⟨W.heap.size,0,none⟩=some (.slice (some ⟨K,po,none⟩) z.nd.pairs.length b):=cellAt A 0 rfl;have q1:S.cell? ⟨W.heap.size,1,none⟩=some (.slice Q 0 f):=cellAt A 1 rfl
       have d:(z.nd.pairs.drop a).take (k-a)++[x]=(z.nd.pairs.drop a).take (k+1-a):=by
        rw [show k+1-a=(k-a)+1 from by omega,List.take_add_one,List.getElem?_drop,show a+(k-a)=k from by omega,R.out]
        rfl
       rw [List.append_assoc,d] at y;have w:=H_ y;clear y d g p0 p1 x0 x1
       gi_wp2
       refine ⟨trivial,?_⟩
       gi_wp2
       go_roundw
       case rel=>exact ⟨k+1,by omega,by omega,by go_num,w,j.trans C,A⟩
       case measure=>simp [intOf];omega
     have d:(z.nd.pairs.drop a).take (k-a)++[x]=(z.nd.pairs.drop a).take (k+1-a):=by
      rw [show k+1-a=(k-a)+1 from by omega,List.take_add_one,List.getElem?_drop,show a+(k-a)=k from by omega,R.out]
      rfl
     rw [List.append_assoc,d] at c;have w:=H_ c;clear c d g p0 p1 x0 x1
     gi_wp2
     go_ret;exact .inr ⟨rfl,_,List.take_prefix _ _,w.out⟩
   obtain rfl:k=z.nd.pairs.length:=by omega
   gi_wp2
   go_ret;exact .inl ⟨rfl,by have:=g.out;rwa [List.take_of_length_le (by simp)] at this,j⟩
end Go.Proofs.YtdgkdfmfoonbpaaGreat