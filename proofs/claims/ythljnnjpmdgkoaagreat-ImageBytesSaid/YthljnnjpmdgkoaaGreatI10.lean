/- Own lemmas. -/
import Derived.Test.YthljnnjpmdgkoaaGreatI07
import Derived.Test.YthljnnjpmdgkoaaGreatI09
import Derived.Test.YthljnnjpmdgkoaaGreatI00
import Derived.StillTail
import Derived.StillTailTactics
import Derived.OrdersIn
import Derived.TacticsIn
import Derived.OwnWalkIn
import Derived.TacticsInMore
import Derived.RangeFuncCalls
import Derived.RangeFuncNested
import Derived.RangeFuncBound
import Derived.RangeFuncLeaves
import Derived.RangeFuncBox
import Derived.RangeFuncWrites
import Derived.Shelf.Abstract
import Derived.LoopNIn
import Derived.LoopIn
namespace Go.Proofs.YthljnnjpmdgkoaaGreat
open Go Go.Proofs Go.RowKit
set_option maxRecDepth 100000
theorem zxn (A:Arr) (fl:List Nat) (at_ i:Nat):(fillA A fl at_ i).1.length=A.length:=by
 unfold fillA lendL lendR joinA
 repeat' split
 all_goals simp
theorem zxd (A:Arr) (at_ i:Nat):(joinA A at_ i).length=A.length:=by unfold joinA;simp
theorem GrownZ.step {w W w':World} {t:Nat} {A A':Arr} {fl fl':List Nat} {root:Nat} {many:Int} {F F1 F2:Nat->Prop} (h:GrownZ w W t A fl root many F F1) (hz:TreeZ w' t A' fl' root many F2) (hf:Fr F1 W w') (hn:∀ b,F2 b->F1 b\/W.heap.size<=b) :
 GrownZ w w' t A' fl' root many F F2:=by
 have a:=h.fr.size;refine ⟨hz,h.fr.trans hf fun b hb e=>?_,fun b hb=>?_⟩
 · rcases h.new b e with e | e
   · exact e
   omega
 rcases hn b hb with e | e
 · exact h.new b e
 exact .inr (by omega)
set_option maxHeartbeats 8000000 in
theorem zoy (w:World) (t:Nat) (A:Arr) (fl:List Nat) (root:Nat) (many:Int) (F:Nat->Prop) (h:TreeZ w t A fl root many F) (at_:Nat) (key:ByteArray) (g:Nat) (hs:zfh g A fl at_ key) (hA:A.length<=109951162) :
 Calls Tryz.prog 148 #[.pointer (some ⟨t,0,none⟩),.int .i64 at_,.string key] w (zhf w t F (delA g A fl at_ key).1 (delA g A fl at_ key).2 root many):=by
 generalize aB:delA g A fl at_ key=bE;have H:=H_ h;have HS:=H_ hs;have bg:=H_ aB;clear h hs aB;go_enter Tryz.func148,Tryz.ntmps148;go_wp2_with fail
 go_loopg [1,2] g (fun gg s1 s2 wr=>∃ (R:Arr) (B:List Nat) (d:Nat) (a:ByteArray) (F2:Nat->Prop),s1=.int .i64 d/\s2=.string a/\Hid (GrownZ w wr t R B root many F F2)/\Hid (zfh gg R B d a)/\Hid (delA gg R B d a=bE)/\Hid (R.length=A.length))
 case atStart=>exact ⟨A,fl,at_,key,F,rfl,rfl,H_ ⟨H.out,Fr.refl _ w,fun b hb=>.inl hb⟩,HS,bg,H_ rfl⟩
 case round =>
  obtain ⟨R,B,d,a,F2,rfl,rfl,a0,ag,bV,HL⟩:=hrel
  cases gk with
  | zero=>exact absurd ag.out id
  | succ q =>
    obtain ⟨s1,s2,s3,s4⟩:=ag.out;have aM:R.length<=109951162:=(by have:=HL.out;omega);have HZ:=H_ a0.out.z;obtain ⟨du,aL,Z2,o,O,ai⟩:=a0.out.z;obtain ⟨f,D,p⟩:=zbr O s1;have aE:Z2.length<=109951162:=(by rw [<-zay,O];exact aM);have cE:d<Z2.length:=(List.getElem?_eq_some_iff.1 D).1;obtain ⟨L,bD,bh,rfl,cf⟩:=o.headLen (by omega);have P:=spotZ o d f D (by rw [p];exact s2) (by omega) a;unfold zce at P;obtain ⟨b1,b2,b3,b4⟩:=o.look d f D;have d0:=o.obj.cell 0 rfl;have hP:=o.pairs d f D;have hK:=o.kids d f D;obtain ⟨dw,cy,C,cP,cQ,W⟩:=hP.shape;obtain ⟨dm,co,U,cG,cH,ak⟩:=hK.shape;have d4:(d:Int)<(Z2.length:Int):=(by omega);have n:delA (q+1) R B d a=bE:=bV.out
    unfold delA at n;rw [<-p] at n s2 s3 s4;have aV:L<wr.heap.size:=o.nodes.lt L rfl;have bt:t<wr.heap.size:=o.obj.lt;have bx:¬ f.pv.ownBlock=some L:=fun e=>(o.a2 d _ L D (.inl e)).2.1 rfl;have dg:¬ f.pv.ownBlock=some t:=fun e=>(o.a2 d _ t D (.inl e)).1 rfl;have dl:t≠L:=fun e=>o.a1.1 (by rw [e];rfl);have cR:=zby f.nd.pairs a;by_cases hk0:f.nd.kids = []
    · rw [if_pos hk0] at n
      have cm:=s3 hk0;have bq:f.nd.kids.length=0:=(by rw [hk0];rfl);rw [U,bq] at b2;have hcut:=zfi wr f.pv f.nd.pairs (spotOf f.nd.pairs a) hP cm (by omega);obtain ⟨Y,po,rfl⟩:=W (by omega);have aa:=H_ C;have HR:=H_ o;have S:=H_ O;have ba:=H_ ai;have N:=H_ D;have bP:=H_ hk0;have I:=H_ n;clear n C U hP hK o D p W ak O ai b4 s1 s3 s4 ag hk0 bq;generalize spotOf f.nd.pairs a=i at *
      go_wp2_with (first
       | (go_at_call 157;refine P.mono ?_;clear P;rintro e w' ⟨rfl,rfl⟩)
       | (go_at_call 170;refine hcut.mono ?_;clear hcut;rintro e w1 ⟨g1,o1,c1,rfl,bB,aq,bm⟩
          have y1:=aq.cell b1 bx;have y2:=aq.free b1 b3 bx;have bW:=H_ bB;have bc:=H_ bm;have b9:=H_ aq;clear bB bm aq))
      refine bodyPost_ret (results_none rfl _ _ _) rfl ?_
      have ch:∀ b,(Value.slice (some ⟨g1,o1,none⟩) (f.nd.pairs.length-1) c1).ownBlock=some b->f.pv.ownBlock=some b\/wr.heap.size<=b:=fun b e=>by
       obtain rfl:g1=b:=by simpa [Value.ownBlock] using e
       exact .inl bc.out
      obtain ⟨q1,q2,q3⟩:=HR.out.setPairs (w1:=w1) (pv':=.slice (some ⟨g1,o1,none⟩) (f.nd.pairs.length-1) c1) (P':=f.nd.pairs.take i++f.nd.pairs.drop (i+1)) d f N.out b9.out bW.out ch
      have aX:=a0.out.step (w':=w1.setCell ⟨L,bD+d * 2,none⟩ (.slice (some ⟨g1,o1,none⟩) (f.nd.pairs.length-1) c1)) (A':=R.set d ⟨f.nd.pairs.take i++f.nd.pairs.drop (i+1),[]⟩) (fl':=B) ⟨_,_,_,q1,by rw [zbd,S.out,bP.out],fun b=>Iff.rfl⟩ (q2.mono fun b _ e=>by
       refine (ba.out b).2 ?_;rcases e with rfl | e
       · exact .inr (.inl rfl)
       · exact .inr (.inr (.inr ⟨d,f,N.out,.inl e⟩))) (fun b hb=>by
       rcases zbn N.out q3 b hb with e | e
       · exact .inl ((ba.out b).2 e)
       exact .inr e)
      refine ⟨⟨_,rfl⟩,_,?_,aX.fr,aX.new⟩;rw [<-I.out];exact aX.z
    obtain ⟨n1,n2,n3,n4,n5,n6⟩:=s4 hk0
    rw [if_neg hk0] at n;have cN:f.nd.kids.length=f.nd.pairs.length+1:=(by rw [p];exact n1.len);obtain ⟨kb,ko,rfl⟩:=ak (by omega);rw [U] at b2 hK;have az:((f.nd.kids.length:Int)==0)=false:=(by simp;omega)
    cases hh:hitOf f.nd.pairs a with
    | false =>
      rw [hh] at P;rw [if_pos hh] at n;obtain ⟨f1,f2,f3⟩:=n3 hh;have a5:=zuv wr t R B root many F2 HZ.out d (spotOf f.nd.pairs a) n1 aM (by rw [<-p];omega) (by rw [<-p];exact n2);have aS:=zxn R B d (spotOf f.nd.pairs a);generalize fillA R B d (spotOf f.nd.pairs a)=fa at *;obtain ⟨A3,cc⟩:=fa;dsimp only at a5 aS n f1 f2 f3;have ao:=H_ f1;have aw:=H_ f2;have bk:=H_ f3;have bb:=H_ aS;have I:=H_ n;clear f1 f2 f3 aS n s1 s3 s4 n1 n3 n4 n5 n6 p D o hP hK W O ai ag C U b3 b4;generalize spotOf f.nd.pairs a=i at *
      go_upto_region 6 with (first
       | (go_at_call 157;refine P.mono ?_;clear P;rintro e w' ⟨rfl,rfl⟩)
       | (go_at_call 171;refine a5.mono ?_;clear a5;rintro e w1 ⟨⟨v,rfl⟩,F3,E,k,al⟩))
      have bn:=a0.out.step E k al;obtain ⟨dv,d2,Z3,ab,aR,bl⟩:=E;obtain ⟨z3,E,V⟩:=zbr aR ao.out.lt;have cd:d<Z3.length:=(List.getElem?_eq_some_iff.1 E).1;have cS:Z3.length<=109951162:=(by rw [<-zay,aR];have:=bb.out;omega);obtain ⟨ds,dt,cD,rfl,cg⟩:=ab.headLen (by omega);have aU:=ao.out.len;have bi:=ao.out.hi;rw [<-V] at aU bi;have a9:=spotZ ab d z3 E bi (by omega) a;unfold zce at a9;have aT:=aw.out;rw [<-V] at aT;rw [aT] at a9;obtain ⟨x1,x2,x3,x4⟩:=ab.look d z3 E;have x0:=ab.obj.cell 0 rfl;have ap:=ab.kids d z3 E;obtain ⟨dn,cp,ay,cI,cJ,ax⟩:=ap.shape;obtain ⟨dp,dq,rfl⟩:=ax (by omega);rw [ay] at x2 ap;have cn:=zby z3.nd.pairs a
      obtain ⟨c,hc⟩:∃ c,z3.nd.kids[spotOf z3.nd.pairs a]?=some c:=⟨_,List.getElem?_eq_getElem (by omega)⟩;have db:=ap.cell1 zag _ hc rfl;have bp:kidA A3 d (spotOf z3.nd.pairs a)=c:=(by unfold kidA;rw [<-V];simp [List.getD,hc]);have aP:=I.out;have aQ:=bk.out;rw [<-V,bp] at aP aQ;have cF:(d:Int)<(Z3.length:Int):=(by omega);have cM:(spotOf z3.nd.pairs a:Int)<(z3.nd.kids.length:Int):=(by omega);have M:=H_ aP;have bX:=H_ aQ;have Z:=H_ bn;clear aP aQ bn bp hc ay ap ax aT V E aR bl ab k al I ao aw bk d0 b1 b2;generalize spotOf z3.nd.pairs a=i3 at *;go_wp2_with (go_at_call 157;refine a9.mono ?_;clear a9;rintro e w' ⟨rfl,rfl⟩);go_roundg q
      case rel=>exact ⟨A3,cc,c,a,F3,rfl,rfl,Z,bX,M,H_ (bb.out.trans HL.out)⟩
      case measure=>omega
    | true =>
      rw [hh] at P;rw [if_neg (by rw [hh];decide)] at n;obtain ⟨m,hm⟩:=hit_at hh;have bo:=(List.getElem?_eq_some_iff.1 hm).1;obtain ⟨l,zl,kl,bC,ar,aF,dd,dc,ck⟩:=kid_z O n1 (i:=spotOf f.nd.pairs a) (by rw [<-p];omega);obtain ⟨r,zr,kr,aZ,au,aG,di,dh,cl⟩:=kid_z O n1 (i:=spotOf f.nd.pairs a+1) (by rw [<-p];omega);rw [<-p] at kl kr;have N4:=n4 hh;have N5:=n5 hh;have N6:=n6 hh;rw [bC,<-aF] at n N4 N5 N6;rw [aZ,<-aG] at n N5 N6;have cK:=hK.cell1 zag _ kl rfl;have cL:=hK.cell1 zag _ kr rfl;obtain ⟨aJ,_,_,_⟩:=o.look l zl ar;obtain ⟨aK,_,_,_⟩:=o.look r zr au;obtain ⟨dr,cs,aA,_,_,_⟩:=(o.pairs l zl ar).shape;obtain ⟨dA,cz,aC,_,_,_⟩:=(o.pairs r zr au).shape;rw [aA] at aJ;rw [aC] at aK
      have de:l<Z2.length:=(List.getElem?_eq_some_iff.1 ar).1;have dj:r<Z2.length:=(List.getElem?_eq_some_iff.1 au).1;have df:(l:Int)<(Z2.length:Int):=(by omega);have dk:(r:Int)<(Z2.length:Int):=(by omega);obtain ⟨Y,po,rfl⟩:=W (by omega);rw [C] at b1;have bj:AtZ wr wr t L bD bh aL Z2 B root many F2:=⟨o,Fr.refl _ wr,fun b hb=>.inl ((ai b).2 hb)⟩;have bs:Y<wr.heap.size:=hP.lt Y (by rw [C];rfl);have T:=hP;rw [C] at T;have ae:=T.cell0 zae _ hm rfl;have af:=T.cell zae _ 1 hm rfl;have cA:=T.free;have d5:(spotOf f.nd.pairs a:Int)<(f.nd.kids.length:Int):=(by omega);have d6:(spotOf f.nd.pairs a:Int)+1<(f.nd.kids.length:Int):=(by omega);have d7:(0:Int)<=(spotOf f.nd.pairs a:Int)+1:=(by omega)
      have d8:((spotOf f.nd.pairs a:Int)+1).toNat=spotOf f.nd.pairs a+1:=(by omega);have d9:IntKind.i64.wrap ((spotOf f.nd.pairs a:Int)+1)=(spotOf f.nd.pairs a:Int)+1:=(by have d3:f.nd.pairs.length<=9:=s2;rw [IntKind.wrap_i64];omega);have da:(spotOf f.nd.pairs a:Int)<(f.nd.pairs.length:Int):=(by omega);have bN:=H_ bj;have aa:=H_ C;have N:=H_ D;have HM:=H_ hm;have bR:=H_ N4;have bS:=H_ N5;have bT:=H_ N6;have I:=H_ n;have S:=H_ O;have bQ:=H_ n1;have bU:=H_ p;have be:=H_ aZ;have bO:=H_ bo;clear bj C U D hm N4 N5 N6 n1 n2 n3 n4 n5 n6 n O p o hP hK T ai ag s1 s2 s3 s4 kl kr bC aZ ar au aF aG aA aC ck cl ak hk0 W az hh bo;generalize spotOf f.nd.pairs a=i at *
      have az:((f.nd.kids.length:Int)==0)=false:=(by rw [beq_eq_false_iff_ne];omega);go_upto_region 9 with (go_at_call 157;refine P.mono ?_;clear P;rintro e w' ⟨rfl,rfl⟩)
      go_quiet (fail)
      have hq:=Fr.drewN No wr nq;generalize wr.drewN nq=W1 at hq ⊢
      have u:=H_ (bN.out.fr0 hq);have bZ:=H_ (HZ.out.fr0 hq);have bd:=H_ (a0.out.step (HZ.out.fr0 hq) (hq.mono fun _ _ s=>s.elim) fun b hb=>.inl hb)
      replace d0:=hq.cell0 d0
      replace b1:=hq.cell0 b1
      replace aJ:=hq.cell0 aJ
      replace aK:=hq.cell0 aK
      replace ae:=hq.cell0 ae
      replace af:=hq.cell0 af
      have aD:∀ j,W1.frozen? ⟨Y,j,none⟩=false:=by
       have h:=u.out.r.pairs d f N.out;rw [aa.out] at h;exact h.free
      have cj:Y<W1.heap.size:=(by have:=hq.size;omega);have cO:t<W1.heap.size:=u.out.r.obj.lt;clear hq cA b2 b3 b4 bs aV bt;by_cases hl5:4<zl.nd.pairs.length
      · have br:(4:Int)<(zl.nd.pairs.length:Int):=by omega
        have a7:=bR.out hl5;have x:=zpz W1 t _ aL Z2 B root many u.out.r aE l true q (by rw [S.out];exact a7.1);rw [S.out] at x;have a3:=H_ a7.2;have G:=I.out;rw [if_pos hl5] at G;have M:=H_ G;clear a7 G I;generalize endA q R l true=y at x a3 M;go_upto_region 14 with (go_at_call 172;refine x.mono ?_;clear x;rintro e Q ⟨rfl,k⟩);have c8:=k.cell0 d0;have c4:=k.cell0 b1;have bu:t<Q.heap.size:=(by have:=k.size;omega);have aW:Y<Q.heap.size:=(by have:=k.size;omega);have bw:L<Q.heap.size:=(by have:=k.size;have:=u.out.r.nodes.lt L rfl;omega);have e0:=k.cell0 ae;have e1:=k.cell0 af
        have ef:∀ j,Q.frozen? ⟨Y,j,none⟩=false:=by
         have h:=(u.out.fr0 k).r.pairs d f N.out;rw [aa.out] at h;exact h.free
        have ah:=H_ ((u.out.fr0 k).setPair d f N.out aa.out (a,m) y HM.out);have ci:(0:Int)<=(i:Int):=(by omega);clear d0 b1 ae af aD
        go_region
        have K:=ah.out;have a8:((Q.setCell ⟨Y,po+i * 2,none⟩ (.string y.1)).setCell ⟨Y,po+i * 2+1,none⟩ (.int .i64 y.2)).heap.size=Q.heap.size:=(by simp);generalize (Q.setCell ⟨Y,po+i * 2,none⟩ (.string y.1)).setCell ⟨Y,po+i * 2+1,none⟩ (.int .i64 y.2)=X at K a8 ⊢
        have a4:=zad X (.cells #[.string y.1,.int .i64 y.2] 122) _ rfl;rw [a8] at a4;have aY:(X.alloc (.cells #[.string y.1,.int .i64 y.2] 122)).drew.cell? ⟨Q.heap.size,0,none⟩=some (.string y.1):=((Fr.refl No _).drew).cell0 (by simp [World.cell?,a4]);have a6:=K.fr0 ((Fr.refl No X).alloc (.cells #[.string y.1,.int .i64 y.2] 122)).drew;generalize (X.alloc (.cells #[.string y.1,.int .i64 y.2] 122)).drew=W4 at a6 aY ⊢
        have aH:=H_ a6;clear a6 K a4 a8;go_upto_region 15 with fail
        go_quiet (fail)
        have J:=aH.out.fr0 (Fr.drewN No _ nq);generalize W4.drewN nq=W5 at J ⊢
        have Z:=H_ (a0.out.step (A':=R.set d ⟨f.nd.pairs.set i y,f.nd.kids⟩) ⟨_,_,_,J.r,by rw [zbd,S.out],fun b=>Iff.rfl⟩ J.fr J.new);clear J
        try go_wp2_with fail
        go_roundg q
        case rel=>exact ⟨_,_,l,y.1,_,rfl,rfl,Z,a3,M,H_ (by rw [List.length_set];exact HL.out)⟩
        case measure=>omega
      have br:¬ (4:Int)<(zl.nd.pairs.length:Int):=by omega
      by_cases hr5:4<zr.nd.pairs.length
      · have bz:(4:Int)<(zr.nd.pairs.length:Int):=by omega
        have a7:=bS.out hl5 hr5;have x:=zpz W1 t _ aL Z2 B root many u.out.r aE r false q (by rw [S.out];exact a7.1);rw [S.out] at x;have a3:=H_ a7.2;have G:=I.out;rw [if_neg hl5,if_pos hr5] at G;have M:=H_ G;clear a7 G I;generalize endA q R r false=y at x a3 M;go_upto_region 18 with (go_at_call 172;refine x.mono ?_;clear x;rintro e Q ⟨rfl,k⟩);have c8:=k.cell0 d0;have c4:=k.cell0 b1;have bu:t<Q.heap.size:=(by have:=k.size;omega);have aW:Y<Q.heap.size:=(by have:=k.size;omega);have bw:L<Q.heap.size:=(by have:=k.size;have:=u.out.r.nodes.lt L rfl;omega);have e0:=k.cell0 ae;have e1:=k.cell0 af
        have ef:∀ j,Q.frozen? ⟨Y,j,none⟩=false:=by
         have h:=(u.out.fr0 k).r.pairs d f N.out;rw [aa.out] at h;exact h.free
        have ah:=H_ ((u.out.fr0 k).setPair d f N.out aa.out (a,m) y HM.out);have ci:(0:Int)<=(i:Int):=(by omega);clear d0 b1 ae af aD
        go_region
        have K:=ah.out;have a8:((Q.setCell ⟨Y,po+i * 2,none⟩ (.string y.1)).setCell ⟨Y,po+i * 2+1,none⟩ (.int .i64 y.2)).heap.size=Q.heap.size:=(by simp);generalize (Q.setCell ⟨Y,po+i * 2,none⟩ (.string y.1)).setCell ⟨Y,po+i * 2+1,none⟩ (.int .i64 y.2)=X at K a8 ⊢
        have a4:=zad X (.cells #[.string y.1,.int .i64 y.2] 122) _ rfl;rw [a8] at a4;have aY:(X.alloc (.cells #[.string y.1,.int .i64 y.2] 122)).drew.cell? ⟨Q.heap.size,0,none⟩=some (.string y.1):=((Fr.refl No _).drew).cell0 (by simp [World.cell?,a4]);have a6:=K.fr0 ((Fr.refl No X).alloc (.cells #[.string y.1,.int .i64 y.2] 122)).drew;generalize (X.alloc (.cells #[.string y.1,.int .i64 y.2] 122)).drew=W4 at a6 aY ⊢
        have aH:=H_ a6;clear a6 K a4 a8;go_upto_region 19 with fail
        go_quiet (fail)
        have J:=aH.out.fr0 (Fr.drewN No _ nq);generalize W4.drewN nq=W5 at J ⊢
        have Z:=H_ (a0.out.step (A':=R.set d ⟨f.nd.pairs.set i y,f.nd.kids⟩) ⟨_,_,_,J.r,by rw [zbd,S.out],fun b=>Iff.rfl⟩ J.fr J.new);clear J
        try go_wp2_with fail
        go_roundg q
        case rel=>exact ⟨_,_,r,y.1,_,rfl,rfl,Z,a3,M,H_ (by rw [List.length_set];exact HL.out)⟩
        case measure=>omega
      have bz:¬ (4:Int)<(zr.nd.pairs.length:Int):=by omega
      have aj:=zii W1 t R B root many F2 bZ.out d i bQ.out (by rw [<-bU.out];exact bO.out) aM;have a3:=H_ (bT.out hl5 hr5);have G:=I.out;rw [if_neg hl5,if_neg hr5] at G;have M:=H_ G;clear G I;go_wp2_with (go_at_call 173;refine aj.mono ?_;clear aj;rintro e Q ⟨rfl,F3,E,k,al⟩);rw [be.out] at E;have Z:=H_ (bd.out.step E k al);clear E k al;go_roundg q
      case rel=>exact ⟨_,_,l,a,F3,rfl,rfl,Z,a3,M,H_ ((zxd R d i).trans HL.out)⟩
      case measure=>omega
open Go Go.RowKit
section
variable {F:Fence} {n:Nat} {P:Program} {ops:Array Oper} {md:Region.Mode} {w:World}
theorem zjr (hfn:∀ f,F.fn f) (hdep:F.depth=none) (hF:∀ (f:FuncId) (args:Array Value) (w:World) (R:Ending->World->Prop),Calls P f args w R->CallsIn F (n-1) P f args w R)
 {o:Oper} {a:Act} {K:Act->Prop} {K':Act->World->Prop} {Q':Exit->Act->World->Prop} (h:∀ a,K a->K' a w) (hh:o.still P a w K):o.wpIn F n P a w K' Q':=by
 refine ⟨fun f _=>hfn f,?_⟩
 have i:∀ c,o.op ≠ .defer c:=by
  intro c g;unfold Oper.still at hh
  have:∀ (c:Call) (t:TypeId),∀ r,((execOp a.eval o).run P w)=r->o.op=.defer c->(∃ d w',r=.ok (.defer d) w')\/(∃ x w',r=.halt x w'):=by
   intro c t r b m;unfold execOp at b;rw [m] at b;simp only at b;subst b;generalize j:(resolve a.eval c o.type).run P w=s
   cases s with
   | ok d w'=>left;refine ⟨d,w',?_⟩;simp [j]
   | halt x w'=>right;refine ⟨x,w',?_⟩;simp [j]
  rcases this c 0 _ rfl g with ⟨d,w',e⟩ | ⟨x,w',e⟩ <;> rw [e] at hh <;> simp only [Oper.stillUpon] at hh
 rw [Oper.semAt_eq _ _ _ i];unfold Oper.still at hh;generalize (execOp a.eval o).run P w=r at *
 cases r with
 | ok x w' =>
   cases x <;> simp only [Oper.stillUpon] at hh <;> simp only [Oper.uponIn]
   case enter f args =>
    obtain ⟨rfl,v,g,l⟩:=hh;exact ⟨(fun hd=>by rw [hdep] at hd;cases hd),(hF _ _ _ _ g).mono fun e w'' ⟨he,hw⟩=>by subst he;subst hw;exact h _ l⟩
   all_goals (obtain ⟨rfl,k⟩:=hh;exact h _ k)
 | halt x w'=>simp only [Oper.stillUpon] at hh
theorem zlo (hfn:∀ f,F.fn f) (hdep:F.depth=none) (hF:∀ (f:FuncId) (args:Array Value) (w:World) (R:Ending->World->Prop),Calls P f args w R->CallsIn F (n-1) P f args w R)
 {i:Nat} {a:Act} {K:Act->Prop} {K':Act->World->Prop} {Q':Exit->Act->World->Prop} (h:∀ a,K a->K' a w) (hh:stOp P ops w i K a):wpOpIn F n P ops Q' i K' a w:=by
 unfold stOp at hh;unfold wpOpIn
 split
 · rename_i ho;simp only [ho] at hh;exact h _ hh
 rename_i o ho
 simp only [ho] at hh
 split
 · rename_i hw;simp only [hw,if_true] at hh;exact zjr hfn hdep hF h hh
 rename_i hw;simp only [hw] at hh;exact ⟨fun f _=>hfn f,h _ hh⟩
theorem zfp (hfn:∀ f,F.fn f) (hdep:F.depth=none) (hF:∀ (f:FuncId) (args:Array Value) (w:World) (R:Ending->World->Prop),Calls P f args w R->CallsIn F (n-1) P f args w R)
 {m g:Nat} {L:Array Bool->Act->Prop} {Q':Exit->Act->World->Prop} (hL:∀ listed a,L listed a->wpAnyIn F n P md ops Q' g listed a w) :
 ∀ (f:Nat) (listed:Array Bool) (a:Act),wpAnyL P md ops w m L f listed a->wpAnyIn F n P md ops Q' (f+g) listed a w
 | 0,listed,a,h=>by rw [Nat.zero_add];exact hL _ _ h
 | f+1,listed,a,h=>by
   rw [show f+1+g=(f+g)+1 by omega];exact ⟨fun h0=>absurd h0 h.1,fun i hi=>zlo hfn hdep hF (fun a' h'=>zfp hfn hdep hF hL f _ a' h') (h.2 i hi).2⟩
theorem zgo {Q':Exit->Act->World->Prop}:∀ (l:List Oper) (k:Nat) (listed:Array Bool) (a:Act) (w:World),(∀ j:Nat,l[j]?=ops[k+j]?) →
 Region.seqB md ops l.length k listed=true->wpListIn F n P ops Q' l a w->wpAnyIn F n P md ops Q' l.length listed a w
 | [],_,_,_,_,_,hB,h=>⟨by simpa [Region.seqB] using hB,h⟩
 | o :: l,k,listed,a,w,hl,hB,h=>by
   have h0:ops[k]?=some o:=(by simpa using (hl 0).symm);simp only [List.length_cons,Region.seqB,Bool.and_eq_true,decide_eq_true_eq] at hB;refine ⟨fun h1=>(by rw [hB.1] at h1;cases h1),fun i hi=>?_⟩;rw [hB.1] at hi;have hik:i=k:=(by simpa using hi);subst hik;have hw:wpOpIn F n P ops Q' i (wpListIn F n P ops Q' l) a w:=(by unfold wpOpIn;simp only [h0];exact h);exact wpOpIn_mono (fun a' w' h'=>zgo l (i+1) _ a' w' (fun j=>by have:=hl (j+1);simpa [Nat.add_assoc,Nat.add_comm 1 j] using this) hB.2 h') hw
theorem zcw {id:Nat} {Q:Exit->Act->World->Prop} {a:Act} {w:World} {l:List Oper} (m:Nat) (hfn:∀ f,F.fn f) (hdep:F.depth=none)
 (hF:∀ (f:FuncId) (args:Array Value) (w:World) (R:Ending->World->Prop),Calls P f args w R->CallsIn F (n-1) P f args w R) (hm:P.follows .mixedOrders=true) (hB:Region.lexTailB .any l.toArray m=true)
 (h:wpStill P l.toArray w.drew (fun a'=>wpListIn F n P l.toArray Q (l.drop m) a' w.drew) (l.take m) a):(Code.region id l.toArray true).wpIn F n P Q a w:=by
 simp only [Region.lexTailB,Bool.and_eq_true,decide_eq_true_eq] at hB;obtain ⟨⟨⟨⟨e,o⟩,r⟩,p⟩,d⟩:=hB;have q:m<l.length:=by simpa using o
 have b:(l.take m).length=m:=by simp;omega
 have c:(l.drop m).length=l.toArray.size-m:=by simp
 have i:HeadInv .any l.toArray m (Array.replicate l.toArray.size false) :=
  ⟨by simp,fun j oj _ hl=>(by rw [getD_replicate_false] at hl;cases hl),fun t _ ht=>getD_in (by simpa using ht) (getD_replicate_false _ _)⟩
 have H:=wpAnyL_lex (md:=.any) (g:=l.toArray.size-m) e r p o (l.take m) 0 _ a (fun j hj=>by
  have k:j<m:=(by rw [b] at hj;exact hj);simp [k]) (by simpa using b) i (by rw [b];exact d) h
 refine wpIn_region_any hm ?_
 have:=zfp hfn hdep hF (Q':=Q) (g:=l.toArray.size-m) (fun listed a' hL=>by
  have:=zgo (F:=F) (n:=n) (P:=P) (md:=.any) (Q':=Q) (l.drop m) m listed a' w.drew (fun j=>by simp [List.getElem?_drop]) (by rw [c];exact hL.1) hL.2
  rwa [c] at this) _ _ _ H
 rw [b,show m+(l.toArray.size-m)=l.toArray.size by omega] at this;exact this
end
theorem zma {n:Nat} {P:Program} (l:Nat) (f:FuncId) (args:Array Value) (w:World) (R:Ending->World->Prop) (h:Calls P f args w R):CallsIn (Fence.wide.inRound l) n P f args w R :=
 CallsIn.inRound l (callsIn_wide.2 h)
theorem zed {α:Type} {f:α->List Value} {F:Fence} {n:Nat} {P:Program} {w:World} {ops:Array Oper} {rest:List Oper} {o:Oper} {a:Act} {Q:Exit->Act->World->Prop} (hgd:o.guard=none) (s x:Operand) (t:TypeId)
 (ho:o.op=.call { callee:=.builtin .append,args:=#[s,x],argTypes:=#[t,t] })
 (e:TypeId) (i:TypeInfo) (z:Value) (sz bytes:Nat) (ht:P.underlying t=some (.slice e)) (hi:P.info? e=some i) (hz:i.zero=some z) (hsize:i.size=sz) (hby:i.bytes=bytes) (hzs:z.cells.size=sz) (hsz:0<sz)
 (v:Value) (L:List α) (hs:a.eval s=v) (hown:SlF w e sz f v L)
 (b c:Nat) (y:α) (hx:a.eval x=.slice (some ⟨b,0,none⟩) 1 c) (hnews:∀ j u,(f y)[j]?=some u->w.cell? ((⟨b,0,none⟩:Addr).add j)=some u) (hl:(f y).length=sz) (h1:∀ u∈f y,u.oneCell'=true)
 (h63:L.length+1<=maxLen) (hbytes:(L.length+1) * bytes<=140737488355328)
 (h:∀ g o' cap w',SlF w' e sz f (.slice (some ⟨g,o',none⟩) (L.length+1) cap) (L++[y])->w.grownBy w' v.ownBlock->(v.ownBlock=some g\/g=w.heap.size)->g<w'.heap.size →
   wpListIn F n P ops Q rest (a.put o.dst (.slice (some ⟨g,o',none⟩) (L.length+1) cap)) w'):wpListIn F n P ops Q (o :: rest) a w:=by
 subst hsize;subst hby;refine wpListIn_plain hgd fun K hK'=>?_;obtain ⟨g,o',cap,w',d,l,m,p,q⟩:=zdk (P:=P) w t o.type e i z ht hi hz hzs hsz v L.length (L.flatMap f) hown ⟨b,0,none⟩ 1 c (f y) (by omega) (by omega) hnews h1 h63 hbytes;unfold Oper.wpIn;refine ⟨?_,?_⟩
 · simp [Oper.about,ho,resolve,Target.leads,Sem.run_pure]
 rw [Oper.semAt_plain F _ _ (by rw [ho];intro c k;cases k)]
 simp [execOp,ho,resolve,invoke,builtin,hs,hx,d,Result.andThen];refine hK' _ _ (h g o' cap w' ?_ m p q);unfold SlF;simpa using l
open Go Go.Proofs Go.RowKit Go.Shelf
attribute [local go_sem] Oper.semAt_some
theorem zow {F:Fence} (hd:F.depth=none) (k:Nat):F.room k:=fun d h=>by rw [hd] at h;cases h
theorem zln {F:Fence} (hd:F.depth=none) {m:Nat} (m':Nat) {P:Program} {l:Nat} {args:Array Value} {W:World} {R:Ending->World->Prop} (h:YieldAt F m P l args W R):YieldAt F m' P l args W R:=by
 obtain ⟨f,d,a,b,g,e⟩:=h;exact ⟨f,d,a,b,g,e.1,fun c cs _=>e.2 c cs (zow hd _)⟩
def zev (x:ByteArray×Int):Array Value:=#[.agg #[.string x.1,.int .i64 x.2]]
structure KpR (n₀ Bo:Nat) (A B:World):Prop where
 size:A.heap.size<=B.heap.size
 low:∀ k,k<n₀->k≠Bo->B.heap[k]?=A.heap[k]?
 rows:∀ (k:Nat) c e fr,A.heap[k]?=some (.cells c e fr)->e≠122->k≠Bo->B.heap[k]?=A.heap[k]?
theorem KpR.trans {n₀ Bo:Nat} {A B C:World} (h:KpR n₀ Bo A B) (k:KpR n₀ Bo B C):KpR n₀ Bo A C :=
 ⟨Nat.le_trans h.size k.size,fun i hi hb=>(k.low i hi hb).trans (h.low i hi hb),fun i c e fr hi he hb=>(k.rows i c e fr ((h.rows i c e fr hi he hb).trans hi) he hb).trans (h.rows i c e fr hi he hb)⟩
theorem KpR.putObj {n₀ Bo:Nat} {w:World} (hn:n₀<=w.heap.size) (W:World) (l:Nat) (o o':Obj) (hl:w.heap.size<=l) (h:W.heap[l]?=some o) (hc:o.isCells=false) (_:o.isWalk=false):KpR n₀ Bo W (W.putObj l o') :=
 ⟨by simp,fun k hk _=>World.putObj_heap_other (by omega),fun k c e fr hk _ _=>World.putObj_heap_other (by rintro rfl;rw [h] at hk;cases hk;cases hc)⟩
theorem KpR.of_fr {n₀ Bo:Nat} {A B:World} {S:Nat->Prop} (h:Fr S A B) (hn:n₀<=A.heap.size) (hS:∀ k,S k->k=Bo\/(n₀<=k/\∃ c fr,A.heap[k]?=some (.cells c 122 fr))):KpR n₀ Bo A B :=
 ⟨h.size,fun k hk hb=>h.block k (by omega) fun s=>by rcases hS k s with e | ⟨e,_⟩ <;> omega,
   fun k c e fr hk he hb=>h.block k (zab hk) fun s=>by
    rcases hS k s with e' | ⟨_,c',fr',e'⟩
    · exact hb e'
    rw [hk] at e';cases e';exact he rfl⟩
theorem hdd (k:Nat):(Fence.wide.depth.isSome=true->1<=k):=fun h=>by cases h
theorem zrg {W W':World} (h:Fr No W W'):W.grownBy W' none:=⟨h.os,h.tape,h.output,h.size,fun k hk _=>h.block k hk id⟩
theorem zyd (t:Nat) (frm:ByteArray) (w:World) :
 Calls Tryz.prog 114 #[.pointer (some ⟨t,0,none⟩),.string frm] w fun e w'=>e=.returned (.func (.func 152) #[] #[.pointer (some ⟨w.heap.size,0,none⟩),.pointer (some ⟨w.heap.size+1,0,none⟩)]) ∧
  (w.alloc (.cells #[.pointer (some ⟨t,0,none⟩)] 103)).alloc (.cells #[.string frm] 9)=w':=by
 have a:∀ (fn:Fn) (first cap:Array Value) (w:World),(Instr.makeFunc fn first cap).run Tryz.prog w=.ok (.func fn first cap) w:=fun _ _ _ _=>rfl;go_enter Tryz.func114,Tryz.ntmps114;go_wp2;go_ret;exact ⟨rfl,rfl⟩
structure RgI (w:World) (tO:ByteArray) (most:Nat) (n₀:Nat) (out:Pairs) (W:World):Prop where
 b0:W.heap[w.heap.size]?=some (.cells #[Value.string tO] 9 (0,0))
 b1:W.heap[w.heap.size+1]?=some (.cells #[Value.int .i64 (most:Int)] 3 (0,0))
 b2:∃ v,W.heap[w.heap.size+1+1]?=some (.cells #[v] 119 (0,0))/\SlF W 122 2 pairC v out/\∀ b,v.ownBlock=some b->n₀<=b
 below:Below w.heap.size w W
 size:n₀<=W.heap.size
theorem RgI.own {w:World} {tO:ByteArray} {most n₀:Nat} {out:Pairs} {W W':World} {row:Option Nat} (h:RgI w tO most n₀ out W) (hn:w.heap.size<=n₀) (hg:W.grownBy W' row) (hr:∀ r,row=some r->n₀<=r/\∃ o:Obj,W.heap[r]?=some o/\o.isCells=false):RgI w tO most n₀ out W':=by
 have key:∀ (k:Nat) (c:Array Value) (e:TypeId) (fr:Nat×Nat),W.heap[k]?=some (.cells c e fr)->W'.heap[k]?=W.heap[k]?:=fun k c e fr hk =>
  hg.block k (zab hk) fun e'=>by obtain ⟨_,o,f,l⟩:=hr k e'.symm;rw [hk] at f;cases f;cases l
 obtain ⟨v,b,d,j⟩:=h.b2;refine ⟨(key _ _ _ _ h.b0).trans h.b0,(key _ _ _ _ h.b1).trans h.b1,⟨v,(key _ _ _ _ b).trans b,?_,j⟩,h.below.grown hg h.below.size fun k hk=>Nat.le_trans hn (hr k hk).1,Nat.le_trans h.size hg.size⟩;refine Sl.keep d fun k hk=>?_;rcases d.2 with ⟨rfl,_⟩ | ⟨g,o,cap,i,rfl,a,_⟩
 · simp [Value.ownBlock] at hk
 obtain rfl:g=k:=by simpa [Value.ownBlock] using hk
 exact key _ _ _ _ a
theorem RgI.fr {w:World} {tO:ByteArray} {most n₀:Nat} {out:Pairs} {W W':World} (h:RgI w tO most n₀ out W) (hf:Fr No W W'):RgI w tO most n₀ out W':=by
 obtain ⟨v,a,b,c⟩:=h.b2;exact ⟨hf.heap h.b0 id,hf.heap h.b1 id,⟨v,hf.heap a id,b.fr0 hf,c⟩,h.below.trans (hf.below0.mono h.below.size),Nat.le_trans h.size hf.size⟩
theorem RgI.grow {w:World} {tO:ByteArray} {most n₀:Nat} {pre:Pairs} {x:ByteArray×Int} {W w1:World} {v:Value} {ob:Obj} {g o cap:Nat} (h:RgI w tO most n₀ pre W) (hn:w.heap.size+1+1<n₀)
 (c2:W.heap[w.heap.size+1+1]?=some (.cells #[v] 119 (0,0))) (hv:SlF W 122 2 pairC v pre) (hvn:∀ b,v.ownBlock=some b->n₀<=b)
 (hs1:SlF w1 122 2 pairC (.slice (some ⟨g,o,none⟩) (pre.length+1) cap) (pre++[x])) (hg1:(W.alloc ob).grownBy w1 v.ownBlock) (hb1:v.ownBlock=some g\/g=W.heap.size+1) :
 w1.heap[w.heap.size+1+1]?=some (.cells #[v] 119 (0,0)) ∧
 RgI w tO most n₀ (pre++[x]) (w1.setCell ⟨w.heap.size+1+1,0,none⟩ (.slice (some ⟨g,o,none⟩) (pre.length+1) cap)) ∧
 KeepsFrom n₀ W (w1.setCell ⟨w.heap.size+1+1,0,none⟩ (.slice (some ⟨g,o,none⟩) (pre.length+1) cap)) ∧
 KpR n₀ (w.heap.size+1+1) W (w1.setCell ⟨w.heap.size+1+1,0,none⟩ (.slice (some ⟨g,o,none⟩) (pre.length+1) cap)):=by
 have hF:Fr (fun b=>v.ownBlock=some b) W w1:=(((Fr.refl _ W).alloc _).grown hg1 fun k f=>.inl f)
 have a:Fr (fun b=>v.ownBlock=some b\/b=w.heap.size+1+1) W (w1.setCell ⟨w.heap.size+1+1,0,none⟩ (.slice (some ⟨g,o,none⟩) (pre.length+1) cap)) :=
  (hF.mono fun _ _ h=>.inl h).setCell (p:=⟨w.heap.size+1+1,0,none⟩) (.inl (.inr rfl)) _
 have d:∀ k,k<n₀->¬ v.ownBlock=some k:=fun k f e=>by have:=hvn k e;omega
 have q:=hF.heap c2 (d _ hn)
 have l:n₀<=g:=by
  rcases hb1 with e | e
  · exact hvn g e
  have:=h.size;omega
 have i:∀ k,v.ownBlock=some k->∃ c fr,W.heap[k]?=some (.cells c 122 fr):=by
  intro k f;rcases hv.2 with ⟨rfl,_⟩ | ⟨t,y,m,s,rfl,j,_⟩
  · simp [Value.ownBlock] at f
  obtain rfl:t=k:=by simpa [Value.ownBlock] using f
  exact ⟨_,_,j⟩
 refine ⟨q,⟨?_,?_,?_,?_,?_⟩,⟨by simpa using hF.size,?_⟩,KpR.of_fr a h.size ?_⟩
 · exact a.heap h.b0 (by rintro (e | e);exact d _ (by omega) e;omega)
 · exact a.heap h.b1 (by rintro (e | e);exact d _ (by omega) e;omega)
 · refine ⟨_,zaa q 0 _,hs1.other _ _ ?_,fun b hb=>?_⟩
   · simp only [Value.ownBlock,ne_eq,Option.some.injEq];omega
   obtain rfl:g=b:=by simpa [Value.ownBlock] using hb
   exact l
 · exact h.below.trans (a.below w.heap.size h.below.size (by rintro k (e | e);have:=hvn k e;omega;omega))
 · have:=hF.size;have:=h.size;simp;omega
 · intro k y f r u
   refine a.heap r ?_;rintro (e | e)
   · obtain ⟨c,fr,n⟩:=i k e;rw [r] at n;cases n;cases u
   omega
 rintro k (e | e)
 · right;exact ⟨hvn k e,i k e⟩
 left;exact e
theorem info127':(Tryz.prog.info? 122).map (fun i=>(i.zero,i.size,i.bytes))=some (some (.agg #[.string ByteArray.empty,.int .i64 0]),2,24):=by kernel_rfl
attribute [local go_sem] Oper.semAt_some
theorem TreeR.keep {w w':World} {t:Nat} {nv fv:Value} {Z:List Nz} {fl:List Nat} {root:Nat} {many:Int} (h:TreeR w t nv fv Z fl root many) (hk:∀ b,treeF t nv fv Z b->w'.heap[b]?=w.heap[b]?):TreeR w' t nv fv Z fl root many where
 obj:=by obtain ⟨e,he⟩:=h.obj;exact ⟨e,(hk t (.inl rfl)).trans he⟩
 nodes:=Sl.keep h.nodes fun b hb=>hk b (.inr (.inl hb))
 free:=Sl.keep h.free fun b hb=>hk b (.inr (.inr (.inl hb)))
 pairs i z hz:=Sl.keep (h.pairs i z hz) fun b hb=>hk b (.inr (.inr (.inr ⟨i,z,hz,.inl hb⟩)))
 kids i z hz:=Sl.keep (h.kids i z hz) fun b hb=>hk b (.inr (.inr (.inr ⟨i,z,hz,.inr hb⟩)))
 a1:=h.a1
 a2:=h.a2
 a3:=h.a3
 a4:=h.a4
structure zfm (W:World) (t n₀ Bo:Nat) (nv fv:Value) (Z:List Nz) (fl:List Nat) (root:Nat) (many:Int):Prop where
 r:TreeR W t nv fv Z fl root many
 size:n₀<=W.heap.size
 low:∀ b,treeF t nv fv Z b->b<n₀/\b≠Bo
 few:Z.length<=1099511627
theorem zfm.kp {W W':World} {t n₀ Bo:Nat} {nv fv:Value} {Z:List Nz} {fl:List Nat} {root:Nat} {many:Int} (h:zfm W t n₀ Bo nv fv Z fl root many) (k:KpR n₀ Bo W W'):zfm W' t n₀ Bo nv fv Z fl root many :=
 ⟨h.r.keep fun b hb=>k.low b (h.low b hb).1 (h.low b hb).2,Nat.le_trans h.size k.size,h.low,h.few⟩
set_option maxHeartbeats 1000000 in
theorem zyi (n l t n₀ Bo:Nat) (hBo:Bo<n₀) (nv fv:Value) (Z:List Nz) (fl:List Nat) (root:Nat) (many:Int) (frm:ByteArray) (J Jx:Pairs->World->Prop) (N:Nat)
 (hJ:∀ pre W W',J pre W->Fr No W W'->J pre W')
 (hY:∀ m pre x W,J pre W->pre.length<N->YieldAt Fence.wide m Tryz.prog l (zev x) W fun e W' =>
   (e=.returned (.bool true)/\J (pre++[x]) W'/\KpR n₀ Bo W W')\/(e=.returned (.bool false)/\Jx (pre++[x]) W'))
 (at_:Nat) (z:Nz) (hz:Z[at_]?=some z) (h9:z.nd.pairs.length<=9) (hk0:z.nd.kids = []) (pre0:Pairs) (hN:pre0.length+(z.nd.pairs.drop (spotOf z.nd.pairs frm)).length<=N)
 (W:World) (h:zfm W t n₀ Bo nv fv Z fl root many) (h0:J pre0 W) :
 CallsIn Fence.wide n Tryz.prog 153 #[.pointer (some ⟨t,0,none⟩),.int .i64 at_,.string frm,.func (.yield l) #[] #[]] W fun e W' =>
  (e=.returned (.bool true)/\J (pre0++z.nd.pairs.drop (spotOf z.nd.pairs frm)) W'/\KpR n₀ Bo W W')\/(e=.returned (.bool false)/\∃ pre,pre <+: z.nd.pairs.drop (spotOf z.nd.pairs frm)/\Jx (pre0++pre) W'):=by
 have q:=spotZ h.r at_ z hz h9 h.few frm;unfold zce at q;have am:=h.few;have T:at_<Z.length:=(List.getElem?_eq_some_iff.1 hz).1;obtain ⟨nb,no,cap,rfl,X⟩:=h.r.headLen (by omega);have c0:=h.r.obj.cell 0 rfl;obtain ⟨n0,n1,_,_⟩:=h.r.look at_ z hz;obtain ⟨pa,b,A,ae,af,E⟩:=(h.r.pairs at_ z hz).shape;obtain ⟨P,f,D,ag,ah,M⟩:=(h.r.kids at_ z hz).shape;have C:z.nd.kids.length=0:=by rw [hk0];rfl
 rw [A] at n0;rw [D,C] at n1;have O:=zby z.nd.pairs frm;have U:(at_:Int)<(Z.length:Int):=by omega
 have a0:t<W.heap.size:=h.r.obj.lt;have Y:nb<W.heap.size:=h.r.nodes.lt nb rfl;have H:=H_ h;have HA:=H_ E;have HZ:=H_ hz;have K:=H_ A;have u:=h.size;clear h E hz A D M hk0 C;refine callsIn_of_wp Tryz.func153 rfl trivial ?_ rfl;simp only [Tryz.ntmps153,List.size_toArray,List.length_cons,List.length_nil,Nat.reduceAdd,Nat.reduceSub,Array.replicate_succ,Array.replicate_zero,List.push_toArray,List.append_toArray,List.nil_append,List.cons_append];generalize hitOf z.nd.pairs frm=L at q;generalize spotOf z.nd.pairs frm=a at *;cases L
 all_goals
  gi_wp2_with (refine ⟨trivial,hdd _,?_⟩;gi_at_call 157;refine (callsIn_wide.2 q).mono ?_;clear q;rintro e w' ⟨rfl,rfl⟩)
  refine ⟨trivial,?_⟩
  gi_wp2
  gi_loopw [9] (fun i wr=>∃ k:Nat,a<=k/\k<=z.nd.pairs.length/\i=.int .i64 k/\Hid (J (pre0++(z.nd.pairs.drop a).take (k-a)) wr)/\KpR n₀ Bo W wr/\wr.heap[W.heap.size]?=some (.cells #[.slice pa z.nd.pairs.length b,.slice P 0 f] 231 (0,0)))
   (fun i _=>z.nd.pairs.length-(intOf i).toNat)
  case atStart=>exact ⟨a,Nat.le_refl _,O,rfl,H_ (by simpa using hJ _ _ _ h0 ((Fr.refl _ W).alloc _)),KpR.of_fr ((Fr.refl No W).alloc _) u (fun _ s=>s.elim),heap_alloc_new _ _⟩
  case round =>
   obtain ⟨k,ai,aj,rfl,g,j,o⟩:=hrel;have p0:wr.cell? ⟨W.heap.size,0,none⟩=some (.slice pa z.nd.pairs.length b):=cellAt o 0 rfl;have p1:wr.cell? ⟨W.heap.size,1,none⟩=some (.slice P 0 f):=cellAt o 1 rfl;by_cases hlt:k<z.nd.pairs.length
   · obtain ⟨I,po,rfl⟩:=HA.out (by omega)
     obtain ⟨x,G⟩:∃ x,z.nd.pairs[k]?=some x:=⟨_,List.getElem?_eq_getElem hlt⟩
     have p:SlF wr 122 2 pairC (.slice (some ⟨I,po,none⟩) z.nd.pairs.length b) z.nd.pairs:=by
      have:=(H.out.kp j).r.pairs at_ z HZ.out
      rwa [K.out] at this
     have x0:=p.cell0 zae k G rfl;have x1:=p.cell zae k 1 G rfl;obtain ⟨fn,a7,F,S,hy,hR⟩:=hY (n-1) _ x wr g.out (by simp at hN ⊢;omega);dsimp only [zev] at hy;have ak:(k:Int)<(z.nd.pairs.length:Int):=(by omega);have Q:=H_ G;have V:n₀<=wr.heap.size:=Nat.le_trans u j.size;have a1:I<wr.heap.size:=p.lt I rfl;clear G p
     gi_wp2
     refine ⟨hdd _,hR.mono ?_⟩;rintro e R (⟨rfl,w,B⟩ | ⟨rfl,c⟩)
     · have y:=(B.rows _ _ _ _ o (by decide) (by omega)).trans o
       have q0:R.cell? ⟨W.heap.size,0,none⟩=some (.slice (some ⟨I,po,none⟩) z.nd.pairs.length b):=cellAt y 0 rfl;have q1:R.cell? ⟨W.heap.size,1,none⟩=some (.slice P 0 f):=cellAt y 1 rfl
       have d:(z.nd.pairs.drop a).take (k-a)++[x]=(z.nd.pairs.drop a).take (k+1-a):=by
        rw [show k+1-a=(k-a)+1 from by omega,List.take_add_one,List.getElem?_drop,show a+(k-a)=k from by omega,Q.out]
        rfl
       rw [List.append_assoc,d] at w;have v:=H_ w;clear w d g p0 p1 x0 x1
       gi_wp2
       refine ⟨trivial,?_⟩
       gi_wp2
       go_roundw
       case rel=>exact ⟨k+1,by omega,by omega,by go_num,v,j.trans B,y⟩
       case measure=>simp [intOf];omega
     have d:(z.nd.pairs.drop a).take (k-a)++[x]=(z.nd.pairs.drop a).take (k+1-a):=by
      rw [show k+1-a=(k-a)+1 from by omega,List.take_add_one,List.getElem?_drop,show a+(k-a)=k from by omega,Q.out]
      rfl
     rw [List.append_assoc,d] at c;have v:=H_ c;clear c d g p0 p1 x0 x1
     gi_wp2
     go_ret;exact .inr ⟨rfl,_,List.take_prefix _ _,v.out⟩
   obtain rfl:k=z.nd.pairs.length:=by omega
   gi_wp2
   go_ret;exact .inl ⟨rfl,by have:=g.out;rwa [List.take_of_length_le (by simp)] at this,j⟩
end Go.Proofs.YthljnnjpmdgkoaaGreat