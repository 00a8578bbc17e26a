/- Own lemmas. -/
import Derived.Test.YthljnnjpmdgkoaaGreatK07
import Derived.Test.YthljnnjpmdgkoaaGreatK09
import Derived.Test.YthljnnjpmdgkoaaGreatK00
import Derived.StillTail
import Derived.StillTailTactics
import Derived.OrdersIn
import Derived.TacticsIn
import Derived.OwnWalkIn
import Derived.TacticsInMore
import Derived.RangeFuncCalls
import Derived.RangeFuncNested
import Derived.RangeFuncBound
import Derived.RangeFuncLeaves
import Derived.RangeFuncBox
import Derived.RangeFuncWrites
import Derived.Shelf.Abstract
import Derived.LoopNIn
import Derived.LoopIn
namespace Go.Proofs.YthljnnjpmdgkoaaGreat
open Go Go.Proofs Go.RowKit
set_option maxRecDepth 100000
theorem zvr (A:Arr) (fl:List Nat) (at_ i:Nat):(fillA A fl at_ i).1.length=A.length:=by
 unfold fillA lendL lendR joinA
 repeat' split
 all_goals simp
theorem zvh (A:Arr) (at_ i:Nat):(joinA A at_ i).length=A.length:=by unfold joinA;simp
theorem GrownZ.step {w W w':World} {t:Nat} {A A':Arr} {fl fl':List Nat} {root:Nat} {many:Int} {F F1 F2:Nat->Prop} (h:GrownZ w W t A fl root many F F1) (hz:TreeZ w' t A' fl' root many F2) (hf:Fr F1 W w') (hn:∀ b,F2 b->F1 b\/W.heap.size<=b) :
 GrownZ w w' t A' fl' root many F F2:=by
 have a:=h.fr.size;refine ⟨hz,h.fr.trans hf fun b hb e=>?_,fun b hb=>?_⟩
 · rcases h.new b e with e | e
   · exact e
   omega
 rcases hn b hb with e | e
 · exact h.new b e
 exact .inr (by omega)
set_option maxHeartbeats 8000000 in
theorem znc (w:World) (t:Nat) (A:Arr) (fl:List Nat) (root:Nat) (many:Int) (F:Nat->Prop) (h:TreeZ w t A fl root many F) (at_:Nat) (key:ByteArray) (g:Nat) (hs:zeu g A fl at_ key) (hA:A.length<=109951162) :
 Calls Tryz.prog 148 #[.pointer (some ⟨t,0,none⟩),.int .i64 at_,.string key] w (zgu w t F (delA g A fl at_ key).1 (delA g A fl at_ key).2 root many):=by
 generalize az:delA g A fl at_ key=bq;have H:=H_ h;have HS:=H_ hs;have br:=H_ az;clear h hs az;go_enter Tryz.func148,Tryz.ntmps148;go_wp2_with fail
 go_loopg [1,2] g (fun gg s1 s2 wr=>∃ (V:Arr) (B:List Nat) (d:Nat) (a:ByteArray) (F2:Nat->Prop),s1=.int .i64 d/\s2=.string a/\Hid (GrownZ w wr t V B root many F F2)/\Hid (zeu gg V B d a)/\Hid (delA gg V B d a=bq)/\Hid (V.length=A.length))
 case atStart=>exact ⟨A,fl,at_,key,F,rfl,rfl,H_ ⟨H.out,Fr.refl _ w,fun b hb=>.inl hb⟩,HS,br,H_ rfl⟩
 case round =>
  obtain ⟨V,B,d,a,F2,rfl,rfl,a5,ai,bY,HL⟩:=hrel
  cases gk with
  | zero=>exact absurd ai.out id
  | succ q =>
    obtain ⟨s1,s2,s3,s4⟩:=ai.out;have b0:V.length<=109951162:=(by have:=HL.out;omega);have HZ:=H_ a5.out.z;obtain ⟨du,aX,Z2,o,P,ak⟩:=a5.out.z;obtain ⟨f,E,p⟩:=zbk P s1;have aD:Z2.length<=109951162:=(by rw [<-zaw,P];exact b0);have cR:d<Z2.length:=(List.getElem?_eq_some_iff.1 E).1;obtain ⟨L,bE,bp,rfl,bR⟩:=o.headLen (by omega);have M:=spotZ o d f E (by rw [p];exact s2) (by omega) a;unfold zbv at M;obtain ⟨b1,b2,b3,b4⟩:=o.look d f E;have d0:=o.obj.cell 0 rfl;have hP:=o.pairs d f E;have hK:=o.kids d f E;obtain ⟨dy,bQ,C,cE,cI,U⟩:=hP.shape;obtain ⟨dc,c0,Y,cN,cU,aj⟩:=hK.shape;have dx:(d:Int)<(Z2.length:Int):=(by omega);have n:delA (q+1) V B d a=bq:=bY.out
    unfold delA at n;rw [<-p] at n s2 s3 s4;have aP:L<wr.heap.size:=o.nodes.lt L rfl;have b8:t<wr.heap.size:=o.obj.lt;have be:¬ f.pv.ownBlock=some L:=fun e=>(o.a2 d _ L E (.inl e)).2.1 rfl;have dd:¬ f.pv.ownBlock=some t:=fun e=>(o.a2 d _ t E (.inl e)).1 rfl;have df:t≠L:=fun e=>o.a1.1 (by rw [e];rfl);have cQ:=zbq f.nd.pairs a;by_cases hk0:f.nd.kids = []
    · rw [if_pos hk0] at n
      have c9:=s3 hk0;have bH:f.nd.kids.length=0:=(by rw [hk0];rfl);rw [Y,bH] at b2;have hcut:=zev wr f.pv f.nd.pairs (spotOf f.nd.pairs a) hP c9 (by omega);obtain ⟨S,po,rfl⟩:=U (by omega);have af:=H_ C;have HR:=H_ o;have W:=H_ P;have bG:=H_ ak;have O:=H_ E;have ce:=H_ hk0;have G:=H_ n;clear n C Y hP hK o E p U aj P ak b4 s1 s3 s4 ai hk0 bH;generalize spotOf f.nd.pairs a=i at *
      go_wp2_with (first
       | (go_at_call 157;refine M.mono ?_;clear M;rintro e w' ⟨rfl,rfl⟩)
       | (go_at_call 170;refine hcut.mono ?_;clear hcut;rintro e w1 ⟨g1,o1,c1,rfl,bl,aq,bw⟩
          have y1:=aq.cell b1 be;have y2:=aq.free b1 b3 be;have cp:=H_ bl;have bn:=H_ bw;have bv:=H_ aq;clear bl bw aq))
      refine bodyPost_ret (results_none rfl _ _ _) rfl ?_
      have cd:∀ b,(Value.slice (some ⟨g1,o1,none⟩) (f.nd.pairs.length-1) c1).ownBlock=some b->f.pv.ownBlock=some b\/wr.heap.size<=b:=fun b e=>by
       obtain rfl:g1=b:=by simpa [Value.ownBlock] using e
       exact .inl bn.out
      obtain ⟨q1,q2,q3⟩:=HR.out.setPairs (w1:=w1) (pv':=.slice (some ⟨g1,o1,none⟩) (f.nd.pairs.length-1) c1) (P':=f.nd.pairs.take i++f.nd.pairs.drop (i+1)) d f O.out bv.out cp.out cd
      have aJ:=a5.out.step (w':=w1.setCell ⟨L,bE+d * 2,none⟩ (.slice (some ⟨g1,o1,none⟩) (f.nd.pairs.length-1) c1)) (A':=V.set d ⟨f.nd.pairs.take i++f.nd.pairs.drop (i+1),[]⟩) (fl':=B) ⟨_,_,_,q1,by rw [zay,W.out,ce.out],fun b=>Iff.rfl⟩ (q2.mono fun b _ e=>by
       refine (bG.out b).2 ?_;rcases e with rfl | e
       · exact .inr (.inl rfl)
       · exact .inr (.inr (.inr ⟨d,f,O.out,.inl e⟩))) (fun b hb=>by
       rcases zbf O.out q3 b hb with e | e
       · exact .inl ((bG.out b).2 e)
       exact .inr e)
      refine ⟨⟨_,rfl⟩,_,?_,aJ.fr,aJ.new⟩;rw [<-G.out];exact aJ.z
    obtain ⟨n1,n2,n3,n4,n5,n6⟩:=s4 hk0
    rw [if_neg hk0] at n;have cP:f.nd.kids.length=f.nd.pairs.length+1:=(by rw [p];exact n1.len);obtain ⟨kb,ko,rfl⟩:=aj (by omega);rw [Y] at b2 hK;have aE:((f.nd.kids.length:Int)==0)=false:=(by simp;omega)
    cases hh:hitOf f.nd.pairs a with
    | false =>
      rw [hh] at M;rw [if_pos hh] at n;obtain ⟨f1,f2,f3⟩:=n3 hh;have a6:=zsu wr t V B root many F2 HZ.out d (spotOf f.nd.pairs a) n1 b0 (by rw [<-p];omega) (by rw [<-p];exact n2);have aO:=zvr V B d (spotOf f.nd.pairs a);generalize fillA V B d (spotOf f.nd.pairs a)=fa at *;obtain ⟨A3,cn⟩:=fa;dsimp only at a6 aO n f1 f2 f3;have av:=H_ f1;have aw:=H_ f2;have bz:=H_ f3;have bD:=H_ aO;have G:=H_ n;clear f1 f2 f3 aO n s1 s3 s4 n1 n3 n4 n5 n6 p E o hP hK U P ak ai C Y b3 b4;generalize spotOf f.nd.pairs a=i at *
      go_upto_region 6 with (first
       | (go_at_call 157;refine M.mono ?_;clear M;rintro e w' ⟨rfl,rfl⟩)
       | (go_at_call 171;refine a6.mono ?_;clear a6;rintro e w1 ⟨⟨v,rfl⟩,F3,D,k,ah⟩))
      have ba:=a5.out.step D k ah;obtain ⟨dw,cX,Z3,ad,aI,bd⟩:=D;obtain ⟨z3,D,R⟩:=zbk aI av.out.lt;have bZ:d<Z3.length:=(List.getElem?_eq_some_iff.1 D).1;have cC:Z3.length<=109951162:=(by rw [<-zaw,aI];have:=bD.out;omega);obtain ⟨d3,cZ,cH,rfl,bW⟩:=ad.headLen (by omega);have aW:=av.out.len;have b9:=av.out.hi;rw [<-R] at aW b9;have a9:=spotZ ad d z3 D b9 (by omega) a;unfold zbv at a9;have aV:=aw.out;rw [<-R] at aV;rw [aV] at a9;obtain ⟨x1,x2,x3,x4⟩:=ad.look d z3 D;have x0:=ad.obj.cell 0 rfl;have ar:=ad.kids d z3 D;obtain ⟨dk,cr,aA,cF,cS,aG⟩:=ar.shape;obtain ⟨da,dA,rfl⟩:=aG (by omega);rw [aA] at x2 ar;have bP:=zbq z3.nd.pairs a
      obtain ⟨c,hc⟩:∃ c,z3.nd.kids[spotOf z3.nd.pairs a]?=some c:=⟨_,List.getElem?_eq_getElem (by omega)⟩;have d9:=ar.cell1 zah _ hc rfl;have bx:kidA A3 d (spotOf z3.nd.pairs a)=c:=(by unfold kidA;rw [<-R];simp [List.getD,hc]);have aK:=G.out;have aM:=bz.out;rw [<-R,bx] at aK aM;have cD:(d:Int)<(Z3.length:Int):=(by omega);have cO:(spotOf z3.nd.pairs a:Int)<(z3.nd.kids.length:Int):=(by omega);have N:=H_ aK;have cb:=H_ aM;have Z:=H_ ba;clear aK aM ba bx hc aA ar aG aV R D aI bd ad k ah G av aw bz d0 b1 b2;generalize spotOf z3.nd.pairs a=i3 at *;go_wp2_with (go_at_call 157;refine a9.mono ?_;clear a9;rintro e w' ⟨rfl,rfl⟩);go_roundg q
      case rel=>exact ⟨A3,cn,c,a,F3,rfl,rfl,Z,cb,N,H_ (bD.out.trans HL.out)⟩
      case measure=>omega
    | true =>
      rw [hh] at M;rw [if_neg (by rw [hh];decide)] at n;obtain ⟨m,hm⟩:=hit_at hh;have bh:=(List.getElem?_eq_some_iff.1 hm).1;obtain ⟨l,zl,kl,bF,ap,aF,dr,d8,c8⟩:=kid_z P n1 (i:=spotOf f.nd.pairs a) (by rw [<-p];omega);obtain ⟨r,zr,kr,aH,au,aC,di,dj,cl⟩:=kid_z P n1 (i:=spotOf f.nd.pairs a+1) (by rw [<-p];omega);rw [<-p] at kl kr;have N4:=n4 hh;have N5:=n5 hh;have N6:=n6 hh;rw [bF,<-aF] at n N4 N5 N6;rw [aH,<-aC] at n N5 N6;have cT:=hK.cell1 zah _ kl rfl;have cG:=hK.cell1 zah _ kr rfl;obtain ⟨aY,_,_,_⟩:=o.look l zl ap;obtain ⟨aL,_,_,_⟩:=o.look r zr au;obtain ⟨d4,cs,aB,_,_,_⟩:=(o.pairs l zl ap).shape;obtain ⟨db,cy,ax,_,_,_⟩:=(o.pairs r zr au).shape;rw [aB] at aY;rw [ax] at aL
      have d6:l<Z2.length:=(List.getElem?_eq_some_iff.1 ap).1;have d1:r<Z2.length:=(List.getElem?_eq_some_iff.1 au).1;have dn:(l:Int)<(Z2.length:Int):=(by omega);have dq:(r:Int)<(Z2.length:Int):=(by omega);obtain ⟨S,po,rfl⟩:=U (by omega);rw [C] at b1;have bs:AtZ wr wr t L bE bp aX Z2 B root many F2:=⟨o,Fr.refl _ wr,fun b hb=>.inl ((ak b).2 hb)⟩;have bI:S<wr.heap.size:=hP.lt S (by rw [C];rfl);have T:=hP;rw [C] at T;have ab:=T.cell0 zag _ hm rfl;have aa:=T.cell zag _ 1 hm rfl;have cw:=T.free;have dm:(spotOf f.nd.pairs a:Int)<(f.nd.kids.length:Int):=(by omega);have de:(spotOf f.nd.pairs a:Int)+1<(f.nd.kids.length:Int):=(by omega);have cV:(0:Int)<=(spotOf f.nd.pairs a:Int)+1:=(by omega)
      have dC:((spotOf f.nd.pairs a:Int)+1).toNat=spotOf f.nd.pairs a+1:=(by omega);have dl:IntKind.i64.wrap ((spotOf f.nd.pairs a:Int)+1)=(spotOf f.nd.pairs a:Int)+1:=(by have d7:f.nd.pairs.length<=9:=s2;rw [IntKind.wrap_i64];omega);have dt:(spotOf f.nd.pairs a:Int)<(f.nd.pairs.length:Int):=(by omega);have cg:=H_ bs;have af:=H_ C;have O:=H_ E;have HM:=H_ hm;have cx:=H_ N4;have co:=H_ N5;have cv:=H_ N6;have G:=H_ n;have W:=H_ P;have cA:=H_ n1;have ch:=H_ p;have bc:=H_ aH;have cq:=H_ bh;clear bs C Y E hm N4 N5 N6 n1 n2 n3 n4 n5 n6 n P p o hP hK T ak ai s1 s2 s3 s4 kl kr bF aH ap au aF aC aB ax c8 cl aj hk0 U aE hh bh;generalize spotOf f.nd.pairs a=i at *
      have aE:((f.nd.kids.length:Int)==0)=false:=(by rw [beq_eq_false_iff_ne];omega);go_upto_region 9 with (go_at_call 157;refine M.mono ?_;clear M;rintro e w' ⟨rfl,rfl⟩)
      go_quiet (fail)
      have hq:=Fr.drewN No wr nq;generalize wr.drewN nq=W1 at hq ⊢
      have u:=H_ (cg.out.fr0 hq);have bS:=H_ (HZ.out.fr0 hq);have bu:=H_ (a5.out.step (HZ.out.fr0 hq) (hq.mono fun _ _ s=>s.elim) fun b hb=>.inl hb)
      replace d0:=hq.cell0 d0
      replace b1:=hq.cell0 b1
      replace aY:=hq.cell0 aY
      replace aL:=hq.cell0 aL
      replace ab:=hq.cell0 ab
      replace aa:=hq.cell0 aa
      have ay:∀ j,W1.frozen? ⟨S,j,none⟩=false:=by
       have h:=u.out.r.pairs d f O.out;rw [af.out] at h;exact h.free
      have ci:S<W1.heap.size:=(by have:=hq.size;omega);have cL:t<W1.heap.size:=u.out.r.obj.lt;clear hq cw b2 b3 b4 bI aP b8;by_cases hl5:4<zl.nd.pairs.length
      · have bk:(4:Int)<(zl.nd.pairs.length:Int):=by omega
        have a0:=cx.out hl5;have x:=zoh W1 t _ aX Z2 B root many u.out.r aD l true q (by rw [W.out];exact a0.1);rw [W.out] at x;have a3:=H_ a0.2;have I:=G.out;rw [if_pos hl5] at I;have N:=H_ I;clear a0 I G;generalize endA q V l true=y at x a3 N;go_upto_region 14 with (go_at_call 172;refine x.mono ?_;clear x;rintro e Q ⟨rfl,k⟩);have c3:=k.cell0 d0;have cc:=k.cell0 b1;have bj:t<Q.heap.size:=(by have:=k.size;omega);have aN:S<Q.heap.size:=(by have:=k.size;omega);have bo:L<Q.heap.size:=(by have:=k.size;have:=u.out.r.nodes.lt L rfl;omega);have e0:=k.cell0 ab;have e1:=k.cell0 aa
        have ef:∀ j,Q.frozen? ⟨S,j,none⟩=false:=by
         have h:=(u.out.fr0 k).r.pairs d f O.out;rw [af.out] at h;exact h.free
        have al:=H_ ((u.out.fr0 k).setPair d f O.out af.out (a,m) y HM.out);have bX:(0:Int)<=(i:Int):=(by omega);clear d0 b1 ab aa ay
        go_region
        have K:=al.out;have a8:((Q.setCell ⟨S,po+i * 2,none⟩ (.string y.1)).setCell ⟨S,po+i * 2+1,none⟩ (.int .i64 y.2)).heap.size=Q.heap.size:=(by simp);generalize (Q.setCell ⟨S,po+i * 2,none⟩ (.string y.1)).setCell ⟨S,po+i * 2+1,none⟩ (.int .i64 y.2)=X at K a8 ⊢
        have a4:=zad X (.cells #[.string y.1,.int .i64 y.2] 122) _ rfl;rw [a8] at a4;have aQ:(X.alloc (.cells #[.string y.1,.int .i64 y.2] 122)).drew.cell? ⟨Q.heap.size,0,none⟩=some (.string y.1):=((Fr.refl No _).drew).cell0 (by simp [World.cell?,a4]);have a7:=K.fr0 ((Fr.refl No X).alloc (.cells #[.string y.1,.int .i64 y.2] 122)).drew;generalize (X.alloc (.cells #[.string y.1,.int .i64 y.2] 122)).drew=W4 at a7 aQ ⊢
        have aS:=H_ a7;clear a7 K a4 a8;go_upto_region 15 with fail
        go_quiet (fail)
        have J:=aS.out.fr0 (Fr.drewN No _ nq);generalize W4.drewN nq=W5 at J ⊢
        have Z:=H_ (a5.out.step (A':=V.set d ⟨f.nd.pairs.set i y,f.nd.kids⟩) ⟨_,_,_,J.r,by rw [zay,W.out],fun b=>Iff.rfl⟩ J.fr J.new);clear J
        try go_wp2_with fail
        go_roundg q
        case rel=>exact ⟨_,_,l,y.1,_,rfl,rfl,Z,a3,N,H_ (by rw [List.length_set];exact HL.out)⟩
        case measure=>omega
      have bk:¬ (4:Int)<(zl.nd.pairs.length:Int):=by omega
      by_cases hr5:4<zr.nd.pairs.length
      · have bC:(4:Int)<(zr.nd.pairs.length:Int):=by omega
        have a0:=co.out hl5 hr5;have x:=zoh W1 t _ aX Z2 B root many u.out.r aD r false q (by rw [W.out];exact a0.1);rw [W.out] at x;have a3:=H_ a0.2;have I:=G.out;rw [if_neg hl5,if_pos hr5] at I;have N:=H_ I;clear a0 I G;generalize endA q V r false=y at x a3 N;go_upto_region 18 with (go_at_call 172;refine x.mono ?_;clear x;rintro e Q ⟨rfl,k⟩);have c3:=k.cell0 d0;have cc:=k.cell0 b1;have bj:t<Q.heap.size:=(by have:=k.size;omega);have aN:S<Q.heap.size:=(by have:=k.size;omega);have bo:L<Q.heap.size:=(by have:=k.size;have:=u.out.r.nodes.lt L rfl;omega);have e0:=k.cell0 ab;have e1:=k.cell0 aa
        have ef:∀ j,Q.frozen? ⟨S,j,none⟩=false:=by
         have h:=(u.out.fr0 k).r.pairs d f O.out;rw [af.out] at h;exact h.free
        have al:=H_ ((u.out.fr0 k).setPair d f O.out af.out (a,m) y HM.out);have bX:(0:Int)<=(i:Int):=(by omega);clear d0 b1 ab aa ay
        go_region
        have K:=al.out;have a8:((Q.setCell ⟨S,po+i * 2,none⟩ (.string y.1)).setCell ⟨S,po+i * 2+1,none⟩ (.int .i64 y.2)).heap.size=Q.heap.size:=(by simp);generalize (Q.setCell ⟨S,po+i * 2,none⟩ (.string y.1)).setCell ⟨S,po+i * 2+1,none⟩ (.int .i64 y.2)=X at K a8 ⊢
        have a4:=zad X (.cells #[.string y.1,.int .i64 y.2] 122) _ rfl;rw [a8] at a4;have aQ:(X.alloc (.cells #[.string y.1,.int .i64 y.2] 122)).drew.cell? ⟨Q.heap.size,0,none⟩=some (.string y.1):=((Fr.refl No _).drew).cell0 (by simp [World.cell?,a4]);have a7:=K.fr0 ((Fr.refl No X).alloc (.cells #[.string y.1,.int .i64 y.2] 122)).drew;generalize (X.alloc (.cells #[.string y.1,.int .i64 y.2] 122)).drew=W4 at a7 aQ ⊢
        have aS:=H_ a7;clear a7 K a4 a8;go_upto_region 19 with fail
        go_quiet (fail)
        have J:=aS.out.fr0 (Fr.drewN No _ nq);generalize W4.drewN nq=W5 at J ⊢
        have Z:=H_ (a5.out.step (A':=V.set d ⟨f.nd.pairs.set i y,f.nd.kids⟩) ⟨_,_,_,J.r,by rw [zay,W.out],fun b=>Iff.rfl⟩ J.fr J.new);clear J
        try go_wp2_with fail
        go_roundg q
        case rel=>exact ⟨_,_,r,y.1,_,rfl,rfl,Z,a3,N,H_ (by rw [List.length_set];exact HL.out)⟩
        case measure=>omega
      have bC:¬ (4:Int)<(zr.nd.pairs.length:Int):=by omega
      have ag:=zhu W1 t V B root many F2 bS.out d i cA.out (by rw [<-ch.out];exact cq.out) b0;have a3:=H_ (cv.out hl5 hr5);have I:=G.out;rw [if_neg hl5,if_neg hr5] at I;have N:=H_ I;clear I G;go_wp2_with (go_at_call 173;refine ag.mono ?_;clear ag;rintro e Q ⟨rfl,F3,D,k,ah⟩);rw [bc.out] at D;have Z:=H_ (bu.out.step D k ah);clear D k ah;go_roundg q
      case rel=>exact ⟨_,_,l,a,F3,rfl,rfl,Z,a3,N,H_ ((zvh V d i).trans HL.out)⟩
      case measure=>omega
open Go Go.RowKit
section
variable {F:Fence} {n:Nat} {P:Program} {ops:Array Oper} {md:Region.Mode} {w:World}
theorem zip (hfn:∀ f,F.fn f) (hdep:F.depth=none) (hF:∀ (f:FuncId) (args:Array Value) (w:World) (R:Ending->World->Prop),Calls P f args w R->CallsIn F (n-1) P f args w R)
 {o:Oper} {a:Act} {K:Act->Prop} {K':Act->World->Prop} {Q':Exit->Act->World->Prop} (h:∀ a,K a->K' a w) (hh:o.still P a w K):o.wpIn F n P a w K' Q':=by
 refine ⟨fun f _=>hfn f,?_⟩
 have i:∀ c,o.op ≠ .defer c:=by
  intro c g;unfold Oper.still at hh
  have:∀ (c:Call) (t:TypeId),∀ r,((execOp a.eval o).run P w)=r->o.op=.defer c->(∃ d w',r=.ok (.defer d) w')\/(∃ x w',r=.halt x w'):=by
   intro c t r b m;unfold execOp at b;rw [m] at b;simp only at b;subst b;generalize j:(resolve a.eval c o.type).run P w=s
   cases s with
   | ok d w'=>left;refine ⟨d,w',?_⟩;simp [j]
   | halt x w'=>right;refine ⟨x,w',?_⟩;simp [j]
  rcases this c 0 _ rfl g with ⟨d,w',e⟩ | ⟨x,w',e⟩ <;> rw [e] at hh <;> simp only [Oper.stillUpon] at hh
 rw [Oper.semAt_eq _ _ _ i];unfold Oper.still at hh;generalize (execOp a.eval o).run P w=r at *
 cases r with
 | ok x w' =>
   cases x <;> simp only [Oper.stillUpon] at hh <;> simp only [Oper.uponIn]
   case enter f args =>
    obtain ⟨rfl,v,g,l⟩:=hh;exact ⟨(fun hd=>by rw [hdep] at hd;cases hd),(hF _ _ _ _ g).mono fun e w'' ⟨he,hw⟩=>by subst he;subst hw;exact h _ l⟩
   all_goals (obtain ⟨rfl,k⟩:=hh;exact h _ k)
 | halt x w'=>simp only [Oper.stillUpon] at hh
theorem zke (hfn:∀ f,F.fn f) (hdep:F.depth=none) (hF:∀ (f:FuncId) (args:Array Value) (w:World) (R:Ending->World->Prop),Calls P f args w R->CallsIn F (n-1) P f args w R)
 {i:Nat} {a:Act} {K:Act->Prop} {K':Act->World->Prop} {Q':Exit->Act->World->Prop} (h:∀ a,K a->K' a w) (hh:stOp P ops w i K a):wpOpIn F n P ops Q' i K' a w:=by
 unfold stOp at hh;unfold wpOpIn
 split
 · rename_i ho;simp only [ho] at hh;exact h _ hh
 rename_i o ho
 simp only [ho] at hh
 split
 · rename_i hw;simp only [hw,if_true] at hh;exact zip hfn hdep hF h hh
 rename_i hw;simp only [hw] at hh;exact ⟨fun f _=>hfn f,h _ hh⟩
theorem zfc (hfn:∀ f,F.fn f) (hdep:F.depth=none) (hF:∀ (f:FuncId) (args:Array Value) (w:World) (R:Ending->World->Prop),Calls P f args w R->CallsIn F (n-1) P f args w R)
 {m g:Nat} {L:Array Bool->Act->Prop} {Q':Exit->Act->World->Prop} (hL:∀ listed a,L listed a->wpAnyIn F n P md ops Q' g listed a w) :
 ∀ (f:Nat) (listed:Array Bool) (a:Act),wpAnyL P md ops w m L f listed a->wpAnyIn F n P md ops Q' (f+g) listed a w
 | 0,listed,a,h=>by rw [Nat.zero_add];exact hL _ _ h
 | f+1,listed,a,h=>by
   rw [show f+1+g=(f+g)+1 by omega];exact ⟨fun h0=>absurd h0 h.1,fun i hi=>zke hfn hdep hF (fun a' h'=>zfc hfn hdep hF hL f _ a' h') (h.2 i hi).2⟩
theorem zgg {Q':Exit->Act->World->Prop}:∀ (l:List Oper) (k:Nat) (listed:Array Bool) (a:Act) (w:World),(∀ j:Nat,l[j]?=ops[k+j]?) →
 Region.seqB md ops l.length k listed=true->wpListIn F n P ops Q' l a w->wpAnyIn F n P md ops Q' l.length listed a w
 | [],_,_,_,_,_,hB,h=>⟨by simpa [Region.seqB] using hB,h⟩
 | o :: l,k,listed,a,w,hl,hB,h=>by
   have h0:ops[k]?=some o:=(by simpa using (hl 0).symm);simp only [List.length_cons,Region.seqB,Bool.and_eq_true,decide_eq_true_eq] at hB;refine ⟨fun h1=>(by rw [hB.1] at h1;cases h1),fun i hi=>?_⟩;rw [hB.1] at hi;have hik:i=k:=(by simpa using hi);subst hik;have hw:wpOpIn F n P ops Q' i (wpListIn F n P ops Q' l) a w:=(by unfold wpOpIn;simp only [h0];exact h);exact wpOpIn_mono (fun a' w' h'=>zgg l (i+1) _ a' w' (fun j=>by have:=hl (j+1);simpa [Nat.add_assoc,Nat.add_comm 1 j] using this) hB.2 h') hw
theorem zcq {id:Nat} {Q:Exit->Act->World->Prop} {a:Act} {w:World} {l:List Oper} (m:Nat) (hfn:∀ f,F.fn f) (hdep:F.depth=none)
 (hF:∀ (f:FuncId) (args:Array Value) (w:World) (R:Ending->World->Prop),Calls P f args w R->CallsIn F (n-1) P f args w R) (hm:P.follows .mixedOrders=true) (hB:Region.lexTailB .any l.toArray m=true)
 (h:wpStill P l.toArray w.drew (fun a'=>wpListIn F n P l.toArray Q (l.drop m) a' w.drew) (l.take m) a):(Code.region id l.toArray true).wpIn F n P Q a w:=by
 simp only [Region.lexTailB,Bool.and_eq_true,decide_eq_true_eq] at hB;obtain ⟨⟨⟨⟨d,o⟩,r⟩,p⟩,e⟩:=hB;have q:m<l.length:=by simpa using o
 have b:(l.take m).length=m:=by simp;omega
 have i:(l.drop m).length=l.toArray.size-m:=by simp
 have c:HeadInv .any l.toArray m (Array.replicate l.toArray.size false) :=
  ⟨by simp,fun j oj _ hl=>(by rw [getD_replicate_false] at hl;cases hl),fun t _ ht=>getD_in (by simpa using ht) (getD_replicate_false _ _)⟩
 have H:=wpAnyL_lex (md:=.any) (g:=l.toArray.size-m) d r p o (l.take m) 0 _ a (fun j hj=>by
  have k:j<m:=(by rw [b] at hj;exact hj);simp [k]) (by simpa using b) c (by rw [b];exact e) h
 refine wpIn_region_any hm ?_
 have:=zfc hfn hdep hF (Q':=Q) (g:=l.toArray.size-m) (fun listed a' hL=>by
  have:=zgg (F:=F) (n:=n) (P:=P) (md:=.any) (Q':=Q) (l.drop m) m listed a' w.drew (fun j=>by simp [List.getElem?_drop]) (by rw [i];exact hL.1) hL.2
  rwa [i] at this) _ _ _ H
 rw [b,show m+(l.toArray.size-m)=l.toArray.size by omega] at this;exact this
end
theorem zkn {n:Nat} {P:Program} (l:Nat) (f:FuncId) (args:Array Value) (w:World) (R:Ending->World->Prop) (h:Calls P f args w R):CallsIn (Fence.wide.inRound l) n P f args w R :=
 CallsIn.inRound l (callsIn_wide.2 h)
theorem zdw {α:Type} {f:α->List Value} {F:Fence} {n:Nat} {P:Program} {w:World} {ops:Array Oper} {rest:List Oper} {o:Oper} {a:Act} {Q:Exit->Act->World->Prop} (hgd:o.guard=none) (s x:Operand) (t:TypeId)
 (ho:o.op=.call { callee:=.builtin .append,args:=#[s,x],argTypes:=#[t,t] })
 (e:TypeId) (i:TypeInfo) (z:Value) (sz bytes:Nat) (ht:P.underlying t=some (.slice e)) (hi:P.info? e=some i) (hz:i.zero=some z) (hsize:i.size=sz) (hby:i.bytes=bytes) (hzs:z.cells.size=sz) (hsz:0<sz)
 (v:Value) (L:List α) (hs:a.eval s=v) (hown:SlF w e sz f v L)
 (b c:Nat) (y:α) (hx:a.eval x=.slice (some ⟨b,0,none⟩) 1 c) (hnews:∀ j u,(f y)[j]?=some u->w.cell? ((⟨b,0,none⟩:Addr).add j)=some u) (hl:(f y).length=sz) (h1:∀ u∈f y,u.oneCell'=true)
 (h63:L.length+1<=maxLen) (hbytes:(L.length+1) * bytes<=140737488355328)
 (h:∀ g o' cap w',SlF w' e sz f (.slice (some ⟨g,o',none⟩) (L.length+1) cap) (L++[y])->w.grownBy w' v.ownBlock->(v.ownBlock=some g\/g=w.heap.size)->g<w'.heap.size →
   wpListIn F n P ops Q rest (a.put o.dst (.slice (some ⟨g,o',none⟩) (L.length+1) cap)) w'):wpListIn F n P ops Q (o :: rest) a w:=by
 subst hsize;subst hby;refine wpListIn_plain hgd fun K hK'=>?_;obtain ⟨g,o',cap,w',d,l,m,p,q⟩:=zcl (P:=P) w t o.type e i z ht hi hz hzs hsz v L.length (L.flatMap f) hown ⟨b,0,none⟩ 1 c (f y) (by omega) (by omega) hnews h1 h63 hbytes;unfold Oper.wpIn;refine ⟨?_,?_⟩
 · simp [Oper.about,ho,resolve,Target.leads,Sem.run_pure]
 rw [Oper.semAt_plain F _ _ (by rw [ho];intro c k;cases k)]
 simp [execOp,ho,resolve,invoke,builtin,hs,hx,d,Result.andThen];refine hK' _ _ (h g o' cap w' ?_ m p q);unfold SlF;simpa using l
open Go Go.Proofs Go.RowKit Go.Shelf
attribute [local go_sem] Oper.semAt_some
theorem znb {F:Fence} (hd:F.depth=none) (k:Nat):F.room k:=fun d h=>by rw [hd] at h;cases h
theorem zkd {F:Fence} (hd:F.depth=none) {m:Nat} (m':Nat) {P:Program} {l:Nat} {args:Array Value} {W:World} {R:Ending->World->Prop} (h:YieldAt F m P l args W R):YieldAt F m' P l args W R:=by
 obtain ⟨f,d,a,b,g,e⟩:=h;exact ⟨f,d,a,b,g,e.1,fun c cs _=>e.2 c cs (znb hd _)⟩
def zem (x:ByteArray×Int):Array Value:=#[.agg #[.string x.1,.int .i64 x.2]]
structure KpR (n₀ Bo:Nat) (A B:World):Prop where
 size:A.heap.size<=B.heap.size
 low:∀ k,k<n₀->k≠Bo->B.heap[k]?=A.heap[k]?
 rows:∀ (k:Nat) c e fr,A.heap[k]?=some (.cells c e fr)->e≠122->k≠Bo->B.heap[k]?=A.heap[k]?
theorem KpR.trans {n₀ Bo:Nat} {A B C:World} (h:KpR n₀ Bo A B) (k:KpR n₀ Bo B C):KpR n₀ Bo A C :=
 ⟨Nat.le_trans h.size k.size,fun i hi hb=>(k.low i hi hb).trans (h.low i hi hb),fun i c e fr hi he hb=>(k.rows i c e fr ((h.rows i c e fr hi he hb).trans hi) he hb).trans (h.rows i c e fr hi he hb)⟩
theorem KpR.putObj {n₀ Bo:Nat} {w:World} (hn:n₀<=w.heap.size) (W:World) (l:Nat) (o o':Obj) (hl:w.heap.size<=l) (h:W.heap[l]?=some o) (hc:o.isCells=false) (_:o.isWalk=false):KpR n₀ Bo W (W.putObj l o') :=
 ⟨by simp,fun k hk _=>World.putObj_heap_other (by omega),fun k c e fr hk _ _=>World.putObj_heap_other (by rintro rfl;rw [h] at hk;cases hk;cases hc)⟩
theorem KpR.of_fr {n₀ Bo:Nat} {A B:World} {S:Nat->Prop} (h:Fr S A B) (hn:n₀<=A.heap.size) (hS:∀ k,S k->k=Bo\/(n₀<=k/\∃ c fr,A.heap[k]?=some (.cells c 122 fr))):KpR n₀ Bo A B :=
 ⟨h.size,fun k hk hb=>h.block k (by omega) fun s=>by rcases hS k s with e | ⟨e,_⟩ <;> omega,
   fun k c e fr hk he hb=>h.block k (zaa hk) fun s=>by
    rcases hS k s with e' | ⟨_,c',fr',e'⟩
    · exact hb e'
    rw [hk] at e';cases e';exact he rfl⟩
theorem hdd (k:Nat):(Fence.wide.depth.isSome=true->1<=k):=fun h=>by cases h
theorem zpp {W W':World} (h:Fr No W W'):W.grownBy W' none:=⟨h.os,h.tape,h.output,h.size,fun k hk _=>h.block k hk id⟩
theorem zwc (t:Nat) (frm:ByteArray) (w:World) :
 Calls Tryz.prog 114 #[.pointer (some ⟨t,0,none⟩),.string frm] w fun e w'=>e=.returned (.func (.func 152) #[] #[.pointer (some ⟨w.heap.size,0,none⟩),.pointer (some ⟨w.heap.size+1,0,none⟩)]) ∧
  (w.alloc (.cells #[.pointer (some ⟨t,0,none⟩)] 103)).alloc (.cells #[.string frm] 9)=w':=by
 have a:∀ (fn:Fn) (first cap:Array Value) (w:World),(Instr.makeFunc fn first cap).run Tryz.prog w=.ok (.func fn first cap) w:=fun _ _ _ _=>rfl;go_enter Tryz.func114,Tryz.ntmps114;go_wp2;go_ret;exact ⟨rfl,rfl⟩
structure RgI (w:World) (tO:ByteArray) (most:Nat) (n₀:Nat) (out:Pairs) (W:World):Prop where
 b0:W.heap[w.heap.size]?=some (.cells #[Value.string tO] 9 (0,0))
 b1:W.heap[w.heap.size+1]?=some (.cells #[Value.int .i64 (most:Int)] 3 (0,0))
 b2:∃ v,W.heap[w.heap.size+1+1]?=some (.cells #[v] 119 (0,0))/\SlF W 122 2 pairC v out/\∀ b,v.ownBlock=some b->n₀<=b
 below:Below w.heap.size w W
 size:n₀<=W.heap.size
theorem RgI.own {w:World} {tO:ByteArray} {most n₀:Nat} {out:Pairs} {W W':World} {row:Option Nat} (h:RgI w tO most n₀ out W) (hn:w.heap.size<=n₀) (hg:W.grownBy W' row) (hr:∀ r,row=some r->n₀<=r/\∃ o:Obj,W.heap[r]?=some o/\o.isCells=false):RgI w tO most n₀ out W':=by
 have key:∀ (k:Nat) (c:Array Value) (e:TypeId) (fr:Nat×Nat),W.heap[k]?=some (.cells c e fr)->W'.heap[k]?=W.heap[k]?:=fun k c e fr hk =>
  hg.block k (zaa hk) fun e'=>by obtain ⟨_,o,f,j⟩:=hr k e'.symm;rw [hk] at f;cases f;cases j
 obtain ⟨v,b,d,i⟩:=h.b2;refine ⟨(key _ _ _ _ h.b0).trans h.b0,(key _ _ _ _ h.b1).trans h.b1,⟨v,(key _ _ _ _ b).trans b,?_,i⟩,h.below.grown hg h.below.size fun k hk=>Nat.le_trans hn (hr k hk).1,Nat.le_trans h.size hg.size⟩;refine Sl.keep d fun k hk=>?_;rcases d.2 with ⟨rfl,_⟩ | ⟨g,o,cap,l,rfl,a,_⟩
 · simp [Value.ownBlock] at hk
 obtain rfl:g=k:=by simpa [Value.ownBlock] using hk
 exact key _ _ _ _ a
theorem RgI.fr {w:World} {tO:ByteArray} {most n₀:Nat} {out:Pairs} {W W':World} (h:RgI w tO most n₀ out W) (hf:Fr No W W'):RgI w tO most n₀ out W':=by
 obtain ⟨v,a,b,c⟩:=h.b2;exact ⟨hf.heap h.b0 id,hf.heap h.b1 id,⟨v,hf.heap a id,b.fr0 hf,c⟩,h.below.trans (hf.below0.mono h.below.size),Nat.le_trans h.size hf.size⟩
theorem RgI.grow {w:World} {tO:ByteArray} {most n₀:Nat} {pre:Pairs} {x:ByteArray×Int} {W w1:World} {v:Value} {ob:Obj} {g o cap:Nat} (h:RgI w tO most n₀ pre W) (hn:w.heap.size+1+1<n₀)
 (c2:W.heap[w.heap.size+1+1]?=some (.cells #[v] 119 (0,0))) (hv:SlF W 122 2 pairC v pre) (hvn:∀ b,v.ownBlock=some b->n₀<=b)
 (hs1:SlF w1 122 2 pairC (.slice (some ⟨g,o,none⟩) (pre.length+1) cap) (pre++[x])) (hg1:(W.alloc ob).grownBy w1 v.ownBlock) (hb1:v.ownBlock=some g\/g=W.heap.size+1) :
 w1.heap[w.heap.size+1+1]?=some (.cells #[v] 119 (0,0)) ∧
 RgI w tO most n₀ (pre++[x]) (w1.setCell ⟨w.heap.size+1+1,0,none⟩ (.slice (some ⟨g,o,none⟩) (pre.length+1) cap)) ∧
 KeepsFrom n₀ W (w1.setCell ⟨w.heap.size+1+1,0,none⟩ (.slice (some ⟨g,o,none⟩) (pre.length+1) cap)) ∧
 KpR n₀ (w.heap.size+1+1) W (w1.setCell ⟨w.heap.size+1+1,0,none⟩ (.slice (some ⟨g,o,none⟩) (pre.length+1) cap)):=by
 have hF:Fr (fun b=>v.ownBlock=some b) W w1:=(((Fr.refl _ W).alloc _).grown hg1 fun k f=>.inl f)
 have a:Fr (fun b=>v.ownBlock=some b\/b=w.heap.size+1+1) W (w1.setCell ⟨w.heap.size+1+1,0,none⟩ (.slice (some ⟨g,o,none⟩) (pre.length+1) cap)) :=
  (hF.mono fun _ _ h=>.inl h).setCell (p:=⟨w.heap.size+1+1,0,none⟩) (.inl (.inr rfl)) _
 have d:∀ k,k<n₀->¬ v.ownBlock=some k:=fun k f e=>by have:=hvn k e;omega
 have r:=hF.heap c2 (d _ hn)
 have j:n₀<=g:=by
  rcases hb1 with e | e
  · exact hvn g e
  have:=h.size;omega
 have i:∀ k,v.ownBlock=some k->∃ c fr,W.heap[k]?=some (.cells c 122 fr):=by
  intro k f;rcases hv.2 with ⟨rfl,_⟩ | ⟨t,u,n,y,rfl,l,_⟩
  · simp [Value.ownBlock] at f
  obtain rfl:t=k:=by simpa [Value.ownBlock] using f
  exact ⟨_,_,l⟩
 refine ⟨r,⟨?_,?_,?_,?_,?_⟩,⟨by simpa using hF.size,?_⟩,KpR.of_fr a h.size ?_⟩
 · exact a.heap h.b0 (by rintro (e | e);exact d _ (by omega) e;omega)
 · exact a.heap h.b1 (by rintro (e | e);exact d _ (by omega) e;omega)
 · refine ⟨_,zab r 0 _,hs1.other _ _ ?_,fun b hb=>?_⟩
   · simp only [Value.ownBlock,ne_eq,Option.some.injEq];omega
   obtain rfl:g=b:=by simpa [Value.ownBlock] using hb
   exact j
 · exact h.below.trans (a.below w.heap.size h.below.size (by rintro k (e | e);have:=hvn k e;omega;omega))
 · have:=hF.size;have:=h.size;simp;omega
 · intro k u f q s
   refine a.heap q ?_;rintro (e | e)
   · obtain ⟨c,fr,m⟩:=i k e;rw [q] at m;cases m;cases s
   omega
 rintro k (e | e)
 · right;exact ⟨hvn k e,i k e⟩
 left;exact e
theorem info127':(Tryz.prog.info? 122).map (fun i=>(i.zero,i.size,i.bytes))=some (some (.agg #[.string ByteArray.empty,.int .i64 0]),2,24):=by kernel_rfl
attribute [local go_sem] Oper.semAt_some
theorem TreeR.keep {w w':World} {t:Nat} {nv fv:Value} {Z:List Nz} {fl:List Nat} {root:Nat} {many:Int} (h:TreeR w t nv fv Z fl root many) (hk:∀ b,treeF t nv fv Z b->w'.heap[b]?=w.heap[b]?):TreeR w' t nv fv Z fl root many where
 obj:=by obtain ⟨e,he⟩:=h.obj;exact ⟨e,(hk t (.inl rfl)).trans he⟩
 nodes:=Sl.keep h.nodes fun b hb=>hk b (.inr (.inl hb))
 free:=Sl.keep h.free fun b hb=>hk b (.inr (.inr (.inl hb)))
 pairs i z hz:=Sl.keep (h.pairs i z hz) fun b hb=>hk b (.inr (.inr (.inr ⟨i,z,hz,.inl hb⟩)))
 kids i z hz:=Sl.keep (h.kids i z hz) fun b hb=>hk b (.inr (.inr (.inr ⟨i,z,hz,.inr hb⟩)))
 a1:=h.a1
 a2:=h.a2
 a3:=h.a3
 a4:=h.a4
structure zey (W:World) (t n₀ Bo:Nat) (nv fv:Value) (Z:List Nz) (fl:List Nat) (root:Nat) (many:Int):Prop where
 r:TreeR W t nv fv Z fl root many
 size:n₀<=W.heap.size
 low:∀ b,treeF t nv fv Z b->b<n₀/\b≠Bo
 few:Z.length<=1099511627
theorem zey.kp {W W':World} {t n₀ Bo:Nat} {nv fv:Value} {Z:List Nz} {fl:List Nat} {root:Nat} {many:Int} (h:zey W t n₀ Bo nv fv Z fl root many) (k:KpR n₀ Bo W W'):zey W' t n₀ Bo nv fv Z fl root many :=
 ⟨h.r.keep fun b hb=>k.low b (h.low b hb).1 (h.low b hb).2,Nat.le_trans h.size k.size,h.low,h.few⟩
set_option maxHeartbeats 1000000 in
theorem zwk (n l t n₀ Bo:Nat) (hBo:Bo<n₀) (nv fv:Value) (Z:List Nz) (fl:List Nat) (root:Nat) (many:Int) (frm:ByteArray) (J Jx:Pairs->World->Prop) (N:Nat)
 (hJ:∀ pre W W',J pre W->Fr No W W'->J pre W')
 (hY:∀ m pre x W,J pre W->pre.length<N->YieldAt Fence.wide m Tryz.prog l (zem x) W fun e W' =>
   (e=.returned (.bool true)/\J (pre++[x]) W'/\KpR n₀ Bo W W')\/(e=.returned (.bool false)/\Jx (pre++[x]) W'))
 (at_:Nat) (z:Nz) (hz:Z[at_]?=some z) (h9:z.nd.pairs.length<=9) (hk0:z.nd.kids = []) (pre0:Pairs) (hN:pre0.length+(z.nd.pairs.drop (spotOf z.nd.pairs frm)).length<=N)
 (W:World) (h:zey W t n₀ Bo nv fv Z fl root many) (h0:J pre0 W) :
 CallsIn Fence.wide n Tryz.prog 153 #[.pointer (some ⟨t,0,none⟩),.int .i64 at_,.string frm,.func (.yield l) #[] #[]] W fun e W' =>
  (e=.returned (.bool true)/\J (pre0++z.nd.pairs.drop (spotOf z.nd.pairs frm)) W'/\KpR n₀ Bo W W')\/(e=.returned (.bool false)/\∃ pre,pre <+: z.nd.pairs.drop (spotOf z.nd.pairs frm)/\Jx (pre0++pre) W'):=by
 have j:=spotZ h.r at_ z hz h9 h.few frm;unfold zbv at j;have ag:=h.few;have S:at_<Z.length:=(List.getElem?_eq_some_iff.1 hz).1;obtain ⟨nb,no,cap,rfl,V⟩:=h.r.headLen (by omega);have c0:=h.r.obj.cell 0 rfl;obtain ⟨n0,n1,_,_⟩:=h.r.look at_ z hz;obtain ⟨T,b,A,ai,aa,E⟩:=(h.r.pairs at_ z hz).shape;obtain ⟨K,c,C,an,af,M⟩:=(h.r.kids at_ z hz).shape;have D:z.nd.kids.length=0:=by rw [hk0];rfl
 rw [A] at n0;rw [C,D] at n1;have L:=zbq z.nd.pairs frm;have a3:(at_:Int)<(Z.length:Int):=by omega
 have a4:t<W.heap.size:=h.r.obj.lt;have U:nb<W.heap.size:=h.r.nodes.lt nb rfl;have H:=H_ h;have HA:=H_ E;have HZ:=H_ hz;have O:=H_ A;have u:=h.size;clear h E hz A C M hk0 D;refine callsIn_of_wp Tryz.func153 rfl trivial ?_ rfl;simp only [Tryz.ntmps153,List.size_toArray,List.length_cons,List.length_nil,Nat.reduceAdd,Nat.reduceSub,Array.replicate_succ,Array.replicate_zero,List.push_toArray,List.append_toArray,List.nil_append,List.cons_append];generalize hitOf z.nd.pairs frm=P at j;generalize spotOf z.nd.pairs frm=a at *;cases P
 all_goals
  gi_wp2_with (refine ⟨trivial,hdd _,?_⟩;gi_at_call 157;refine (callsIn_wide.2 j).mono ?_;clear j;rintro e w' ⟨rfl,rfl⟩)
  refine ⟨trivial,?_⟩
  gi_wp2
  gi_loopw [9] (fun i wr=>∃ k:Nat,a<=k/\k<=z.nd.pairs.length/\i=.int .i64 k/\Hid (J (pre0++(z.nd.pairs.drop a).take (k-a)) wr)/\KpR n₀ Bo W wr/\wr.heap[W.heap.size]?=some (.cells #[.slice T z.nd.pairs.length b,.slice K 0 c] 231 (0,0)))
   (fun i _=>z.nd.pairs.length-(intOf i).toNat)
  case atStart=>exact ⟨a,Nat.le_refl _,L,rfl,H_ (by simpa using hJ _ _ _ h0 ((Fr.refl _ W).alloc _)),KpR.of_fr ((Fr.refl No W).alloc _) u (fun _ s=>s.elim),heap_alloc_new _ _⟩
  case round =>
   obtain ⟨k,ab,ah,rfl,q,o,g⟩:=hrel;have p0:wr.cell? ⟨W.heap.size,0,none⟩=some (.slice T z.nd.pairs.length b):=cellAt g 0 rfl;have Q:wr.cell? ⟨W.heap.size,1,none⟩=some (.slice K 0 c):=cellAt g 1 rfl;by_cases hlt:k<z.nd.pairs.length
   · obtain ⟨G,R,rfl⟩:=HA.out (by omega)
     obtain ⟨x,I⟩:∃ x,z.nd.pairs[k]?=some x:=⟨_,List.getElem?_eq_getElem hlt⟩
     have p:SlF wr 122 2 pairC (.slice (some ⟨G,R,none⟩) z.nd.pairs.length b) z.nd.pairs:=by
      have:=(H.out.kp o).r.pairs at_ z HZ.out
      rwa [O.out] at this
     have x0:=p.cell0 zag k I rfl;have Y:=p.cell zag k 1 I rfl;obtain ⟨fn,a0,F,X,hy,hR⟩:=hY (n-1) _ x wr q.out (by simp at hN ⊢;omega);dsimp only [zem] at hy;have ad:(k:Int)<(z.nd.pairs.length:Int):=(by omega);have HX:=H_ I;have a8:n₀<=wr.heap.size:=Nat.le_trans u o.size;have a7:G<wr.heap.size:=p.lt G rfl;clear I p
     gi_wp2
     refine ⟨hdd _,hR.mono ?_⟩;rintro e W3 (⟨rfl,w,B⟩ | ⟨rfl,f⟩)
     · have y:=(B.rows _ _ _ _ g (by decide) (by omega)).trans g
       have q0:W3.cell? ⟨W.heap.size,0,none⟩=some (.slice (some ⟨G,R,none⟩) z.nd.pairs.length b):=cellAt y 0 rfl;have q1:W3.cell? ⟨W.heap.size,1,none⟩=some (.slice K 0 c):=cellAt y 1 rfl
       have d:(z.nd.pairs.drop a).take (k-a)++[x]=(z.nd.pairs.drop a).take (k+1-a):=by
        rw [show k+1-a=(k-a)+1 from by omega,List.take_add_one,List.getElem?_drop,show a+(k-a)=k from by omega,HX.out]
        rfl
       rw [List.append_assoc,d] at w;have v:=H_ w;clear w d q p0 Q x0 Y
       gi_wp2
       refine ⟨trivial,?_⟩
       gi_wp2
       go_roundw
       case rel=>exact ⟨k+1,by omega,by omega,by go_num,v,o.trans B,y⟩
       case measure=>simp [intOf];omega
     have d:(z.nd.pairs.drop a).take (k-a)++[x]=(z.nd.pairs.drop a).take (k+1-a):=by
      rw [show k+1-a=(k-a)+1 from by omega,List.take_add_one,List.getElem?_drop,show a+(k-a)=k from by omega,HX.out]
      rfl
     rw [List.append_assoc,d] at f;have v:=H_ f;clear f d q p0 Q x0 Y
     gi_wp2
     go_ret;exact .inr ⟨rfl,_,List.take_prefix _ _,v.out⟩
   obtain rfl:k=z.nd.pairs.length:=by omega
   gi_wp2
   go_ret;exact .inl ⟨rfl,by have:=q.out;rwa [List.take_of_length_le (by simp)] at this,o⟩
end Go.Proofs.YthljnnjpmdgkoaaGreat