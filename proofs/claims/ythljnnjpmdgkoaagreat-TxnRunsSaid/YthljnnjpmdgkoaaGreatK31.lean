/- Own lemmas. -/
import Derived.Test.YthljnnjpmdgkoaaGreatK28
import Derived.Test.YthljnnjpmdgkoaaGreatK29
import Derived.Test.YthljnnjpmdgkoaaGreatK30
import Derived.Test.YthljnnjpmdgkoaaGreatK07
import Derived.Test.YthljnnjpmdgkoaaGreatK26
import Derived.Deep.DeepCutAuto
import Derived.Deep.RegionHeld3
import Derived.Deep.RegionLaw
import Derived.BigRegion
namespace Go.Proofs.YthljnnjpmdgkoaaGreat
open Go Go.Proofs Go.RowKit
set_option maxRecDepth 100000
theorem zlp (w:World) (D:Doc) (a1 a2:Option Addr) (n1 n2 c1 c2:Nat) (r:Int) :
 Calls Tryz.prog 106 #[docV D (.slice a1 n1 c1) (.slice a2 n2 c2),.int .i64 r] w fun e w'=>e=.returned (.int .i64 (whenD D r))/\Fr No w w':=by
 unfold docV whenD;by_cases h1:D.rev<r
 · have a:decide (r > D.rev)=true:=decide_eq_true h1
   rw [if_pos h1];go_enter Tryz.func106,Tryz.ntmps106;go_wp2;go_ret;exact ⟨rfl,(Fr.refl No w).alloc _⟩
 have a:decide (r > D.rev)=false:=decide_eq_false h1
 rw [if_neg h1];by_cases h2:r=0
 · subst h2
   rw [if_neg (by simp)];go_enter Tryz.func106,Tryz.ntmps106;go_wp2;go_ret;exact ⟨rfl,(Fr.refl No w).alloc _⟩
 have c:(r==0)=false:=beq_eq_false_iff_ne.2 h2
 by_cases h3:r<D.mark
 · have b:decide (r<D.mark)=true:=decide_eq_true h3
   rw [if_pos ⟨h2,h3⟩];go_enter Tryz.func106,Tryz.ntmps106;go_wp2;go_ret;exact ⟨rfl,(Fr.refl No w).alloc _⟩
 have b:decide (r<D.mark)=false:=decide_eq_false h3
 rw [if_neg fun h=>h3 h.2];go_enter Tryz.func106,Tryz.ntmps106;go_wp2;go_ret;exact ⟨rfl,(Fr.refl No w).alloc _⟩
theorem zym {α:Type} {f:α->List Value} {w:World} {e sz:Nat} {v:Value} {L:List α} {n:Nat} (h:SlF w e sz f v L) (hn:L.length=n):∃ a cap,v=.slice a n cap/\n<=cap/\cap<=maxLen/\(0<n->∃ g o,a=some ⟨g,o,none⟩):=by
 obtain ⟨a,cap,d,b,i,c⟩:=h.shape;rw [hn] at d b c;exact ⟨a,cap,d,b,i,c⟩
set_option maxHeartbeats 16000000 in
theorem zds (w:World) (v:Value) (L:List Kv) (hv:SlR w 6 kvC v L) (hl:L.length<=100000000) (g:Rg) (h0:0<=g.limit) :
 Calls Tryz.prog 107 #[v,rgV g] w fun e w'=>∃ v',e=.returned (.tuple #[v',.int .i64 (allA g L).length,.bool (moreA g L)])/\SlF w' 99 6 kvC v' (outA g L)/\(∀ b,v'.ownBlock=some b->w.heap.size<=b)/\Fr No w w':=by
 obtain ⟨va,bJ,rfl,ci,cc,aS⟩:=hv.shape;obtain ⟨i0,a7,ab,aa,a8⟩:=info_parts info57;have ax:moreA g L=(!g.count&&decide ((outA g L).length<(allA g L).length)):=rfl;have Z:g.count=false->outA g L=((allA g L).take (outN g (allA g L).length)).map (bareIf g):=fun hc=>by unfold outA;rw [hc];rfl
 have W:g.count=true->outA g L = []:=fun hc=>by unfold outA;rw [hc];rfl
 have aE:outN g (allA g L).length=if g.limit=0 then (allA g L).length else min (allA g L).length g.limit.toNat:=rfl;have a5:allA g L=(if g.desc then L.reverse else L).filter fun y=>inB y.key g.key g.end_:=rfl
 have bY:(allA g L).length<=100000000:=by
  rw [a5];refine Nat.le_trans (List.length_filter_le _ _) ?_
  split
  · rw [List.length_reverse];exact hl
  exact hl
 have az:∀ i,i<L.length->∃ x y,L[i]?=some x/\(if g.desc then L.reverse else L)[i]?=some y/\(g.desc=false->y=x)/\(g.desc=true->L[L.length-1-i]?=some y):=fun i hi=>by
  cases g.desc with
  | false=>exact ⟨L[i],L[i],List.getElem?_eq_getElem hi,List.getElem?_eq_getElem hi,fun _=>rfl,fun h=>(by cases h)⟩
  | true =>
    have h1:L.reverse[i]?=L[L.length-1-i]?:=List.getElem?_reverse hi;have h2:L[L.length-1-i]?=some L[L.length-1-i]:=List.getElem?_eq_getElem (by omega);exact ⟨L[i],L[L.length-1-i],List.getElem?_eq_getElem hi,h1.trans h2,fun h=>(by cases h),fun _=>h2⟩
 have aA:(if g.desc then L.reverse else L).length=L.length:=by split <;> simp
 generalize hM:(if g.desc then L.reverse else L)=M at *;have aB:∀ x:Kv,bareIf g x=if g.keys then { x with value:=ByteArray.empty } else x:=fun _=>rfl;have bg:=H_ aB;generalize bo:bareIf g=I at *;generalize allA g L=A at *;generalize outN g A.length=K at *;generalize outA g L=O at *;generalize moreA g L=mo at *;obtain ⟨R,S,g3,t,g5,g6,g7⟩:=g;unfold rgV;dsimp only at *;have bm:=H_ a5;have aQ:=H_ az;have a3:=H_ ax;have ay:=H_ Z;have aI:=H_ W;have a2:=H_ aE;have bC:=H_ aS;have aU:=H_ aA;clear a5 az ax Z W aE aS hM bo aB aA;have aF:=zad w (Obj.cells #[.string R,.string S,.int .i64 g3,.int .i64 t,.bool g5,.bool g6,.bool g7] 35) _ rfl
 have a4:Fr No w (w.alloc (Obj.cells #[.string R,.string S,.int .i64 g3,.int .i64 t,.bool g5,.bool g6,.bool g7] 35)):=(Fr.refl No w).alloc _;have ae:=H_ aF;have ad:=H_ a4;have HV:=H_ (hv.fr0 a4);clear aF a4 hv;go_enter Tryz.func107,Tryz.ntmps107;go_wp2;generalize w.alloc (Obj.cells #[.string R,.string S,.int .i64 g3,.int .i64 t,.bool g5,.bool g6,.bool g7] 35)=W1 at *;have ca:w.heap.size<W1.heap.size:=zaa ae.out
 go_loopg [7,8] L.length (fun g s7 s8 wr=>∃ (i:Nat) (o:Value),s7=o/\s8=.int .i64 i/\i+g=L.length/\Hid (SlF wr 99 6 kvC o ((M.take i).filter fun y=>inB y.key R S))/\Hid (∀ b,o.ownBlock=some b->W1.heap.size<=b)/\Hid (Fr No W1 wr))
 case atStart=>exact ⟨0,_,rfl,rfl,by simp,H_ (by simpa using SlF.nil _ _ _ _),H_ (by simp [Value.ownBlock]),H_ (Fr.refl No W1)⟩
 case round =>
  obtain ⟨i,o,rfl,rfl,hi,HO,Y,T⟩:=hrel;have q:=T.out.heap ae.out id;have lb:=zaa q;have b0:=cellAt q 0 rfl;have b1:=cellAt q 1 rfl;have b3:=cellAt q 3 rfl;have b4:=cellAt q 4 rfl;have b5:=cellAt q 5 rfl;have b6:=cellAt q 6 rfl
  cases gk with
  | zero =>
    have bj:¬ (i:Int)<(L.length:Int):=(by omega);have aW:M.take i=M:=List.take_of_length_le (by have:=aU.out;omega);have hA:=HO.out;rw [aW,<-bm.out] at hA;clear HO aW aQ q;obtain ⟨oa,aP,rfl,br,bt,aC⟩:=hA.shape;have HA:=H_ hA;have bl:=H_ aC;clear hA aC
    cases g6 with
    | true =>
      have HE:Hid (mo=false):=H_ (by rw [a3.out];rfl);have bu:Hid (O = []):=H_ (aI.out rfl);go_wp2;go_ret3;exact ⟨_,by rw [HE.out];rfl,by rw [bu.out];exact SlF.nil _ _ _ _,by simp [Value.ownBlock],ad.out.trans0 T.out⟩
    | false =>
      have af:Hid (O=(A.take K).map I):=H_ (ay.out rfl);have hK:K<=A.length:=(by rw [a2.out];split <;> omega);have aK:O.length=K:=(by rw [af.out,List.length_map,List.length_take];omega);go_wp2;clear b0 b1 b3 b4 b5 b6 lb;generalize wr=WA at *
      go_loopg [10,11] K (fun g s10 s11 wx=>∃ (j:Nat) (u:Value),s10=u/\s11=.int .i64 j/\j+g=K/\Hid (SlF wx 99 6 kvC u ((A.take j).map I))/\Hid (∀ b,u.ownBlock=some b->WA.heap.size<=b)/\Hid (Fr No WA wx))
      case atStart=>exact ⟨0,_,rfl,rfl,by simp,H_ (by simpa using SlF.nil _ _ _ _),H_ (by simp [Value.ownBlock]),H_ (Fr.refl No WA)⟩
      case round =>
       obtain ⟨j,u,rfl,rfl,hj,HU,U,HG⟩:=hrel;have q:=(T.out.trans0 HG.out).heap ae.out id;have lb:=zaa q;have b3:=cellAt q 3 rfl;have b4:=cellAt q 4 rfl;have a:=HA.out.fr0 HG.out;have aL:((A.take j).map I).length=j:=(by rw [List.length_map,List.length_take];omega);obtain ⟨ua,bS,rfl,c4,c3,_⟩:=zym HU.out aL
       cases gk with
       | zero =>
         have bs:j=K:=(by omega);subst bs;by_cases hjn:j<A.length
         · have X:(j:Int)<(A.length:Int):=by omega
           have B:t≠0/\¬ (j:Int)<t:=by
            have h1:=a2.out;by_cases J:t=0
            · rw [if_pos J] at h1;omega
            rw [if_neg J] at h1;exact ⟨J,by omega⟩
           obtain ⟨a9,bi⟩:=B;have bz:(t==0)=false:=beq_eq_false_iff_ne.2 a9;have HE:Hid (mo=true):=H_ (by rw [a3.out,aK];simp;omega);go_wp2;go_ret3;exact ⟨_,by rw [HE.out];rfl,by rw [af.out];exact HU.out,fun b q=>by have:=U.out b q;have:=T.out.size;omega,ad.out.trans0 (T.out.trans0 HG.out)⟩
         have X:¬ (j:Int)<(A.length:Int):=by omega
         have HE:Hid (mo=false):=H_ (by rw [a3.out,aK];simp;omega);go_wp2;go_ret3;exact ⟨_,by rw [HE.out];rfl,by rw [af.out];exact HU.out,fun b q=>by have:=U.out b q;have:=T.out.size;omega,ad.out.trans0 (T.out.trans0 HG.out)⟩
       | succ g =>
         obtain ⟨ga,go,rfl⟩:=bl.out (by omega);obtain ⟨y,G⟩:∃ y,A[j]?=some y:=⟨_,List.getElem?_eq_getElem (by omega)⟩;have X:(j:Int)<(A.length:Int):=(by omega)
         have B:t=0\/(t≠0/\(j:Int)<t):=by
          have h1:=a2.out;by_cases J:t=0
          · exact .inl J
          rw [if_neg J] at h1;exact .inr ⟨J,by omega⟩
         have c:(A.take (j+1)).map I=(A.take j).map I++[I y]:=(by rw [List.take_add_one,G];simp);have V:=a.cell0 zae j G rfl;have f1:=a.cell zae j 1 G rfl;have f2:=a.cell zae j 2 G rfl;have f3:=a.cell zae j 3 G rfl;have f4:=a.cell zae j 4 G rfl;have f5:=a.cell zae j 5 G rfl;have lf:=World.block_lt_of_cell? _ _ V;have J:=bg.out y;generalize I y=z at J c;have s:=H_ c;have HZ:=H_ J;clear G a c J q;obtain ⟨y1,y2,y3,y4,y5,y6⟩:=y;obtain ⟨z1,z2,z3,z4,z5,z6⟩:=z;dsimp only at V f1 f2 f3 f4 f5 HZ;have bx:t=0\/(t≠0/\(j:Int)<t):=B;rcases B with rfl | ⟨a9,bi⟩
         · go_upto_if 70 with fail
           go_cut [71] (fun _ wy=>Hid (wy.heap[wr.heap.size]?=some (.cells #[.string z1,.string z2,.int .i64 z3,.int .i64 z4,.int .i64 z5,.int .i64 z6] 99 (0,0)))/\Hid (Fr No wr wy))
           case first =>
            cases g5 with
            | false =>
              have d:=HZ.out;simp only [Bool.false_eq_true,if_false] at d;cases d
              go_wp2;go_meet
              case rel=>exact ⟨H_ (zad _ _ _ rfl),H_ ((Fr.refl No wr).alloc _)⟩
            | true =>
              have d:=HZ.out;simp only [if_true] at d;cases d
              go_wp2;go_meet
              case rel=>exact ⟨H_ (zad _ _ _ rfl),H_ ((Fr.refl No wr).alloc _)⟩
           case rest =>
            obtain ⟨P,n⟩:=hcut;have k:=P.out;obtain ⟨p0,p1,p2,p3,p4,p5⟩:=cells6 k;have aV:=zaa k;have D:=H_ (HU.out.fr0 n.out);have C:=H_ (HG.out.trans0 n.out);have Q:=H_ (zar wc (kvC ⟨z1,z2,z3,z4,z5,z6⟩) 99 (0,0));clear k V f1 f2 f3 f4 f5 lf b3 b4 lb;have a6:((A.take j).map I).length+1<=100000001:=(by omega);go_wp2_with (at_builtin;refine zbs rfl _ _ 27 rfl 99 i0 _ 6 64 Tryz.underlying27 a7 ab aa a8 rfl (by decide) _ ((A.take j).map I) rfl (D.out.alloc _) WA U.out (C.out.alloc _) wc.heap.size 1 ⟨z1,z2,z3,z4,z5,z6⟩ rfl Q.out rfl (zdt _) (by unfold maxLen;omega) (by omega) ?_);intro g6 o6 a0 w6 p N r a1;have f:min j A.length=j:=(by omega);rw [f] at p;have H:=H_ p;have F:=H_ r;clear p r;simp only [f];go_wp2;go_roundg g
            case rel=>exact ⟨j+1,_,rfl,by go_num,by omega,H_ (by rw [s.out,List.map_take];exact H.out),H_ (zcf N),F⟩
            case measure=>omega
         have bz:(t==0)=false:=beq_eq_false_iff_ne.2 a9
         go_upto_if 70 with fail
         go_cut [71] (fun _ wy=>Hid (wy.heap[wr.heap.size]?=some (.cells #[.string z1,.string z2,.int .i64 z3,.int .i64 z4,.int .i64 z5,.int .i64 z6] 99 (0,0)))/\Hid (Fr No wr wy))
         case first =>
          cases g5 with
          | false =>
            have d:=HZ.out;simp only [Bool.false_eq_true,if_false] at d;cases d
            go_wp2;go_meet
            case rel=>exact ⟨H_ (zad _ _ _ rfl),H_ ((Fr.refl No wr).alloc _)⟩
          | true =>
            have d:=HZ.out;simp only [if_true] at d;cases d
            go_wp2;go_meet
            case rel=>exact ⟨H_ (zad _ _ _ rfl),H_ ((Fr.refl No wr).alloc _)⟩
         case rest =>
          obtain ⟨P,n⟩:=hcut;have k:=P.out;obtain ⟨p0,p1,p2,p3,p4,p5⟩:=cells6 k;have aV:=zaa k;have D:=H_ (HU.out.fr0 n.out);have C:=H_ (HG.out.trans0 n.out);have Q:=H_ (zar wc (kvC ⟨z1,z2,z3,z4,z5,z6⟩) 99 (0,0));clear k V f1 f2 f3 f4 f5 lf b3 b4 lb;have a6:((A.take j).map I).length+1<=100000001:=(by omega);go_wp2_with (at_builtin;refine zbs rfl _ _ 27 rfl 99 i0 _ 6 64 Tryz.underlying27 a7 ab aa a8 rfl (by decide) _ ((A.take j).map I) rfl (D.out.alloc _) WA U.out (C.out.alloc _) wc.heap.size 1 ⟨z1,z2,z3,z4,z5,z6⟩ rfl Q.out rfl (zdt _) (by unfold maxLen;omega) (by omega) ?_);intro g6 o6 a0 w6 p N r a1;have f:min j A.length=j:=(by omega);rw [f] at p;have H:=H_ p;have F:=H_ r;clear p r;simp only [f];go_wp2;go_roundg g
          case rel=>exact ⟨j+1,_,rfl,by go_num,by omega,H_ (by rw [s.out,List.map_take];exact H.out),H_ (zcf N),F⟩
          case measure=>omega
  | succ g =>
    have bj:(i:Int)<(L.length:Int):=(by omega);obtain ⟨x,y,hx,G,aG,l⟩:=aQ.out i (by omega);obtain ⟨ga,go,rfl⟩:=bC.out (by omega)
    have c:(M.take (i+1)).filter (fun y=>inB y.key R S)=(M.take i).filter (fun y=>inB y.key R S)++if inB y.key R S=true then [y] else []:=by
     rw [List.take_add_one,G,List.filter_append];simp only [Option.toList_some,List.filter_cons,List.filter_nil]
    have bV:((M.take i).filter fun y=>inB y.key R S).length<=100000000:=by
     refine Nat.le_trans (List.length_filter_le _ _) ?_;rw [List.length_take];have:=aU.out;omega
    have a:=HV.out.fr0 T.out;have V:=a.cell0 zae i hx rfl;have f1:=a.cell zae i 1 hx rfl;have f2:=a.cell zae i 2 hx rfl;have f3:=a.cell zae i 3 hx rfl;have f4:=a.cell zae i 4 hx rfl;have f5:=a.cell zae i 5 hx rfl;have lf:=World.block_lt_of_cell? _ _ V;have E:=H_ a;have s:=H_ c;have bn:=H_ aG;have bp:=H_ l;clear hx G a c aG l q;obtain ⟨x1,x2,x3,x4,x5,x6⟩:=x;obtain ⟨y1,y2,y3,y4,y5,y6⟩:=y;dsimp only at V f1 f2 f3 f4 f5 s;generalize bv:(M.take i).filter (fun y=>inB y.key R S)=OL at *;clear bv;obtain ⟨oa,aP,rfl,br,bt,_⟩:=HO.out.shape;go_upto_if 24 with fail
    go_cut [32] (fun _ wy=>Hid (wy.heap[wr.heap.size]?=some (.cells #[.string y1,.string y2,.int .i64 y3,.int .i64 y4,.int .i64 y5,.int .i64 y6] 99 (0,0)))/\Hid (Fr No wr wy))
    case first =>
     cases g7 with
     | false =>
       have d:=bn.out rfl;cases d
       go_wp2;go_meet
       case rel=>exact ⟨H_ (zad _ _ _ rfl),H_ ((Fr.refl No wr).alloc _)⟩
     | true =>
       have l:=bp.out rfl;obtain ⟨m,hm⟩:∃ m:Nat,m=L.length-1-i:=⟨_,rfl⟩;rw [<-hm] at l;have q0:=E.out.cell0 zae m l rfl;have q1:=E.out.cell zae m 1 l rfl;have q2:=E.out.cell zae m 2 l rfl;have q3:=E.out.cell zae m 3 l rfl;have q4:=E.out.cell zae m 4 l rfl;have q5:=E.out.cell zae m 5 l rfl;dsimp only at q0 q1 q2 q3 q4 q5;have bX:(L.length:Int)-1-(i:Int)=(m:Int):=(by omega);have c2:(m:Int)<(L.length:Int):=(by omega);have c7:IntKind.i64.wrap ((L.length:Int)-1)=(L.length:Int)-1:=(by rw [IntKind.wrap_i64];omega);have c6:IntKind.i64.wrap (m:Int)=(m:Int):=(by rw [IntKind.wrap_i64];omega);clear l hm;go_wp2;go_meet
       case rel=>exact ⟨H_ (zad _ _ _ rfl),H_ ((Fr.refl No wr).alloc _)⟩
    case rest =>
     obtain ⟨P,n⟩:=hcut;have k:=P.out;obtain ⟨p0,p1,p2,p3,p4,p5⟩:=cells6 k;have aV:=zaa k;have c0:=n.out.cell0 b0;have c1:=n.out.cell0 b1;have c9:=World.block_lt_of_cell? _ _ c0;have D:=H_ (HO.out.fr0 n.out);have C:=H_ (T.out.trans0 n.out);have Q:=H_ (zar wc (kvC ⟨y1,y2,y3,y4,y5,y6⟩) 99 (0,0));clear k V f1 f2 f3 f4 f5 lf b0 b1 b3 b4 b5 b6 lb
     cases hin:inB y1 R S with
     | false =>
       rw [hin] at s;go_wp2_with (go_at_call 150;refine (zgo _ _ _ _).mono ?_;rintro e w5 ⟨rfl,rfl⟩;rw [hin]);go_roundg g
       case rel=>exact ⟨i+1,_,rfl,by go_num,by omega,H_ (by rw [s.out];simpa using D.out),Y,C⟩
       case measure=>omega
     | true =>
       rw [hin] at s;have bq:OL.length+1<=maxLen:=(by unfold maxLen;omega);have bw:(OL.length+1) * 64<=140737488355328:=(by omega);go_upto_region 9 with (go_at_call 150;refine (zgo _ _ _ _).mono ?_;rintro e w5 ⟨rfl,rfl⟩;rw [hin]);go_wp2_with (at_builtin;refine zbs rfl _ _ 27 rfl 99 i0 _ 6 64 Tryz.underlying27 a7 ab aa a8 rfl (by decide) _ OL rfl (D.out.alloc _) W1 Y.out (C.out.alloc _) wc.heap.size 1 ⟨y1,y2,y3,y4,y5,y6⟩ rfl Q.out rfl (zdt _) bq bw ?_);intro g6 o6 a0 w6 p N r a1;have H:=H_ p;have F:=H_ r;clear p r;go_wp2;go_roundg g
       case rel=>exact ⟨i+1,_,rfl,by go_num,by omega,H_ (by rw [s.out];simpa using H.out),H_ (zcf N),F⟩
       case measure=>omega
theorem zhf (y:Ev):∀ u∈evC y,u.oneCell'=true:=by
 intro u a;simp [evC,kvC] at a;rcases a with rfl | rfl | rfl | rfl | rfl | rfl | rfl | rfl | rfl | rfl | rfl | rfl | rfl <;> rfl
theorem SlR.flat {α:Type} {f:α->List Value} {w:World} {sz g o cap:Nat} {L:List α} (hf:∀ x,(f x).length=sz) (hsz:0<sz) (h:SlR w sz f (.slice (some ⟨g,o,none⟩) L.length cap) L) (j:Nat) (u:Value) (hu:(L.flatMap f)[j]?=some u) :
 w.cell? ((⟨g,o,none⟩:Addr).add j)=some u:=by
 have i:j / sz * sz+j % sz=j:=Nat.div_add_mod' j sz;have e:=Nat.mod_lt j hsz;rw [<-i,zmd hf L _ _ e] at hu;obtain ⟨x,d,b⟩:=Option.bind_eq_some_iff.1 hu;have c:=h.cell hf (j / sz) (j % sz) d b;have a:(⟨g,o,none⟩:Addr).add j=⟨g,o+j,none⟩:=by unfold Addr.add;split <;> simp_all
 rw [a,show o+j=o+j / sz * sz+j % sz by omega];exact c
theorem zfi {α:Type} {f:α->List Value} {P:Program} (w:World) (t ty e:TypeId) (i:TypeInfo) (z:Value) (ht:P.underlying t=some (.slice e)) (hi:P.info? e=some i) (hz:i.zero=some z) (hzs:z.cells.size=i.size) (hsz:0<i.size)
 (hf:∀ x,(f x).length=i.size) (h1:∀ x,∀ u∈f x,u.oneCell'=true) (v x:Value) (L M:List α) (hv:SlF w e i.size f v L) (hx:SlR w i.size f x M) (h63:L.length+M.length<=maxLen) (hbytes:(L.length+M.length) * i.bytes<=140737488355328) :
 ∃ v' w',(Builtin.append_ #[t,t] ty #[v,x]).run P w=.ok v' w'/\SlF w' e i.size f v' (L++M)/\Fr (fun b=>v.ownBlock=some b) w w'/\(∀ b,v'.ownBlock=some b->v.ownBlock=some b\/w.heap.size<=b):=by
 rcases Nat.eq_zero_or_pos M.length with F | m
 · obtain rfl:=List.eq_nil_of_length_eq_zero F
   obtain ⟨a,cap,rfl,r,_⟩:=hv.shape;obtain ⟨l,c,rfl,_⟩:=hx.shape;exact ⟨_,w,zfh w t ty e i ht hi a l _ cap c r,by rw [List.append_nil];exact hv,Fr.refl _ w,fun b hb=>.inl hb⟩
 obtain ⟨l,c,rfl,p,E,d⟩:=hx.shape
 obtain ⟨q,A,rfl⟩:=d m
 obtain ⟨g,o,cap,w',B,s,n,C,G⟩:=zcl (P:=P) w t ty e i z ht hi hz hzs hsz v L.length (L.flatMap f) hv ⟨q,A,none⟩ M.length c (M.flatMap f) (zam hf M) m
  (fun j u hu=>SlR.flat hf hsz hx j u hu) (fun u hu=>by obtain ⟨y,_,D⟩:=List.mem_flatMap.1 hu;exact h1 y u D) h63 hbytes
 refine ⟨_,w',B,?_,(Fr.refl _ w).grown n fun k hk=>.inl hk,fun b hb=>?_⟩
 · unfold SlF
   rw [List.length_append,List.flatMap_append];exact s
 obtain rfl:g=b:=by simpa [Value.ownBlock] using hb
 rcases C with e | e
 · exact .inl e
 right;omega
theorem zif {α:Type} {f:α->List Value} {P:Program} {w:World} {ops:Array Oper} {o:Oper} {a:Act} {K:Act->World->Prop} {Q:Exit->Act->World->Prop} {E:Prop} (hgd:o.guard=none) (s x:Operand) (t:TypeId)
 (ho:o.op=.call { callee:=.builtin .append,args:=#[s,x],argTypes:=#[t,t] })
 (e:TypeId) (i:TypeInfo) (z:Value) (sz bytes:Nat) (ht:P.underlying t=some (.slice e)) (hi:P.info? e=some i) (hz:i.zero=some z) (hsize:i.size=sz) (hby:i.bytes=bytes) (hzs:z.cells.size=sz) (hsz:0<sz)
 (hf:∀ x,(f x).length=sz) (h1:∀ x,∀ u∈f x,u.oneCell'=true) (v xv:Value) (L M:List α) (hs:a.eval s=v) (hx:a.eval x=xv) (hv:SlF w e sz f v L) (hxv:SlR w sz f xv M)
 (h63:L.length+M.length<=maxLen) (hbytes:(L.length+M.length) * bytes<=140737488355328)
 (h:∀ v' w',SlF w' e sz f v' (L++M)->Fr (fun b=>v.ownBlock=some b) w w'->(∀ b,v'.ownBlock=some b->v.ownBlock=some b\/w.heap.size<=b)->K (a.put o.dst v') w') :
 if Region.wanted o (yielded ops a.tmps)=true then Oper.wp P o a w K Q else E:=by
 have k:Region.wanted o (yielded ops a.tmps)=true:=by simp [Region.wanted,hgd]
 rw [if_pos k];subst hsize;subst hby;obtain ⟨v',w',j,c,d,g⟩:=zfi (P:=P) (f:=f) w t o.type e i z ht hi hz hzs hsz hf h1 v xv L M hv hxv h63 hbytes;unfold Oper.wp execOp;simp only [ho,resolve,invoke,builtin,Sem.run_bind,Sem.run_pure,Result.andThen_ok,List.map_toArray,List.map_cons,List.map_nil,hs,hx,j];exact h v' w' c d g
theorem zos {α:Type} {f:α->List Value} {P:Program} {w:World} {ops:Array Oper} {rest:List Oper} {o:Oper} {a:Act} {Q:Exit->Act->World->Prop} (hgd:o.guard=none) (s x:Operand) (t:TypeId)
 (ho:o.op=.call { callee:=.builtin .append,args:=#[s,x],argTypes:=#[t,t] })
 (e:TypeId) (i:TypeInfo) (z:Value) (sz bytes:Nat) (ht:P.underlying t=some (.slice e)) (hi:P.info? e=some i) (hz:i.zero=some z) (hsize:i.size=sz) (hby:i.bytes=bytes) (hzs:z.cells.size=sz) (hsz:0<sz)
 (hf:∀ x,(f x).length=sz) (h1:∀ x,∀ u∈f x,u.oneCell'=true) (v xv:Value) (L M:List α) (hs:a.eval s=v) (hx:a.eval x=xv) (hv:SlF w e sz f v L) (hxv:SlR w sz f xv M)
 (w0:World) (hnb:∀ k,v.ownBlock=some k->w0.heap.size<=k) (hfr:Fr No w0 w)
 (h63:L.length+M.length<=maxLen) (hbytes:(L.length+M.length) * bytes<=140737488355328)
 (h:∀ (b:Option Addr) (cap:Nat) (w':World),SlF w' e sz f (.slice b (L++M).length cap) (L++M)->(∀ j,(Value.slice b (L++M).length cap).ownBlock=some j->w0.heap.size<=j)->Fr No w0 w'->wpList P ops Q rest (a.put o.dst (.slice b (L++M).length cap)) w'):wpList P ops Q (o :: rest) a w:=by
 subst hsize;subst hby;refine wpList_plain hgd fun _ hK=>?_;obtain ⟨v',w',p,g,l,m⟩:=zfi (P:=P) (f:=f) w t o.type e i z ht hi hz hzs hsz hf h1 v xv L M hv hxv h63 hbytes;have n:=hfr.size;have c:Fr No w0 w':=hfr.trans l fun b hb h=>absurd (hnb b h) (by omega);have d:∀ j,v'.ownBlock=some j->w0.heap.size<=j:=fun j hj=>(m j hj).elim (hnb j) fun h=>by omega
 obtain ⟨b,cap,rfl,_⟩:=g.shape;unfold Oper.wp execOp;simp only [ho,resolve,invoke,builtin,Sem.run_bind,Sem.run_pure,Result.andThen_ok,List.map_toArray,List.map_cons,List.map_nil,hs,hx,p];exact hK _ _ (h b cap w' g d c)
theorem zhp {a:Option Addr} {n m c d:Nat}:(Value.slice a n c).ownBlock=(Value.slice a m d).ownBlock:=by cases a <;> rfl
def zwi (D:Doc) (E:List Ev) (vk u2:Value) (w:World) (e:Ending) (w':World):Prop:=∃ a c,e=.returned (docV (zce D E) vk (.slice a (zce D E).events.length c))/\SlR w' 13 evC (.slice a (zce D E).events.length c) (zce D E).events/\Fr No w w'/\∀ b,0<(zce D E).events.length->(Value.slice a (zce D E).events.length c).ownBlock=some b->(0<D.events.length/\u2.ownBlock=some b)\/w.heap.size<=b
set_option maxHeartbeats 4000000 in
theorem zjb (w:World) (D:Doc) (a1 a2 a3:Option Addr) (n1 k1 k2 k3:Nat) (E:List Ev) (hD:SlR w 13 evC (.slice a2 D.events.length k2) D.events) (hE:SlR w 13 evC (.slice a3 E.length k3) E) (hl:D.events.length+E.length<=100000000) (hr : -1099511627776<=D.rev/\D.rev<=1099511627776) :
 Calls Tryz.prog 111 #[docV D (.slice a1 n1 k1) (.slice a2 D.events.length k2),.slice a3 E.length k3] w (zwi D E (.slice a1 n1 k1) (.slice a2 D.events.length k2) w):=by
 have N:=fun h:E = []=>show zce D E=D from if_pos h
 have I:=fun h:E≠[]=>show zce D E=⟨D.rev+1,D.mark,D.kvs,D.events++E⟩ from if_neg h
 obtain ⟨i0,F,A,z,H⟩:=info_parts info73;have G:((w.alloc (Obj.cells #[.int .i64 D.rev,.int .i64 D.mark,.slice a1 n1 k1,.slice a2 D.events.length k2] 30)).alloc (Obj.cells #[.int .i64 0,.int .i64 0,.slice none 0 0,.slice none 0 0] 30)).heap[w.heap.size]?=some (Obj.cells #[.int .i64 D.rev,.int .i64 D.mark,.slice a1 n1 k1,.slice a2 D.events.length k2] 30 (0,0)):=zaj (zad w _ _ rfl) _;have v:((w.alloc (Obj.cells #[.int .i64 D.rev,.int .i64 D.mark,.slice a1 n1 k1,.slice a2 D.events.length k2] 30)).alloc (Obj.cells #[.int .i64 0,.int .i64 0,.slice none 0 0,.slice none 0 0] 30)).heap[w.heap.size+1]?=some (Obj.cells #[.int .i64 0,.int .i64 0,.slice none 0 0,.slice none 0 0] 30 (0,0)):=zad _ _ _ (by simp)
 have l:Fr No w ((w.alloc (Obj.cells #[.int .i64 D.rev,.int .i64 D.mark,.slice a1 n1 k1,.slice a2 D.events.length k2] 30)).alloc (Obj.cells #[.int .i64 0,.int .i64 0,.slice none 0 0,.slice none 0 0] 30)):=((Fr.refl No w).alloc _).alloc _;have q:=H_ G;have g:=H_ v;have m:=H_ l;have a0:=H_ hD;have HD:=H_ (hD.fr0 l);have HE:=H_ (hE.fr0 l);have X:=H_ I;have a5:=H_ N;have a4:Hid (E.length=0->E = []):=H_ List.eq_nil_of_length_eq_zero;have ar:IntKind.i64.wrap (D.rev+1)=D.rev+1:=by rw [IntKind.wrap_i64];omega
 clear G v l hD hE I N;unfold docV;go_enter Tryz.func111,Tryz.ntmps111;go_upto_region 1 with fail;generalize (w.alloc (Obj.cells #[.int .i64 D.rev,.int .i64 D.mark,.slice a1 n1 k1,.slice a2 D.events.length k2] 30)).alloc (Obj.cells #[.int .i64 0,.int .i64 0,.slice none 0 0,.slice none 0 0] 30)=c at *;have ai:c.heap.size=c.heap.size:=rfl;generalize av:w.heap.size+1=rb at *;generalize ah:w.heap.size=s at *
 have P:Hid (∀ W,Fr No c W->W.cell? ⟨s,0,none⟩=some (.int .i64 D.rev)/\W.cell? ⟨s,1,none⟩=some (.int .i64 D.mark)/\W.cell? ⟨s,2,none⟩=some (.slice a1 n1 k1)/\W.cell? ⟨s,3,none⟩=some (.slice a2 D.events.length k2)/\W.cell? ⟨rb,0,none⟩=some (.int .i64 0)/\W.cell? ⟨rb,1,none⟩=some (.int .i64 0)/\W.cell? ⟨rb,2,none⟩=some (.slice none 0 0)/\W.cell? ⟨rb,3,none⟩=some (.slice none 0 0)):=H_ (fun W hW=>by
  have h1:=hW.heap q.out id;have h2:=hW.heap g.out id;unfold World.cell?;dsimp only;rw [h1,h2];exact ⟨rfl,rfl,rfl,rfl,rfl,rfl,rfl,rfl⟩)
 have n:Hid (∀ W,Fr No c W->∀ j,W.frozen? ⟨rb,j,none⟩=false):=H_ (fun W hW j=>by simp [World.frozen?,hW.heap g.out id]);have ao:s≠rb:=by omega
 by_cases hE0:E.length=0
 · obtain ⟨Q,R,O,S,y0,y1,y2,y3⟩:=P.out c (Fr.refl No c)
   have yf:=n.out c (Fr.refl No c);have l1:=zaa q.out;have l2:=zaa g.out
   have t:Fr No w ((((c.setCell ⟨rb,0,none⟩ (.int .i64 D.rev)).setCell ⟨rb,1,none⟩ (.int .i64 D.mark)).setCell ⟨rb,2,none⟩ (.slice a1 n1 k1)).setCell ⟨rb,3,none⟩ (.slice a2 D.events.length k2)) :=
    (((m.out.setCell (p:=⟨rb,0,none⟩) (.inr (by show w.heap.size<=rb;omega)) _).setCell (p:=⟨rb,1,none⟩) (.inr (by show w.heap.size<=rb;omega)) _).setCell (p:=⟨rb,2,none⟩) (.inr (by show w.heap.size<=rb;omega)) _).setCell (p:=⟨rb,3,none⟩) (.inr (by show w.heap.size<=rb;omega)) _
   have C:=zab (zab (zab (zab g.out 0 (.int .i64 D.rev)) 1 (.int .i64 D.mark)) 2 (.slice a1 n1 k1)) 3 (.slice a2 D.events.length k2);have i:SlR ((((c.setCell ⟨rb,0,none⟩ (.int .i64 D.rev)).setCell ⟨rb,1,none⟩ (.int .i64 D.mark)).setCell ⟨rb,2,none⟩ (.slice a1 n1 k1)).setCell ⟨rb,3,none⟩ (.slice a2 D.events.length k2)) 13 evC (.slice a2 D.events.length k2) D.events:=a0.out.fr0 t;have U:=H_ t;have Y:=H_ C;have o:=H_ i;have u:=H_ (a5.out (a4.out hE0));clear t C i;go_wp2;refine bodyPost_ret (results_cell_row rfl _ _ rb 30 _ (0,0) _ rfl Y.out Tryz.underlying30 rfl (by kernel_rfl)) rfl ?_;refine ⟨a2,k2,?_,by rw [u.out];exact o.out,U.out,fun b h0 hb=>.inl ⟨by rw [u.out] at h0;exact h0,zhp.trans hb⟩⟩;rw [u.out]
   rfl
 obtain ⟨Q,R,O,S,_,_,_,_⟩:=P.out c (Fr.refl No c)
 have l1:=zaa q.out;have l2:=zaa g.out;go_upto_region 5 with (at_builtin;refine zos rfl _ _ 28 rfl 101 i0 _ 13 136 Tryz.underlying28 F A z H rfl (by decide) zac zhf (.slice none 0 0) _ [] D.events rfl rfl (SlF.nil _ _ _ _) HD.out c (by simp [Value.ownBlock]) (Fr.refl No c) (by unfold maxLen;simp only [List.length_nil];omega) (by simp only [List.length_nil];omega) ?_);intro b5 J w5 x B d;have g5:Fr No c w5.drew:=d.drew;have V:=H_ x;have r:=H_ B;have Z:=H_ (HE.out.fr0 d);have ap:s<w5.heap.size:=Nat.lt_of_lt_of_le l1 d.size;have aw:rb<w5.heap.size:=Nat.lt_of_lt_of_le l2 d.size;clear Q R O S;obtain ⟨Q,R,O,S,y0,y1,y2,y3⟩:=P.out w5 d;have yf:=n.out w5 d;have aj:c.heap.size<=w5.heap.size:=d.size;clear x B d;go_upto_region 5 with fail
 go_region_law (refine zif rfl _ _ 28 rfl 101 i0 _ 13 136 Tryz.underlying28 F A z H rfl (by decide) zac zhf (.slice b5 D.events.length J) (.slice a3 E.length k3) D.events E rfl rfl V.out.drew Z.out.drew (by unfold maxLen;omega) (by omega) ?_;intro v6 K f L y;obtain ⟨va,a,rfl,_,_,_⟩:=f.shape;have T:Fr No c K:=g5.trans L (fun j hj h=>absurd (r.out j h) (by omega));obtain ⟨Q,R,O,S,y0,y1,y2,y3⟩:=P.out K T;have yf:=n.out K T;have l6:=T.size;have a6:=H_ f;have M:=H_ y;have G6:=H_ T;clear f L y)
 all_goals
  go_wp2;have f:=a6.out;rw [List.length_append] at f
  have k:(Value.slice va (D.events.length+E.length) a).ownBlock≠some rb:=fun e=>by
   rcases M.out rb (by rw [List.length_append];exact e) with h | h
   · have:=r.out rb h;omega
   have h':w5.heap.size<=rb:=h
   omega
  have t:Fr No w ((((K.setCell ⟨rb,0,none⟩ (.int .i64 (D.rev+1))).setCell ⟨rb,1,none⟩ (.int .i64 D.mark)).setCell ⟨rb,2,none⟩ (.slice a1 n1 k1)).setCell ⟨rb,3,none⟩ (.slice va (D.events.length+E.length) a)) :=
   ((((m.out.trans0 G6.out).setCell (p:=⟨rb,0,none⟩) (.inr (by show w.heap.size<=rb;omega)) _).setCell (p:=⟨rb,1,none⟩) (.inr (by show w.heap.size<=rb;omega)) _).setCell (p:=⟨rb,2,none⟩) (.inr (by show w.heap.size<=rb;omega)) _).setCell (p:=⟨rb,3,none⟩) (.inr (by show w.heap.size<=rb;omega)) _
  have C:=zab (zab (zab (zab (G6.out.heap g.out id) 0 (.int .i64 (D.rev+1))) 1 (.int .i64 D.mark)) 2 (.slice a1 n1 k1)) 3 (.slice va (D.events.length+E.length) a);have i:SlF ((((K.setCell ⟨rb,0,none⟩ (.int .i64 (D.rev+1))).setCell ⟨rb,1,none⟩ (.int .i64 D.mark)).setCell ⟨rb,2,none⟩ (.slice a1 n1 k1)).setCell ⟨rb,3,none⟩ (.slice va (D.events.length+E.length) a)) 101 13 evC (.slice va (D.events.length+E.length) a) (D.events++E):=(((f.other ⟨rb,0,none⟩ _ k).other ⟨rb,1,none⟩ _ k).other ⟨rb,2,none⟩ _ k).other ⟨rb,3,none⟩ _ k;have U:=H_ t;have Y:=H_ C;have o:=H_ i;have u:=H_ (X.out (fun h=>hE0 (by rw [h];rfl)));clear t C i f;refine bodyPost_ret (results_cell_row rfl _ _ rb 30 _ (0,0) _ rfl Y.out Tryz.underlying30 rfl (by kernel_rfl)) rfl ?_
  refine ⟨va,a,?_,?_,U.out,fun b _ hb=>.inr ?_⟩
  rotate_left 2
  · rcases M.out b (zhp.trans hb) with h | h
    · have:=r.out b h
      have:=m.out.size;omega
    have h':w5.heap.size<=b:=h
    have:=m.out.size;omega
  · rw [u.out,List.length_append]
    rfl
  rw [u.out,List.length_append]
  exact o.out.toR zac
theorem results_doc2 {P:Program} {fn:Func} {p t:Tmp} {ty:TypeId} (h:fn.results=#[.cell p ty,.tmp t]) (tmps:Array Value) (w:World) (g:Nat) (t0:TypeId) (cs:Array Value) (fr:Nat×Nat) (d:TypeDesc)
 (hp:tmps.getD p undef=.pointer (some ⟨g,0,none⟩)) (hg:w.heap[g]?=some (.cells cs t0 fr))
 (hu:P.underlying ty=some d) (hd:(match d with | .struct _ | .array _ _=>true | _=>false)=true) (hi:(P.info? ty).map (·.size)=some cs.size) :
 (results fn tmps).run P w=.ok (.tuple #[.agg cs,tmps.getD t undef]) w:=by
 have a:tmps[p]?.getD undef=.pointer (some ⟨g,0,none⟩):=by simpa using hp
 simp [results,h,a,asAddr,run_loadVar_row w g t0 ty cs fr d hg hu hd hi]
theorem zcy {P:Program} {fn:Func} {p t u v:Tmp} {ty:TypeId} (h:fn.results=#[.cell p ty,.tmp t,.tmp u,.tmp v]) (tmps:Array Value) (w:World) (g:Nat) (t0:TypeId) (cs:Array Value) (fr:Nat×Nat) (d:TypeDesc)
 (hp:tmps.getD p undef=.pointer (some ⟨g,0,none⟩)) (hg:w.heap[g]?=some (.cells cs t0 fr))
 (hu:P.underlying ty=some d) (hd:(match d with | .struct _ | .array _ _=>true | _=>false)=true) (hi:(P.info? ty).map (·.size)=some cs.size) :
 (results fn tmps).run P w=.ok (.tuple #[.agg cs,tmps.getD t undef,tmps.getD u undef,tmps.getD v undef]) w:=by
 have a:tmps[p]?.getD undef=.pointer (some ⟨g,0,none⟩):=by simpa using hp
 simp [results,h,a,asAddr,run_loadVar_row w g t0 ty cs fr d hg hu hd hi]
theorem zcx {w X:World} {b:Nat} {a0 a1 a2 a3:Value} (hk:X.heap[b]?=some (.cells #[a0,a1,a2,a3] 30 (0,0))) (v0 v1 v2 v3:Value) :
 ∃ Z,((((X.setCell ⟨b,0,none⟩ v0).setCell ⟨b,1,none⟩ v1).setCell ⟨b,2,none⟩ v2).setCell ⟨b,3,none⟩ v3)=Z/\Z.heap[b]?=some (.cells #[v0,v1,v2,v3] 30 (0,0))/\(Fr No w X->w.heap.size<=b->Fr No w Z)/\Fr (fun j=>j=b) X Z:=by
 have a:=zab hk 0 v0;have e:=zab a 1 v1;have c:=zab e 2 v2;have d:=zab c 3 v3
 exact ⟨_,rfl,by rw [d];simp,fun hf hb=>((((hf.setCell (p:=⟨b,0,none⟩) (.inr hb) _).setCell (p:=⟨b,1,none⟩) (.inr hb) _).setCell (p:=⟨b,2,none⟩) (.inr hb) _).setCell (p:=⟨b,3,none⟩) (.inr hb) _),
  (((((Fr.refl (fun j=>j=b) X).setCell (p:=⟨b,0,none⟩) (.inl rfl) _).setCell (p:=⟨b,1,none⟩) (.inl rfl) _).setCell (p:=⟨b,2,none⟩) (.inl rfl) _).setCell (p:=⟨b,3,none⟩) (.inl rfl) _)⟩
theorem SlR.frp {α:Type} {f:α->List Value} {w w':World} {sz:Nat} {v:Value} {L:List α} {S:Nat->Prop} (h:SlR w sz f v L) (hf:Fr S w w') (hn:0<L.length->∀ k,v.ownBlock=some k->¬ S k):SlR w' sz f v L:=by
 rcases Nat.eq_zero_or_pos L.length with c | e
 · obtain rfl:=List.eq_nil_of_length_eq_zero c
   obtain ⟨a,cap,rfl,d,b,_⟩:=h;exact ⟨a,cap,rfl,d,b,fun h=>by simp at h⟩
 exact h.fr hf (hn e)
def DocVN (D:Doc) (w0:World) (D0:Doc) (u1 u2:Value) (w:World) (v:Value):Prop:=∃ b1 c1 b2 c2,v=docV D (.slice b1 D.kvs.length c1) (.slice b2 D.events.length c2)/\DocR w D (.slice b1 D.kvs.length c1) (.slice b2 D.events.length c2) ∧
 (∀ b,0<D.kvs.length->(Value.slice b1 D.kvs.length c1).ownBlock=some b->(0<D0.kvs.length/\u1.ownBlock=some b)\/w0.heap.size<=b)/\(∀ b,0<D.events.length->(Value.slice b2 D.events.length c2).ownBlock=some b->(0<D0.events.length/\u2.ownBlock=some b)\/w0.heap.size<=b)
theorem zbu {α:Type} {f:α->List Value} {P:Program} {w:World} {ops:Array Oper} {rest:List Oper} {o:Oper} {a:Act} {Q:Exit->Act->World->Prop} (hgd:o.guard=none) (s x:Operand) (t:TypeId)
 (ho:o.op=.call { callee:=.builtin .append,args:=#[s,x],argTypes:=#[t,t] })
 (e:TypeId) (i:TypeInfo) (z:Value) (sz bytes:Nat) (ht:P.underlying t=some (.slice e)) (hi:P.info? e=some i) (hz:i.zero=some z) (hsize:i.size=sz) (hby:i.bytes=bytes) (hzs:z.cells.size=sz) (hsz:0<sz)
 (v:Value) (L:List α) (hs:a.eval s=v) (hown:SlF w e sz f v L)
 (b c:Nat) (y:α) (hx:a.eval x=.slice (some ⟨b,0,none⟩) 1 c) (hnews:∀ j u,(f y)[j]?=some u->w.cell? ((⟨b,0,none⟩:Addr).add j)=some u) (hl:(f y).length=sz) (h1:∀ u∈f y,u.oneCell'=true)
 (h63:L.length+1<=maxLen) (hbytes:(L.length+1) * bytes<=140737488355328)
 (h:∀ g o' cap w',SlF w' e sz f (.slice (some ⟨g,o',none⟩) (L.length+1) cap) (L++[y])->Fr (fun b=>v.ownBlock=some b) w w'->(v.ownBlock=some g\/g=w.heap.size)->g<w'.heap.size →
   wpList P ops Q rest (a.put o.dst (.slice (some ⟨g,o',none⟩) (L.length+1) cap)) w'):wpList P ops Q (o :: rest) a w:=by
 refine zao hgd s x t ho e i z sz bytes ht hi hz hsize hby hzs hsz v L hs hown b c y hx hnews hl h1 h63 hbytes ?_;intro g o' cap w' d l m n;exact h g o' cap w' d ((Fr.refl _ w).grown l fun k hk=>.inl hk) m n
theorem SlR.not4 {w:World} {v:Value} {L:List Ev} (h:SlR w 13 evC v L) (h0:0<L.length) {b:Nat} (hb:v.ownBlock=some b) {a0 a1 a2 a3:Value} {t:TypeId} (hk:w.heap[b]?=some (.cells #[a0,a1,a2,a3] t (0,0))):False:=by
 obtain ⟨a,cap,rfl,k,j,e⟩:=h;obtain ⟨g,o,rfl,f⟩:=e h0;obtain rfl:g=b:=by simpa [Value.ownBlock] using hb
 have d:L[0]?=some L[0]:=List.getElem?_eq_getElem h0;have c:=f 0 _ d 12 _ rfl;have i:(#[a0,a1,a2,a3]:Array Value)[o+0 * 13+12]?=none:=Array.getElem?_eq_none (by simp;try omega);unfold World.cell? at c;dsimp only at c;rw [hk] at c;simp only [i] at c;cases c
end Go.Proofs.YthljnnjpmdgkoaaGreat