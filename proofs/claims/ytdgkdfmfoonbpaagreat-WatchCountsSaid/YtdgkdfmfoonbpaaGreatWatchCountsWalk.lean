/- The statement's function WatchCounts, walked: it returns true, whatever its arguments are. -/
import Derived.Test.YtdgkdfmfoonbpaaGreatW30
import Derived.Test.YtdgkdfmfoonbpaaGreatW31
import Derived.Deep.DeepCutAuto
namespace Go.Proofs.YtdgkdfmfoonbpaaGreat
open Go Go.Proofs Go.RowKit
set_option maxRecDepth 100000
set_option maxHeartbeats 16000000 in
theorem zgq {TA:zan} (hT:TreeOk TA 1000000) (hTD:TreeDl TA) (w:World) (v:Value) (l:List ActQ) (id:Int) (hv:ActR w v l) (hid:(Lit.int .i64 id).wf=true) :
 Calls Tryz.prog 6 #[v,.int .i64 id] w fun e w'=>e=.returned (.bool true)/\Fr No w w':=by
 have A:=zdt w v l hv;have a2:=fun W=>zea hT W;obtain ⟨va,bp,aL,bE,bF,ab⟩:=hv.sl.shape
 cases hfl:zcx l with
 | false =>
   rw [hfl] at A;clear hv ab;subst aL;have CA:=H_ A;clear A;go_enter Tryz.func6,Tryz.ntmps6
   go_wp2_with (first
    | (go_at_call 9;(with_reducible refine CA.out.mono ?_);rintro e w1 ⟨rfl,J⟩)
    | (go_at_call 10;refine (a2 _).mono ?_;rintro e w2 ⟨rfl,Q⟩))
   go_ret;exact ⟨rfl,J.trans0 Q⟩
 | true =>
   rw [hfl] at A;have a6:=zfu hfl;subst aL;have bn:=a6.1;have CA:=H_ A;have HV:=H_ hv;have b5:=H_ ab;have b4:=H_ a6.2;have aX:=H_ a2;have an:=H_ hid;clear A hv ab a6 a2 hid;go_enter Tryz.func6,Tryz.ntmps6
   go_upto_region 4 with (first
    | (go_at_call 9;(with_reducible refine CA.out.mono ?_);rintro e w1 ⟨rfl,J⟩)
    | (go_at_call 19;refine (zcf hT _).mono ?_;rintro e w2 ⟨s,rfl,F0,aK,Q,aF⟩))
   have ar:=H_ aK;have Y:=H_ (J.trans0 Q);have ap:Hid (∀ b,F0 b->w.heap.size<=b):=H_ fun b hb=>Nat.le_trans J.size (aF b hb);clear aK J Q aF CA
   go_wp2_with (first
    | (go_at_call 11;refine (Both.made hT Good.new ar.out (Int.le_refl 0)).mono ?_;rintro e w3 ⟨h,rfl,B0,av,aB,aG⟩))
   have ai:Hid (Both TA w3 h s 0 0 newS newD ⟨newS.rev,0,[]⟩ B0):=H_ av;have al:=H_ (Y.out.trans0 aB);have aq:Hid (∀ b,B0 b->w.heap.size<=b):=H_ fun b hb=>(aG b hb).elim (ap.out b) fun x=>by have:=Y.out.size;omega
   clear av aB aG ar Y ap
   go_loopg [8,9,10] l.length (fun g s8 s9 s10 wr=>∃ (i:Nat) (c:Bool) (S:St) (D:Doc) (H:Hb) (B:Nat->Prop),s8=.int .i64 H.last/\s9=.bool c/\s10=.int .i64 i/\i+g=l.length/\Hid (Both TA wr h s i i S D H B)/\Hid (CntInv H id c)/\Hid (∀ b,B b->w.heap.size<=b)/\Hid (Fr No w wr))
   case atStart=>exact ⟨0,false,newS,newD,_,B0,rfl,rfl,rfl,by omega,ai,H_ (CntInv.new _ id),aq,al⟩
   case round =>
    clear ai aq al;obtain ⟨i,c,S,D,H,B,rfl,rfl,rfl,hi,HB,G,HN,HF⟩:=hrel
    cases gk with
    | zero =>
      have bb:¬ (i:Int)<(l.length:Int):=(by omega);have ax:=HB.out.behind hT (by omega);have a3:=zqs HB.out.ok
      have ay:c=true->∀ j∈zdy H,j≠id:=fun hg j hj e=>by
       obtain ⟨_,_,h3⟩:=a3.2 j hj;subst e;exact h3 (G.out.away hg).2.2
      have aj:=H_ ax;have ak:=H_ a3;have aZ:=H_ ay;clear ax a3 ay HB G;generalize zdy H=M at *;generalize H.last=V at *;go_wp2_with (go_at_call 17;(with_reducible refine aj.out.mono ?_);rintro e w4 ⟨bv,rfl,a4,aC,_⟩);obtain ⟨ba,bj,rfl,bw,b7,aw⟩:=a4.shape;have b0:=H_ a4;have aY:=H_ aw;have b3:=H_ (HF.out.trans0 aC);unfold maxLen at b7;clear a4 aC aw HF aj
      go_loopg [19] M.length (fun g s19 wq=>∃ (k:Nat),s19=.int .i64 k/\k+g=M.length/\Hid (Fr No w4 wq))
      case atStart=>exact ⟨0,rfl,by omega,H_ (Fr.refl _ _)⟩
      case round =>
       obtain ⟨k,rfl,hk,HQ⟩:=hrel
       cases gk with
       | zero =>
         have bc:¬ (k:Int)<(M.length:Int):=(by omega);go_wp2_with (go_at_call 10;refine (aX.out _).mono ?_;rintro e w9 ⟨rfl,b9⟩);go_ret;exact ⟨rfl,(b3.out.trans0 HQ.out).trans0 b9⟩
       | succ g =>
         have bc:(k:Int)<(M.length:Int):=(by omega);obtain ⟨gb,go,rfl⟩:=aY.out (by omega);obtain ⟨x,F⟩:∃ x,M[k]?=some x:=⟨_,List.getElem?_eq_getElem (by omega)⟩;have bf:=ak.out.2 x (List.mem_of_getElem? F);have a8:=b0.out.fr0 HQ.out;have c0:=a8.cell1 zax k F rfl;have q0:wr.drew.cell? ⟨gb,go+k,none⟩=some (.int .i64 x):=c0;have l0:gb<wr.drew.heap.size:=World.block_lt_of_cell? _ _ c0;have d1:decide (x<1)=false:=decide_eq_false (by omega);have d2:decide (x > V)=false:=decide_eq_false (by omega);have d3:decide (V<x)=false:=decide_eq_false (by omega);have bH:IntKind.i64.wrap (k:Int)=k:=(by rw [IntKind.wrap_i64];omega);have bx:(0:Int)<=k:=(by omega);have az:=aZ.out;have aM:=List.mem_of_getElem? F
         obtain ⟨y,hy⟩:∃ y,0<k->M[k-1]?=some y/\y<x/\wr.drew.cell? ⟨gb,go+(k-1),none⟩=some (.int .i64 y):=by
          by_cases h0:0<k
          · have hy:M[k-1]?=some M[k-1]:=List.getElem?_eq_getElem (by omega)
            refine ⟨M[k-1],fun _=>⟨hy,?_,a8.cell1 zax (k-1) hy rfl⟩⟩;have:=List.pairwise_iff_getElem.1 ak.out.1 (k-1) k (by omega) (by omega) (by omega)
            rwa [(List.getElem?_eq_some_iff.1 F).2] at this
          exact ⟨0,fun h=>absurd h h0⟩
         have R:c=true->(x==id)=false:=fun hg=>by simpa using az hg x aM
         clear az aM F a8 c0 bf;by_cases h0:0<k
         · obtain ⟨_,bI,q1⟩:=hy h0
           have e0:decide ((k:Int) > 0)=true:=decide_eq_true (by omega);have e1:decide ((0:Int)<k)=true:=decide_eq_true (by omega);have e2:decide (x<=y)=false:=decide_eq_false (by omega);have be:IntKind.i64.wrap ((k:Int)-1)=(k-1:Nat):=(by rw [IntKind.wrap_i64];omega);have bz:(0:Int)<=((k-1:Nat):Int):=(by omega);have bB:((k-1:Nat):Int)<(M.length:Int):=(by omega);clear hy
           cases c with
           | true =>
             as_aux_lemma =>
             have R:=R rfl;go_wp2_with fail;refine zba (C:=fun Z=>Z=wr.drew) (by kernel_rfl) (by kernel_rfl) rfl ?_
             repeat (refine (wpQuiet_step (fun K hK=>?_):_)
                     go_simp
                     first
                      | (refine hK _ ?_;clear hK K)
                      | (apply Exists.intro
                         refine ⟨fun W hW=>?_,hK _ ?_⟩
                         (first
                           | exact rfl
                           | (subst hW;go_simp;exact rfl))
                         clear hK K))
             refine (wpQuiet_nil ?_:_);intro w9 z;subst z;go_wp2;go_roundg g
             case rel=>exact ⟨k+1,by go_num,by omega,H_ HQ.out.drew⟩
             case measure=>omega
           | false =>
             as_aux_lemma =>
             go_wp2_with fail;refine zba (C:=fun Z=>Z=wr.drew) (by kernel_rfl) (by kernel_rfl) rfl ?_
             repeat (refine (wpQuiet_step (fun K hK=>?_):_)
                     go_simp
                     first
                      | (refine hK _ ?_;clear hK K)
                      | (apply Exists.intro
                         refine ⟨fun W hW=>?_,hK _ ?_⟩
                         (first
                           | exact rfl
                           | (subst hW;go_simp;exact rfl))
                         clear hK K))
             refine (wpQuiet_nil ?_:_);intro w9 z;subst z;go_wp2;go_roundg g
             case rel=>exact ⟨k+1,by go_num,by omega,H_ HQ.out.drew⟩
             case measure=>omega
         have aD:k=0:=by omega
         subst aD;have bK:wr.drew.cell? ⟨gb,go,none⟩=some (.int .i64 x):=q0;clear hy q0
         cases c with
         | true =>
           as_aux_lemma =>
           have R:=R rfl;go_wp2_with fail;refine zba (C:=fun Z=>Z=wr.drew) (by kernel_rfl) (by kernel_rfl) rfl ?_
           repeat (refine (wpQuiet_step (fun K hK=>?_):_)
                   go_simp
                   first
                    | (refine hK _ ?_;clear hK K)
                    | (apply Exists.intro
                       refine ⟨fun W hW=>?_,hK _ ?_⟩
                       (first
                         | exact rfl
                         | (subst hW;go_simp;exact rfl))
                       clear hK K))
           refine (wpQuiet_nil ?_:_);intro w9 z;subst z;go_wp2;go_roundg g
           case rel=>exact ⟨1,by go_num,by omega,H_ HQ.out.drew⟩
           case measure=>omega
         | false =>
           as_aux_lemma =>
           go_wp2_with fail;refine zba (C:=fun Z=>Z=wr.drew) (by kernel_rfl) (by kernel_rfl) rfl ?_
           repeat (refine (wpQuiet_step (fun K hK=>?_):_)
                   go_simp
                   first
                    | (refine hK _ ?_;clear hK K)
                    | (apply Exists.intro
                       refine ⟨fun W hW=>?_,hK _ ?_⟩
                       (first
                         | exact rfl
                         | (subst hW;go_simp;exact rfl))
                       clear hK K))
           refine (wpQuiet_nil ?_:_);intro w9 z;subst z;go_wp2;go_roundg g
           case rel=>exact ⟨1,by go_num,by omega,H_ HQ.out.drew⟩
           case measure=>omega
    | succ g =>
      have bb:(i:Int)<(l.length:Int):=(by omega);obtain ⟨ga,go,rfl⟩:=b5.out (by omega);obtain ⟨q,F⟩:∃ q,l[i]?=some q:=⟨_,List.getElem?_eq_getElem (by omega)⟩;obtain ⟨aI,aJ,_⟩:=b4.out q (List.mem_of_getElem? F);have aa:=HV.out.fr0 HF.out;have RG:=H_ (aa.sl.rangeAt zap i F);have lg:ga<wr.heap.size:=World.block_lt_of_cell? _ _ (aa.sl.cell0 zap i F rfl);have X:=H_ (actF hT hTD HB.out (by omega) aI aJ (HV.out.frm i q F) (HV.out.ops i q F) (HV.out.keys i q F) HN.out HF.out)
      have au:Hid (∀ u∈actC q,u.oneCell'=true):=by
       obtain ⟨oa,oc,ho⟩:=X.out.os;obtain ⟨ka,kc,hk⟩:=X.out.ks;exact H_ (zpl ho hk)
      have N:=H_ (zad wr (.cells (actC q).toArray 31) _ rfl);have am:Hid (Fr No wr (wr.alloc (.cells (actC q).toArray 31))):=H_ ((Fr.refl No wr).alloc _);have ao:=H_ fun W=>zgk W q;have bC:=zfk q.kind
      have be:IntKind.i64.wrap (H.last+1)=H.last+1:=by
       have h1:=HB.out.p.last;have h2:=G.out.ok.last;rw [IntKind.wrap_i64];omega
      have bG:IntKind.i64.wrap ((i:Int)+1)=i+1:=(by rw [IntKind.wrap_i64];omega);have bD:=G.out.ok.last;clear F aa aI aJ;generalize kindN q.kind=U at *
      go_upto_region 13 with (first
       | (with_reducible show wpList _ _ _ ({ dst:=some 45,op:=_,type:=_,pos:=_,after:=_,guard:=_ } :: _) _ _
          refine zau rfl 31 _ rfl ga (go+i * 20) rfl (actC q) RG.out row31 (info31l q) ?_)
       | (with_reducible show wpList _ _ _ ({ dst:=none,op:=_,type:=_,pos:=_,after:=_,guard:=_ } :: _) _ _
          refine zed rfl rfl 31 _ _ rfl _ (actC q) rfl rfl (info31l q) (by rw [zap];rfl) au.out ?_))
      generalize wr.alloc (.cells (actC q).toArray 31)=W1 at *;clear RG au
      go_cut [12] (fun s12 wx=>s12=.bool (thereB H id c)/\Hid (W1=wx))
      case first =>
       as_aux_lemma =>
       by_cases h1:1<=id
       · by_cases h2:id<=H.last
         · cases c with
           | true =>
             go_wp2;go_meet
             case rel=>exact ⟨by unfold thereB;simp,H_ rfl⟩
           | false =>
             go_wp2;go_meet
             case rel=>exact ⟨by unfold thereB;rw [decide_eq_true (show 1<=id by omega),decide_eq_true (show id<=H.last by omega)];rfl,H_ rfl⟩
         go_wp2
         go_meet
         case rel=>exact ⟨by unfold thereB;rw [decide_eq_false (show ¬ id<=H.last by omega)];simp,H_ rfl⟩
       go_wp2
       go_meet
       case rel=>exact ⟨by unfold thereB;rw [decide_eq_false (show ¬ 1<=id by omega)];simp,H_ rfl⟩
      case rest =>
      obtain ⟨rfl,HX⟩:=hcut;obtain rfl:=HX.out;clear HX;have lb:=zaf N.out;go_upto_region 14 with fail
      go_cut [58] (fun s58 wx=>s58=.int .i64 U/\Hid (Fr No W1 wx))
      case first =>
       as_aux_lemma =>
       go_wp2_with (first
        | (with_reducible show wpList _ _ _ ({ dst:=some 57,op:=_,type:=_,pos:=_,after:=_,guard:=_ } :: _) _ _
           refine zau rfl 31 _ rfl wr.heap.size 0 rfl (actC q) (ActAt.of N.out).all row31 (info31l q) ?_)
        | (go_at_call 20;(with_reducible refine (ao.out _).mono ?_);rintro e w5 ⟨rfl,b8⟩))
       go_meet
       case rel=>exact ⟨rfl,H_ b8⟩
      case rest =>
      obtain ⟨rfl,HX⟩:=hcut;clear ao;have I:=H_ (am.out.trans0 HX.out);have AA:=H_ (ActAt.of (HX.out.heap N.out fun h=>h));have bJ:wr.heap.size<wc.heap.size:=Nat.lt_of_lt_of_le lb HX.out.size;clear HX N am lb;generalize wc=w5 at *;by_cases k3:U=3
      · subst k3
        as_aux_lemma =>
        go_wp2_with (go_at_call 13;(with_reducible refine (X.out.feed _ I.out).mono ?_);rintro e n ⟨rfl,f,a⟩);go_roundg g
        case rel=>exact ⟨i+1,c,S,D,feedH D H,f,by rw [(zid D H).2],rfl,by go_num,by omega,H_ a.1,H_ (G.out.feed D),H_ a.2.2.2.1,H_ a.2.2.2.2⟩
        case measure=>omega
      by_cases k4:U=4
      · subst k4
        as_aux_lemma =>
        have E:=X.out.opn w5 I.out;have aH:=G.out.open q.w;by_cases ho:openE q.w=0
        · rw [if_pos ho,if_pos ho,ho] at E
          have a0:=H_ E;clear E
          go_wp2_with (first
           | (with_reducible show wpList _ _ _ ({ dst:=some 72,op:=_,type:=_,pos:=_,after:=_,guard:=_ } :: _) _ _
              refine zau rfl 29 _ rfl wr.heap.size 13 rfl (wtC q.w) AA.out.w row29 (info29l q.w) ?_)
           | (go_at_call 12;(with_reducible refine a0.out.mono ?_);rintro e n ⟨rfl,f,a⟩))
          go_roundg g
          case rel=>exact ⟨i+1,c,S,D,openH H q.w,f,by rw [Int.max_eq_right (by omega)];rfl,rfl,by go_num,by omega,H_ a.1,H_ aH,H_ a.2.2.2.1,H_ a.2.2.2.2⟩
          case measure=>omega
        rw [if_neg ho,if_neg ho] at E
        have a0:=H_ E;clear E aH;generalize openE q.w=oe at *
        go_wp2_with (first
         | (with_reducible show wpList _ _ _ ({ dst:=some 72,op:=_,type:=_,pos:=_,after:=_,guard:=_ } :: _) _ _
            refine zau rfl 29 _ rfl wr.heap.size 13 rfl (wtC q.w) AA.out.w row29 (info29l q.w) ?_)
         | (go_at_call 12;(with_reducible refine a0.out.mono ?_);rintro e n ⟨rfl,f,a⟩))
        go_roundg g
        case rel=>exact ⟨i+1,c,S,D,H,f,by rw [Int.max_eq_left (by omega)],rfl,by go_num,by omega,H_ a.1,G,H_ a.2.2.2.1,H_ a.2.2.2.2⟩
        case measure=>omega
      by_cases k7:U=7
      · subst k7
        as_aux_lemma =>
        have a5:=X.out.close w5 id an.out I.out;have aA:=G.out.closes;rw [zhg G.out] at a5;generalize thereB H id c=tb at *;have P:=H_ a5;have O:=H_ aA;clear a5 aA
        cases tb with
        | true =>
          cases c with
          | true =>
            go_wp2_with (go_at_call 15;(with_reducible refine P.out.mono ?_);rintro e n ⟨rfl,f,a⟩);go_roundg g
            case rel=>exact ⟨i+1,true,S,D,closeH H id,f,by rw [(zdk H id).2.1],rfl,by go_num,by omega,H_ a.1,O,H_ a.2.2.2.1,H_ a.2.2.2.2⟩
            case measure=>omega
          | false =>
            go_wp2_with (go_at_call 15;(with_reducible refine P.out.mono ?_);rintro e n ⟨rfl,f,a⟩);go_roundg g
            case rel=>exact ⟨i+1,true,S,D,closeH H id,f,by rw [(zdk H id).2.1],rfl,by go_num,by omega,H_ a.1,O,H_ a.2.2.2.1,H_ a.2.2.2.2⟩
            case measure=>omega
        | false =>
          cases c with
          | true =>
            go_wp2_with (go_at_call 15;(with_reducible refine P.out.mono ?_);rintro e n ⟨rfl,f,a⟩);go_roundg g
            case rel=>exact ⟨i+1,true,S,D,closeH H id,f,by rw [(zdk H id).2.1],rfl,by go_num,by omega,H_ a.1,O,H_ a.2.2.2.1,H_ a.2.2.2.2⟩
            case measure=>omega
          | false =>
            go_wp2_with (go_at_call 15;(with_reducible refine P.out.mono ?_);rintro e n ⟨rfl,f,a⟩);go_roundg g
            case rel=>exact ⟨i+1,false,S,D,closeH H id,f,by rw [(zdk H id).2.1],rfl,by go_num,by omega,H_ a.1,O,H_ a.2.2.2.1,H_ a.2.2.2.2⟩
            case measure=>omega
      by_cases k56:U=5\/U=6
      · as_aux_lemma =>
        have L:=X.out.take w5 id an.out I.out;have a9:=G.out.take D;rw [zhg G.out] at L;unfold batV at L;generalize thereB H id c=tb at *;generalize bd:takeB D H id=bg at *;obtain ⟨te,tr,tc⟩:=bg;have aE:=(zkz D H id).2.1;generalize takeH D H id=T at *;dsimp only at L a9;have t:=H_ L;have r:=H_ a9;have o:=H_ aE;clear L a9 bd aE;rcases k56 with k5 | k5
        · subst k5
          cases tb with
          | true =>
            cases c with
            | true =>
              go_wp2_with (go_at_call 14;(with_reducible refine t.out.mono ?_);rintro e n ⟨tv,rfl,d,f,a,_⟩;obtain ⟨ta,m,rfl,_⟩:=d.shape;clear d);go_roundg g
              case rel=>exact ⟨i+1,true,S,D,T,f,by rw [o.out],rfl,by go_num,by omega,H_ (a.1.fr0 hT ((Fr.refl No n).alloc _)),r,H_ a.2.2.2.1,H_ (a.2.2.2.2.alloc _)⟩
              case measure=>omega
            | false =>
              go_wp2_with (go_at_call 14;(with_reducible refine t.out.mono ?_);rintro e n ⟨tv,rfl,d,f,a,_⟩;obtain ⟨ta,m,rfl,_⟩:=d.shape;clear d);go_roundg g
              case rel=>exact ⟨i+1,tc,S,D,T,f,by rw [o.out],rfl,by go_num,by omega,H_ (a.1.fr0 hT ((Fr.refl No n).alloc _)),r,H_ a.2.2.2.1,H_ (a.2.2.2.2.alloc _)⟩
              case measure=>omega
          | false =>
            cases c with
            | true =>
              go_wp2_with (go_at_call 14;(with_reducible refine t.out.mono ?_);rintro e n ⟨tv,rfl,d,f,a,_⟩;obtain ⟨ta,m,rfl,_⟩:=d.shape;clear d);go_roundg g
              case rel=>exact ⟨i+1,true,S,D,T,f,by rw [o.out],rfl,by go_num,by omega,H_ (a.1.fr0 hT ((Fr.refl No n).alloc _)),r,H_ a.2.2.2.1,H_ (a.2.2.2.2.alloc _)⟩
              case measure=>omega
            | false =>
              go_wp2_with (go_at_call 14;(with_reducible refine t.out.mono ?_);rintro e n ⟨tv,rfl,d,f,a,_⟩;obtain ⟨ta,m,rfl,_⟩:=d.shape;clear d);go_roundg g
              case rel=>exact ⟨i+1,tc,S,D,T,f,by rw [o.out],rfl,by go_num,by omega,H_ (a.1.fr0 hT ((Fr.refl No n).alloc _)),r,H_ a.2.2.2.1,H_ (a.2.2.2.2.alloc _)⟩
              case measure=>omega
        subst k5
        cases tb with
        | true =>
          cases c with
          | true =>
            go_wp2_with (go_at_call 14;(with_reducible refine t.out.mono ?_);rintro e n ⟨tv,rfl,d,f,a,_⟩;obtain ⟨ta,m,rfl,_⟩:=d.shape;clear d);go_roundg g
            case rel=>exact ⟨i+1,true,S,D,T,f,by rw [o.out],rfl,by go_num,by omega,H_ (a.1.fr0 hT ((Fr.refl No n).alloc _)),r,H_ a.2.2.2.1,H_ (a.2.2.2.2.alloc _)⟩
            case measure=>omega
          | false =>
            go_wp2_with (go_at_call 14;(with_reducible refine t.out.mono ?_);rintro e n ⟨tv,rfl,d,f,a,_⟩;obtain ⟨ta,m,rfl,_⟩:=d.shape;clear d);go_roundg g
            case rel=>exact ⟨i+1,tc,S,D,T,f,by rw [o.out],rfl,by go_num,by omega,H_ (a.1.fr0 hT ((Fr.refl No n).alloc _)),r,H_ a.2.2.2.1,H_ (a.2.2.2.2.alloc _)⟩
            case measure=>omega
        | false =>
          cases c with
          | true =>
            go_wp2_with (go_at_call 14;(with_reducible refine t.out.mono ?_);rintro e n ⟨tv,rfl,d,f,a,_⟩;obtain ⟨ta,m,rfl,_⟩:=d.shape;clear d);go_roundg g
            case rel=>exact ⟨i+1,true,S,D,T,f,by rw [o.out],rfl,by go_num,by omega,H_ (a.1.fr0 hT ((Fr.refl No n).alloc _)),r,H_ a.2.2.2.1,H_ (a.2.2.2.2.alloc _)⟩
            case measure=>omega
          | false =>
            go_wp2_with (go_at_call 14;(with_reducible refine t.out.mono ?_);rintro e n ⟨tv,rfl,d,f,a,_⟩;obtain ⟨ta,m,rfl,_⟩:=d.shape;clear d);go_roundg g
            case rel=>exact ⟨i+1,tc,S,D,T,f,by rw [o.out],rfl,by go_num,by omega,H_ (a.1.fr0 hT ((Fr.refl No n).alloc _)),r,H_ a.2.2.2.1,H_ (a.2.2.2.2.alloc _)⟩
            case measure=>omega
      have k5:¬ U=5:=fun e=>k56 (.inl e)
      have k6:¬ U=6:=fun e=>k56 (.inr e);clear k56
      as_aux_lemma =>
      go_wp2_with (first
       | (with_reducible show wpList _ _ _ ({ dst:=some 61,op:=_,type:=_,pos:=_,after:=_,guard:=_ } :: _) _ _
          refine zau rfl 27 _ rfl wr.heap.size 1 rfl (calC q.call) AA.out.call row27 (info27l q.call) ?_)
       | (go_at_call 27;(with_reducible refine (X.out.does w5 I.out).mono ?_);rintro e n ⟨rfl,f,a⟩))
      go_roundg g
      case rel=>exact ⟨i+1,c,_,_,H,f,rfl,rfl,by go_num,by omega,H_ a.1,G,H_ a.2.2.2.1,H_ a.2.2.2.2⟩
      case measure=>omega
end Go.Proofs.YtdgkdfmfoonbpaaGreat
