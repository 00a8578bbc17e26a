/- The document's Right: whether a state may be. The condition: lists and keys are not too long. -/
import Derived.Test.YthljnnjpmdgkoaaGreatK37
import Derived.Test.YthljnnjpmdgkoaaGreatK27
namespace Go.Proofs.YthljnnjpmdgkoaaGreat
open Go Go.Proofs Go.RowKit
set_option maxRecDepth 100000
theorem Calls.cls {P:Program} {f:FuncId} {args:Array Value} {B W:World} {v:Value} (h:Calls P f args W fun e w'=>e=.returned v/\Fr No W w') (hW:Fr No B W):Calls P f args W fun e w'=>e=.returned v/\Fr No B w':=h.mono fun _ _ h=>⟨h.1,hW.trans0 h.2⟩
def RightR (D:Doc) (w:World) (e:Ending) (w':World):Prop:=∃ b,e=.returned (.bool b)/\(b=true↔zbi D)/\Fr No w w'
theorem RightR.no {D:Doc} {w w':World} {b:Bool} (hb:b=false) (h:¬ zbi D) (hf:Fr No w w'):RightR D w (.returned (.bool b)) w':=⟨b,rfl,⟨fun e=>(by rw [hb] at e;cases e),fun e=>absurd e h⟩,hf⟩
theorem RightR.yes {D:Doc} {w w':World} {b:Bool} (h:b=true↔zbi D) (hf:Fr No w w'):RightR D w (.returned (.bool b)) w':=⟨b,rfl,h,hf⟩
set_option maxHeartbeats 16000000 in
theorem zkh (w:World) (D:Doc) (vk ve:Value) (hD:DocR w D vk ve) (hsm:DocSm D) :
 Calls Tryz.prog 25 #[docV D vk ve] w (RightR D w):=by
 obtain ⟨ka,B,rfl,dv,df,bN⟩:=hD.kvs.shape;obtain ⟨ea,Q,rfl,dM,dx,cb⟩:=hD.evs.shape;have d5:=hsm.len;have cf:=zad w (Obj.cells #[.int .i64 D.rev,.int .i64 D.mark,.slice ka D.kvs.length B,.slice ea D.events.length Q] 30) _ rfl;have aH:Fr No w (w.alloc (Obj.cells #[.int .i64 D.rev,.int .i64 D.mark,.slice ka D.kvs.length B,.slice ea D.events.length Q] 30)):=(Fr.refl No w).alloc _;have HD:=H_ (hD.fr0 aH);have bS:=H_ hsm;have cG:=H_ bN;have cJ:=H_ cb;have bg:=H_ cf;have m:=H_ aH;clear hD hsm bN cb cf aH;unfold docV;by_cases hm0:D.mark<0
 · have bs:decide (D.mark<0)=true:=decide_eq_true hm0
   have r:Hid (¬ zbi D):=H_ (fun h=>by have:=h.m0;omega);clear hm0;go_enter Tryz.func25,Tryz.ntmps25;go_wp2;go_ret;exact RightR.no rfl r.out m.out
 have bs:decide (D.mark<0)=false:=decide_eq_false hm0
 by_cases hm1:D.rev<D.mark
 · have p:decide (D.mark > D.rev)=true:=decide_eq_true hm1
   have r:Hid (¬ zbi D):=H_ (fun h=>by have:=h.mr;omega);clear hm1;go_enter Tryz.func25,Tryz.ntmps25;go_wp2;go_ret;exact RightR.no rfl r.out m.out
 have p:decide (D.mark > D.rev)=false:=decide_eq_false hm1
 by_cases hm2:1099511627776<D.rev
 · have bC:decide (D.rev > 1099511627776)=true:=decide_eq_true hm2
   have r:Hid (¬ zbi D):=H_ (fun h=>by have:=h.top;omega);clear hm2;go_enter Tryz.func25,Tryz.ntmps25;go_wp2;go_ret;exact RightR.no rfl r.out m.out
 have bC:decide (D.rev > 1099511627776)=false:=decide_eq_false hm2
 go_enter Tryz.func25,Tryz.ntmps25;go_wp2;generalize w.alloc (Obj.cells #[.int .i64 D.rev,.int .i64 D.mark,.slice ka D.kvs.length B,.slice ea D.events.length Q] 30)=W1 at *;have di:w.heap.size<W1.heap.size:=zaa bg.out
 go_loopg [3,4] D.kvs.length (fun g s3 s4 wr=>∃ i:Nat,s3=.int .i64 (freshK D i:Int)/\s4=.int .i64 i/\i+g=D.kvs.length/\Hid (∀ j k,j<i->D.kvs[j]?=some k->KvOk D j k)/\Hid (Fr No W1 wr))
 case atStart=>exact ⟨0,rfl,rfl,by simp,H_ (fun j k h=>absurd h (Nat.not_lt_zero _)),H_ (Fr.refl No W1)⟩
 case round =>
  obtain ⟨i,rfl,rfl,hi,t,f⟩:=hrel;have du:=zvp D i;have hb:=f.out.heap bg.out id;have lb:=zaa hb;obtain ⟨b0,b1,b2,b3⟩:=cells4 hb
  cases gk with
  | zero =>
    have b5:¬ (i:Int)<(D.kvs.length:Int):=(by omega);have aX:i=D.kvs.length:=(by omega);subst aX;have bo:KSorted D.kvs:=zlh fun i k k' hi hk hk'=>(t.out i k (List.getElem?_eq_some_iff.1 hk).1 hk).up k' hi hk';have cp:=H_ bo;have cc:Hid (∀ j k,D.kvs[j]?=some k->KvOk D j k):=H_ fun j k hk=>t.out j k (List.getElem?_eq_some_iff.1 hk).1 hk;obtain ⟨F,aR⟩:∃ F:Int,max D.mark 1=F:=⟨_,rfl⟩;have aa:=H_ aR;have aH:1<=F:=(by omega);have dF:F<=1099511627776:=(by omega);have bV:revAt D 0=F-1:=(by unfold revAt;rw [if_pos rfl,aR]);have b4:=H_ bV;have ce:SlR wr 6 kvC (.slice ka D.kvs.length B) (foldTo D 0):=(by rw [zps];exact HD.out.kvs.fr0 f.out);have bY:=H_ ce;clear bo bV ce hb t;generalize aO:freshK D D.kvs.length=fk at *;have aW:=H_ aO
    clear aO;go_wp2
    go_loopg [3,6,7,8] D.events.length (fun g s3 s6 s7 s8 wr=>∃ (i:Nat) (o:Value),s3=.int .i64 ((fk:Int)-(freshE D i:Int))/\s6=.int .i64 (revAt D i)/\s7=o/\s8=.int .i64 i/\i+g=D.events.length/\0<=revAt D i/\revAt D i<=1099511627776+(i:Int)/\Hid (∀ j x,j<i->D.events[j]?=some x->EvOk D j x)/\Hid (SlR wr 6 kvC o (foldTo D i))/\Hid (Fr No W1 wr))
    case atStart =>
     have hz:freshE D 0=0:=rfl;exact ⟨0,_,by rw [hz];go_num,by rw [b4.out],rfl,rfl,by simp,by rw [b4.out];omega,by rw [b4.out];omega,H_ (fun j x h=>absurd h (Nat.not_lt_zero _)),bY,f⟩
    case round =>
     clear b0 b1 b2 b3 lb f bY;obtain ⟨i,o,rfl,rfl,rfl,rfl,hi,cR,cX,t,HO,f⟩:=hrel;have dn:=zvq D i;have hb:=f.out.heap bg.out id;have lb:=zaa hb;obtain ⟨b0,b1,b2,b3⟩:=cells4 hb
     cases gk with
     | zero =>
       have b5:¬ (i:Int)<(D.events.length:Int):=(by omega);have aX:i=D.events.length:=(by omega);subst aX;have bw:Hid (∀ j x,D.events[j]?=some x->EvOk D j x):=H_ fun j x b=>t.out j x (List.getElem?_eq_some_iff.1 b).1 b;clear hb t HO;generalize aP:freshE D D.events.length=fe at *;generalize aT:revAt D D.events.length=ra at *;have aJ:=H_ aP;have aQ:=H_ aT;clear aP aT;by_cases hl:ra=D.rev
       · have cL:(ra==D.rev)=true:=beq_iff_eq.2 hl
         have ch:Hid ((((fk:Int)-(fe:Int))==0)=true↔zbi D):=H_ (by
          rw [beq_iff_eq]
          constructor
          · intro h
            exact ⟨by omega,by omega,by omega,cc.out,bw.out,by rw [aQ.out];exact hl,by rw [aW.out,aJ.out];omega⟩
          intro h
          have:=h.fresh;rw [aW.out,aJ.out] at this;omega)
         clear hl;go_wp2;go_ret;exact RightR.yes ch.out (m.out.trans0 f.out)
       have cL:(ra==D.rev)=false:=beq_eq_false_iff_ne.2 hl
       have r:Hid (¬ zbi D):=H_ (fun h=>hl (by rw [<-aQ.out];exact h.last));clear hl;go_wp2;go_ret;exact RightR.no rfl r.out (m.out.trans0 f.out)
     | succ g =>
       have b5:(i:Int)<(D.events.length:Int):=(by omega);obtain ⟨x,b⟩:∃ x,D.events[i]?=some x:=⟨_,List.getElem?_eq_getElem (by omega)⟩;obtain ⟨ga,go,rfl⟩:=cJ.out (by omega);have l:=HD.out.evs.fr0 f.out;have x0:=l.cell0 zac i b rfl;have x1:=l.cell zac i 1 b rfl;have x2:=l.cell zac i 2 b rfl;have x3:=l.cell zac i 3 b rfl;have x4:=l.cell zac i 4 b rfl;have x5:=l.cell zac i 5 b rfl;have x6:=l.cell zac i 6 b rfl;have x7:=l.cell zac i 7 b rfl;have x8:=l.cell zac i 8 b rfl;have x9:=l.cell zac i 9 b rfl;have bq:=l.cell zac i 10 b rfl;have bW:=l.cell zac i 11 b rfl;have bI:=l.cell zac i 12 b rfl;have lf:=World.block_lt_of_cell? _ _ x0;have aC:=bS.out.evs x (List.mem_of_getElem? b);have bR:=zkv b;have bD:=zpt b;have cj:=zpu b;have dQ:=zss D i
       have bE:=zmc cp.out i;have aU:=zpr D b;have aM:=fun (h:zbi D)=>h.evs i x b;have bz:=HO.out;obtain ⟨o1,o2,rfl,dq,dJ,_⟩:=bz.shape;clear bz;have Y:=fun W (hW:Fr No wr W)=>zja W x (.slice ka D.kvs.length B) D.kvs (HD.out.kvs.fr0 (f.out.trans0 hW)) (by omega) aC.1 aC.2 D.mark ⟨by omega,by omega⟩;have Z:=fun W (hW:Fr No wr W)=>zfk W _ _ (HO.out.fr0 hW) (by omega) x.kv.key;have G:=fun W=>zgx W x ((hasL (foldTo D i) x.kv.key).getD kv0) aC.1 x.kv.mod;have J:=fun W (hW:Fr No wr W)=>zcn W _ _ (HO.out.fr0 hW) (by omega) x;rw [zhg bE] at J;have HX:=H_ b;have bU:=H_ bR;have bu:=H_ bD;have bG:=H_ cj;have T:=H_ aU;have u:=H_ aM;generalize aS:zgr x D.kvs D.mark=mk at *;generalize bQ:(hasL (foldTo D i) x.kv.key).getD kv0=nw at *
       generalize aK:madeB x nw x.kv.mod=md at *;have aY:=H_ aS;have bb:=H_ bQ;have bf:=H_ aK;unfold evV at Y G J;unfold kvV at G Z;clear b bR bD cj aU aM l aC bE aS bQ aK;obtain ⟨kd,⟨E,p2,p3,c,p5,p6⟩,⟨q1,q2,q3,q4,q5,q6⟩⟩:=x;obtain ⟨n1,n2,n3,n4,n5,n6⟩:=nw;dsimp only at x0 x1 x2 x3 x4 x5 x6 x7 x8 x9 bq bW bI Y G Z J bU bu bG T u aY bb bf;have ag:=H_ Y;have cg:=H_ G;have bF:=H_ Z;have bm:=H_ J;clear Y G Z J;generalize cd:revAt D i=ra at *;have aF:=H_ cd;clear cd;go_upto_region 18 with fail
       have bJ:Fr No wr (wr.alloc (Obj.cells #[.int .i64 kd,.string E,.string p2,.int .i64 p3,.int .i64 c,.int .i64 p5,.int .i64 p6,.string q1,.string q2,.int .i64 q3,.int .i64 q4,.int .i64 q5,.int .i64 q6] 101)):=(Fr.refl No wr).alloc _;have aB:=zad wr (Obj.cells #[.int .i64 kd,.string E,.string p2,.int .i64 p3,.int .i64 c,.int .i64 p5,.int .i64 p6,.string q1,.string q2,.int .i64 q3,.int .i64 q4,.int .i64 q5,.int .i64 q6] 101) _ rfl;have aE:=zaj hb (Obj.cells #[.int .i64 kd,.string E,.string p2,.int .i64 p3,.int .i64 c,.int .i64 p5,.int .i64 p6,.string q1,.string q2,.int .i64 q3,.int .i64 q4,.int .i64 q5,.int .i64 q6] 101)
       generalize bK:wr.alloc (Obj.cells #[.int .i64 kd,.string E,.string p2,.int .i64 p3,.int .i64 c,.int .i64 p5,.int .i64 p6,.string q1,.string q2,.int .i64 q3,.int .i64 q4,.int .i64 q5,.int .i64 q6] 101)=W2 at *;generalize bx:wr.heap.size=U at *;obtain ⟨y0,y1,y2,y3,y4,y5,y6,y7,y8,y9,bc,b8,aZ⟩:=cells13 aB;obtain ⟨z0,z1,z2,z3⟩:=cells4 aE;have ly:=zaa aB;have lz:=zaa aE;have dO:=H_ aB;have dc:=H_ aE;have A:=H_ bJ;have dm:=H_ bK;have ds:=H_ bx;clear aB aE bJ bK bx hb b0 b1 b2 b3 x0 x1 x2 x3 x4 x5 x6 x7 x8 x9 bq bW bI lf lb;by_cases hlo:c<F
       · have bH:decide (c<F)=true:=decide_eq_true hlo
         have r:Hid (¬ zbi D):=H_ (fun h=>by have v:=(u.out h).lo;rw [aa.out] at v;dsimp only at v;omega);go_wp2;go_ret;exact RightR.no rfl r.out (m.out.trans0 (f.out.trans0 A.out))
       have bH:decide (c<F)=false:=decide_eq_false hlo
       by_cases hge:c<ra
       · have bn:decide (c<ra)=true:=decide_eq_true hge
         have r:Hid (¬ zbi D):=H_ (fun h=>by have v:=(u.out h).ge;rw [aF.out] at v;dsimp only at v;omega);go_wp2;go_ret;exact RightR.no rfl r.out (m.out.trans0 (f.out.trans0 A.out))
       have bn:decide (c<ra)=false:=decide_eq_false hge
       by_cases hle:ra+1<c
       · have bl:decide (c > ra+1)=true:=decide_eq_true hle
         have r:Hid (¬ zbi D):=H_ (fun h=>by have v:=(u.out h).le;rw [aF.out] at v;dsimp only at v;omega);go_wp2;go_ret;exact RightR.no rfl r.out (m.out.trans0 (f.out.trans0 A.out))
       have bl:decide (c > ra+1)=false:=decide_eq_false hle
       go_upto_block 4 with fail
       go_cut [10] (fun _ wx=>Hid (∀ j y,j<i->D.events[j]?=some y->y.kv.mod=c->keq y.kv.key E=false)/\Hid (Fr No W2 wx))
       case first =>
        go_wp2_with fail
        go_loopg [10] i (fun g s10 wx=>∃ j:Nat,s10=.int .i64 j/\j+g=i/\Hid (∀ j' y,j'<j->D.events[j']?=some y->y.kv.mod=c->keq y.kv.key E=false)/\Hid (Fr No W2 wx))
        case atStart=>exact ⟨0,rfl,by simp,H_ (fun j' y h=>absurd h (Nat.not_lt_zero _)),H_ (Fr.refl No W2)⟩
        case round =>
         obtain ⟨j,rfl,hj,HU,q⟩:=hrel
         cases gk with
         | zero =>
           have bt:¬ (j:Int)<(i:Int):=(by omega);have cx:j=i:=(by omega);subst cx;go_wp2;go_meet
           case rel=>exact ⟨HU,q⟩
         | succ g' =>
           have bt:(j:Int)<(i:Int):=(by omega);obtain ⟨z,hz⟩:∃ z,D.events[j]?=some z:=⟨_,List.getElem?_eq_getElem (by omega)⟩;have dj:(j:Int)<(D.events.length:Int):=(by omega)
           have M:Hid (∀ W,Fr No W2 W->W.cell? ⟨w.heap.size,3,none⟩=some (.slice (some ⟨ga,go,none⟩) D.events.length Q)/\W.cell? ⟨ga,go+j * 13+1,none⟩=some (.string z.kv.key)/\W.cell? ⟨ga,go+j * 13+4,none⟩=some (.int .i64 z.kv.mod)/\W.cell? ⟨U,1,none⟩=some (.string E)):=H_ (fun W hW=>by
            have hh:=HD.out.evs.fr0 (f.out.trans0 (A.out.trans0 hW));exact ⟨hW.cell0 z3,hh.cell zac j 1 hz rfl,hh.cell zac j 4 hz rfl,hW.cell0 y1⟩)
           have HZ:=H_ hz;clear hz;by_cases hme:z.kv.mod=c
           · have bL:(z.kv.mod==c)=true:=beq_iff_eq.2 hme
             cases hke:keq z.kv.key E with
             | true =>
               have bZ:(z.kv.key.toList==E.toList)=true:=hke;have r:Hid (¬ zbi D):=H_ (fun h=>by have v:=(u.out h).one j z (by omega) HZ.out hme;dsimp only at v;rw [hke] at v;cases v);clear hme hke;go_upto_region 24 with fail;refine zat (C:=fun W=>Fr No W2 W) (by kernel_rfl) (by kernel_rfl) (q.out.drew) ?_
               repeat (refine (wpQuiet_step (fun K hK=>?_):_)
                       go_simp
                       first
                        | (refine hK _ ?_;clear hK K)
                        | (apply Exists.intro
                           refine ⟨fun W hW=>?_,hK _ ?_⟩
                           (first
                             | exact rfl
                             | (obtain ⟨R,P,V,S⟩:=M.out W hW;go_simp;exact rfl)
                           )
                           clear hK K))
               refine (wpQuiet_nil ?_:_);intro w9 a;go_wp2;go_ret;exact RightR.no rfl r.out (m.out.trans0 (f.out.trans0 (A.out.trans0 a)))
             | false =>
               have bZ:(z.kv.key.toList==E.toList)=false:=hke
               have ba:Hid (∀ j' y,j'<j+1->D.events[j']?=some y->y.kv.mod=c->keq y.kv.key E=false):=H_ (fun j' y h hy hm=>by
                rcases Nat.lt_or_ge j' j with h2 | h2
                · exact HU.out j' y h2 hy hm
                have e:j'=j:=(by omega)
                subst e;rw [HZ.out] at hy;cases hy
                exact hke)
               clear hme hke;go_upto_region 24 with fail;refine zat (C:=fun W=>Fr No W2 W) (by kernel_rfl) (by kernel_rfl) (q.out.drew) ?_
               repeat (refine (wpQuiet_step (fun K hK=>?_):_)
                       go_simp
                       first
                        | (refine hK _ ?_;clear hK K)
                        | (apply Exists.intro
                           refine ⟨fun W hW=>?_,hK _ ?_⟩
                           (first
                             | exact rfl
                             | (obtain ⟨R,P,V,S⟩:=M.out W hW;go_simp;exact rfl)
                           )
                           clear hK K))
               refine (wpQuiet_nil ?_:_);intro w9 a;go_wp2;go_roundg g'
               case rel=>exact ⟨j+1,by go_num,by omega,ba,H_ a⟩
               case measure=>omega
           have bL:(z.kv.mod==c)=false:=beq_eq_false_iff_ne.2 hme
           have ba:Hid (∀ j' y,j'<j+1->D.events[j']?=some y->y.kv.mod=c->keq y.kv.key E=false):=H_ (fun j' y h hy hm=>by
            rcases Nat.lt_or_ge j' j with h2 | h2
            · exact HU.out j' y h2 hy hm
            have e:j'=j:=(by omega)
            subst e;rw [HZ.out] at hy;cases hy
            exact absurd hm hme)
           clear hme;go_upto_region 24 with fail;refine zat (C:=fun W=>Fr No W2 W) (by kernel_rfl) (by kernel_rfl) (q.out.drew) ?_
           repeat (refine (wpQuiet_step (fun K hK=>?_):_)
                   go_simp
                   first
                    | (refine hK _ ?_;clear hK K)
                    | (apply Exists.intro
                       refine ⟨fun W hW=>?_,hK _ ?_⟩
                       (first
                         | exact rfl
                         | (obtain ⟨R,P,V,S⟩:=M.out W hW;go_simp;exact rfl)
                       )
                       clear hK K))
           refine (wpQuiet_nil ?_:_);intro w9 a;go_wp2;go_roundg g'
           case rel=>exact ⟨j+1,by go_num,by omega,ba,H_ a⟩
           case measure=>omega
       case rest =>
        obtain ⟨HU,q⟩:=hcut;have a3:=H_ (A.out.trans0 q.out);have v0:=q.out.cell0 y0;have v1:=q.out.cell0 y1;have v2:=q.out.cell0 y2;have v3:=q.out.cell0 y3;have v4:=q.out.cell0 y4;have v5:=q.out.cell0 y5;have v6:=q.out.cell0 y6;have v7:=q.out.cell0 y7;have v8:=q.out.cell0 y8;have v9:=q.out.cell0 y9;have cq:=q.out.cell0 bc;have cK:=q.out.cell0 b8;have cv:=q.out.cell0 aZ;have u0:=q.out.cell0 z0;have u1:=q.out.cell0 z1;have u2:=q.out.cell0 z2;have u3:=q.out.cell0 z3;have lv:=World.block_lt_of_cell? _ _ v0;have lu:=World.block_lt_of_cell? _ _ u0
        have M:Hid (∀ W,Fr No W2 W->W.cell? ⟨U,0,none⟩=some (.int .i64 kd)/\W.cell? ⟨U,1,none⟩=some (.string E)/\W.cell? ⟨U,2,none⟩=some (.string p2)/\W.cell? ⟨U,3,none⟩=some (.int .i64 p3)/\W.cell? ⟨U,4,none⟩=some (.int .i64 c)/\W.cell? ⟨U,5,none⟩=some (.int .i64 p5)/\W.cell? ⟨U,6,none⟩=some (.int .i64 p6)/\W.cell? ⟨U,7,none⟩=some (.string q1)/\W.cell? ⟨U,8,none⟩=some (.string q2)/\W.cell? ⟨U,9,none⟩=some (.int .i64 q3)/\W.cell? ⟨U,10,none⟩=some (.int .i64 q4)/\W.cell? ⟨U,11,none⟩=some (.int .i64 q5)/\W.cell? ⟨U,12,none⟩=some (.int .i64 q6)):=H_ (fun W hW=>⟨hW.cell0 y0,hW.cell0 y1,hW.cell0 y2,hW.cell0 y3,hW.cell0 y4,hW.cell0 y5,hW.cell0 y6,hW.cell0 y7,hW.cell0 y8,hW.cell0 y9,hW.cell0 bc,hW.cell0 b8,hW.cell0 aZ⟩)
        clear y0 y1 y2 y3 y4 y5 y6 y7 y8 y9 bc b8 aZ z0 z1 z2 z3 ly lz
        have am:Hid (EvOk D i ⟨kd,⟨E,p2,p3,c,p5,p6⟩,⟨q1,q2,q3,q4,q5,q6⟩⟩->∀ j x,j<i+1->D.events[j]?=some x->EvOk D j x):=H_ (fun he j x hj b=>by
         rcases Nat.lt_or_ge j i with h2 | h2
         · exact t.out j x h2 b
         have e:j=i:=(by omega)
         subst e;rw [HX.out] at b;cases b
         exact he)
        have bX:Hid ((c=D.mark->zgr ⟨kd,⟨E,p2,p3,c,p5,p6⟩,⟨q1,q2,q3,q4,q5,q6⟩⟩ D.kvs D.mark=true)->(c≠D.mark->madeB ⟨kd,⟨E,p2,p3,c,p5,p6⟩,⟨q1,q2,q3,q4,q5,q6⟩⟩ ((hasL (foldTo D i) E).getD kv0) c=true)->EvOk D i ⟨kd,⟨E,p2,p3,c,p5,p6⟩,⟨q1,q2,q3,q4,q5,q6⟩⟩):=H_ (fun v h2 =>
         ⟨by rw [aa.out];show F<=c;omega,by rw [aF.out];show ra<=c;omega,by rw [aF.out];show c<=ra+1;omega,fun j y hj hy hm=>HU.out j y hj hy hm,v,h2⟩)
        have af:0<=c:=(by omega);have d1:c<=1099511627776+((i:Int)+1):=(by omega);have X:=bU.out;by_cases hmm:c=D.mark
        · have O:(c==D.mark)=true:=beq_iff_eq.2 hmm
          have aI:Hid (foldTo D (i+1)=foldTo D i):=H_ (bu.out (by show ¬ D.mark<c;omega));have d:=H_ X;clear X
          cases mk with
          | false =>
            have r:Hid (¬ zbi D):=H_ (fun h=>by have v:=(u.out h).mkd hmm;rw [aY.out] at v;cases v);clear hmm;go_wp2_with (go_at_call 70;with_reducible refine (ag.out _ a3.out).mono ?_;rintro e w9 ⟨rfl,a⟩);go_ret;exact RightR.no rfl r.out (m.out.trans0 (f.out.trans0 (a3.out.trans0 a)))
          | true =>
            have a0:=H_ (bX.out (fun _=>aY.out) (fun h=>absurd hmm h));by_cases hkd:kd=1
            · have ai:(kd==1)=true:=beq_iff_eq.2 hkd
              have I:Hid (freshE D (i+1)=freshE D i+1):=H_ (by rw [T.out,O,ai];rfl);clear hmm hkd
              go_wp2_with (go_at_call 70;with_reducible refine (ag.out _ a3.out).mono ?_;rintro e w9 ⟨rfl,a⟩
                           have cI:=a.cell0 v0)
              have n:=H_ (a3.out.trans0 a);clear a;go_roundg g
              case rel=>exact ⟨i+1,_,by rw [I.out];go_num,by rw [d.out],rfl,by go_num,by omega,by rw [d.out];exact af,by rw [d.out];go_num,H_ (am.out a0.out),H_ (by rw [aI.out];exact HO.out.fr0 n.out),H_ (f.out.trans0 n.out)⟩
              case measure=>omega
            have ai:(kd==1)=false:=beq_eq_false_iff_ne.2 hkd
            have I:Hid (freshE D (i+1)=freshE D i):=H_ (by rw [T.out,O,ai];rfl);clear hmm hkd
            go_wp2_with (go_at_call 70;with_reducible refine (ag.out _ a3.out).mono ?_;rintro e w9 ⟨rfl,a⟩
                         have cI:=a.cell0 v0)
            have n:=H_ (a3.out.trans0 a);clear a;go_roundg g
            case rel=>exact ⟨i+1,_,by rw [I.out],by rw [d.out],rfl,by go_num,by omega,by rw [d.out];exact af,by rw [d.out];go_num,H_ (am.out a0.out),H_ (by rw [aI.out];exact HO.out.fr0 n.out),H_ (f.out.trans0 n.out)⟩
            case measure=>omega
        have O:(c==D.mark)=false:=beq_eq_false_iff_ne.2 hmm
        have ab:D.mark<c:=(by have:=aa.out;omega);have aI:Hid (foldTo D (i+1)=doneL (foldTo D i) ⟨kd,⟨E,p2,p3,c,p5,p6⟩,⟨q1,q2,q3,q4,q5,q6⟩⟩):=H_ (bG.out ab);have I:Hid (freshE D (i+1)=freshE D i):=H_ (by rw [T.out,O];rfl);have d:=H_ X;clear X;have an:=H_ (fun W (hW:Fr No W2 W)=>Calls.cls (bF.out W (A.out.trans0 hW)) hW);have ae:=H_ (fun W (hW:Fr No W2 W)=>Calls.cls (cg.out W) hW)
        cases md with
        | false =>
          have r:Hid (¬ zbi D):=H_ (fun h=>by have v:=(u.out h).md hmm;dsimp only at v;rw [bb.out,bf.out] at v;cases v);clear hmm ab;go_upto_region 31 with fail;refine zat (C:=fun W=>Fr No W2 W) (by kernel_rfl) (by kernel_rfl) (q.out.drew) ?_
          repeat (refine (wpQuiet_step (fun K hK=>?_):_)
                  go_simp
                  first
                   | (refine hK _ ?_;clear hK K)
                   | (apply Exists.intro
                      refine ⟨fun W hW=>?_,hK _ ?_⟩
                      (first
                        | exact rfl
                        | (obtain ⟨c0,R,P,V,S,c5,c6,c7,c8,c9,bO,ci,bT⟩:=M.out W hW;go_simp;exact rfl)
                        | (with_reducible exact (an.out W hW))
                        | (with_reducible exact (ae.out W hW))
                      )
                      clear hK K))
          refine (wpQuiet_nil ?_:_);intro w9 a;go_wp2;go_ret;exact RightR.no rfl r.out (m.out.trans0 (f.out.trans0 (A.out.trans0 a)))
        | true =>
          have a0:=H_ (bX.out (fun h=>absurd h hmm) (fun _=>by rw [bb.out];exact bf.out));clear hmm ab;go_upto_region 31 with fail;refine zat (C:=fun W=>Fr No W2 W) (by kernel_rfl) (by kernel_rfl) (q.out.drew) ?_
          repeat (refine (wpQuiet_step (fun K hK=>?_):_)
                  go_simp
                  first
                   | (refine hK _ ?_;clear hK K)
                   | (apply Exists.intro
                      refine ⟨fun W hW=>?_,hK _ ?_⟩
                      (first
                        | exact rfl
                        | (obtain ⟨c0,R,P,V,S,c5,c6,c7,c8,c9,bO,ci,bT⟩:=M.out W hW;go_simp;exact rfl)
                        | (with_reducible exact (an.out W hW))
                        | (with_reducible exact (ae.out W hW))
                      )
                      clear hK K))
          refine (wpQuiet_nil ?_:_);intro w9 a;have n:=H_ a;obtain ⟨c0,R,P,V,S,c5,c6,c7,c8,c9,bO,ci,bT⟩:=M.out w9 a;have lc:=World.block_lt_of_cell? _ _ c0;clear a v0 v1 v2 v3 v4 v5 v6 v7 v8 v9 cq cK cv u0 u1 u2 u3 lv lu;go_wp2_with (go_at_call 73;with_reducible refine (bm.out _ (A.out.trans0 n.out)).mono ?_;rintro e aG ⟨dN,rfl,aN,_,aL⟩);have ca:=H_ (aN.toR zae);have bv:=H_ (A.out.trans0 (n.out.trans0 aL));clear aN aL;go_roundg g
          case rel=>exact ⟨i+1,_,by rw [I.out],by rw [d.out],rfl,by go_num,by omega,by rw [d.out];exact af,by rw [d.out];go_num,H_ (am.out a0.out),H_ (by rw [aI.out];exact ca.out),H_ (f.out.trans0 bv.out)⟩
          case measure=>omega
  | succ g =>
    have b5:(i:Int)<(D.kvs.length:Int):=(by omega);obtain ⟨x,b⟩:∃ x,D.kvs[i]?=some x:=⟨_,List.getElem?_eq_getElem (by omega)⟩;obtain ⟨ga,go,rfl⟩:=cG.out (by omega)
    have HS:Hid (∀ W,Fr No wr W->W.cell? ⟨w.heap.size,1,none⟩=some (.int .i64 D.mark)/\W.cell? ⟨w.heap.size,2,none⟩=some (.slice (some ⟨ga,go,none⟩) D.kvs.length B) ∧
     W.cell? ⟨ga,go+i * 6,none⟩=some (.string x.key)/\W.cell? ⟨ga,go+i * 6+1,none⟩=some (.string x.value)/\W.cell? ⟨ga,go+i * 6+2,none⟩=some (.int .i64 x.create)/\W.cell? ⟨ga,go+i * 6+3,none⟩=some (.int .i64 x.mod)/\W.cell? ⟨ga,go+i * 6+4,none⟩=some (.int .i64 x.version)/\W.cell? ⟨ga,go+i * 6+5,none⟩=some (.int .i64 x.lease)):=H_ (fun W hW=>by
     have hh:=HD.out.kvs.fr0 (f.out.trans0 hW);exact ⟨hW.cell0 b1,hW.cell0 b2,hh.cell0 zae i b rfl,hh.cell zae i 1 b rfl,hh.cell zae i 2 b rfl,hh.cell zae i 3 b rfl,hh.cell zae i 4 b rfl,hh.cell zae i 5 b rfl⟩)
    have bd:=bS.out.kvs x (List.mem_of_getElem? b);have hC:=fun W (hW:Fr No wr W)=>(zhx W x bd D.mark (by omega)).mono fun e w' (h:e=.returned (.bool (mayB x D.mark))/\Fr No W w')=>(⟨h.1,hW.trans0 h.2⟩:e=.returned (.bool (mayB x D.mark))/\Fr No wr w')
    cases hmay:mayB x D.mark with
    | false =>
      rw [hmay] at hC;unfold kvV at hC;have HC:=H_ hC;have r:Hid (¬ zbi D):=H_ (fun h=>by have:=(h.kvs i x b).may;rw [hmay] at this;cases this);clear hC bd hmay b hb;go_upto_region 7 with fail;refine zat (C:=fun W=>Fr No wr W) (by kernel_rfl) (by kernel_rfl) ((Fr.refl No wr).drew) ?_
      repeat (refine (wpQuiet_step (fun K hK=>?_):_)
              go_simp
              first
               | (refine hK _ ?_;clear hK K)
               | (apply Exists.intro
                  refine ⟨fun W hW=>?_,hK _ ?_⟩
                  (first
                    | exact rfl
                    | (obtain ⟨R,P,V,S,c5,c6,c7,c8⟩:=HS.out W hW;go_simp;exact rfl)
                    | (with_reducible exact (HC.out W hW))
                  )
                  clear hK K))
      refine (wpQuiet_nil ?_:_);intro w9 a;go_wp2;go_ret;exact RightR.no rfl r.out (m.out.trans0 (f.out.trans0 a))
    | true =>
      unfold kvV at hC;rw [hmay] at hC;have HC:=H_ hC;have HX:=H_ b;have br:=H_ hmay;clear hC bd hmay b hb;rcases Nat.eq_zero_or_pos i with h0 | h0
      · subst h0
        rw [show ((0:Nat):Int)=(0:Int) from rfl];have b9:=HS.out;simp only [Nat.zero_mul,Nat.add_zero] at b9;clear HS;have HS:=H_ b9;clear b9;have dg:decide ((0:Int) > 0)=false:=rfl;have H:Hid (KvOk D 0 x):=H_ ⟨br.out,fun _ h=>absurd h (Nat.lt_irrefl _)⟩;go_upto_region 7 with fail;refine zat (C:=fun W=>Fr No wr W) (by kernel_rfl) (by kernel_rfl) ((Fr.refl No wr).drew) ?_
        repeat (refine (wpQuiet_step (fun K hK=>?_):_)
                go_simp
                first
                 | (refine hK _ ?_;clear hK K)
                 | (apply Exists.intro
                    refine ⟨fun W hW=>?_,hK _ ?_⟩
                    (first
                      | exact rfl
                      | (obtain ⟨R,P,V,S,c5,c6,c7,c8⟩:=HS.out W hW;go_simp;exact rfl)
                      | (with_reducible exact (HC.out W hW))
                    )
                    clear hK K))
        refine (wpQuiet_nil ?_:_);intro w9 a;have n:=H_ a;clear a;go_upto_region 9 with fail;by_cases hmm:x.mod=D.mark
        · have p:(x.mod==D.mark)=true:=beq_iff_eq.2 hmm
          have N:Hid (freshK D (0+1)=freshK D 0+1):=H_ (by rw [zer D HX.out,p];rfl);clear hmm;refine zat (C:=fun W=>Fr No wr W) (by kernel_rfl) (by kernel_rfl) (n.out.drew) ?_
          repeat (refine (wpQuiet_step (fun K hK=>?_):_)
                  go_simp
                  first
                   | (refine hK _ ?_;clear hK K)
                   | (apply Exists.intro
                      refine ⟨fun W hW=>?_,hK _ ?_⟩
                      (first
                        | exact rfl
                        | (obtain ⟨R,P,V,S,c5,c6,c7,c8⟩:=HS.out W hW;go_simp;exact rfl)
                      )
                      clear hK K))
          refine (wpQuiet_nil ?_:_);intro aG s;go_wp2;go_roundg g
          case rel=>exact ⟨1,by rw [N.out];go_num,by go_num,by omega,H_ (fun j' k hj hk=>by rcases Nat.lt_or_ge j' (0) with h | h;exact t.out j' k h hk;have e:j'=0:=(by omega);subst e;rw [HX.out] at hk;cases hk;exact H.out),H_ (f.out.trans0 s)⟩
          case measure=>omega
        have p:(x.mod==D.mark)=false:=beq_eq_false_iff_ne.2 hmm
        have N:Hid (freshK D (0+1)=freshK D 0+0):=H_ (by rw [zer D HX.out,p];rfl);clear hmm;refine zat (C:=fun W=>Fr No wr W) (by kernel_rfl) (by kernel_rfl) (n.out.drew) ?_
        repeat (refine (wpQuiet_step (fun K hK=>?_):_)
                go_simp
                first
                 | (refine hK _ ?_;clear hK K)
                 | (apply Exists.intro
                    refine ⟨fun W hW=>?_,hK _ ?_⟩
                    (first
                      | exact rfl
                      | (obtain ⟨R,P,V,S,c5,c6,c7,c8⟩:=HS.out W hW;go_simp;exact rfl)
                    )
                    clear hK K))
        refine (wpQuiet_nil ?_:_);intro aG s;go_wp2;go_roundg g
        case rel=>exact ⟨1,by rw [N.out];go_num,by go_num,by omega,H_ (fun j' k hj hk=>by rcases Nat.lt_or_ge j' (0) with h | h;exact t.out j' k h hk;have e:j'=0:=(by omega);subst e;rw [HX.out] at hk;cases hk;exact H.out),H_ (f.out.trans0 s)⟩
        case measure=>omega
      obtain ⟨j,rfl⟩:∃ j,i=j+1:=⟨i-1,by omega⟩
      obtain ⟨x',L⟩:∃ x',D.kvs[j]?=some x':=⟨_,List.getElem?_eq_getElem (by omega)⟩;have b6:Hid (∀ W,Fr No wr W->W.cell? ⟨ga,go+j * 6,none⟩=some (.string x'.key)):=H_ (fun W hW=>(HD.out.kvs.fr0 (f.out.trans0 hW)).cell0 zae j L rfl);have dL:decide (((j:Int)+1) > 0)=true:=decide_eq_true (by omega);have dz:decide ((0:Int)<((j:Int)+1))=true:=decide_eq_true (by omega);have dd:(0:Int)<=(j:Int)+1:=(by omega);have bt:(j:Int)<(D.kvs.length:Int):=(by omega);have dA:IntKind.i64.wrap (j:Int)=(j:Int):=IntWalk.i64_in _ ⟨by omega,by omega⟩;rcases zep x'.key x.key with hc | hc | hc
      · obtain ⟨e1,e2,e3,e4,_⟩:=zge hc
        have H:Hid (KvOk D (j+1) x):=H_ ⟨br.out,fun k' _ hk'=>by rw [show j+1-1=j from rfl,L] at hk';cases hk';exact hc⟩;clear hc L;go_upto_region 7 with fail;refine zat (C:=fun W=>Fr No wr W) (by kernel_rfl) (by kernel_rfl) ((Fr.refl No wr).drew) ?_
        repeat (refine (wpQuiet_step (fun K hK=>?_):_)
                go_simp
                first
                 | (refine hK _ ?_;clear hK K)
                 | (apply Exists.intro
                    refine ⟨fun W hW=>?_,hK _ ?_⟩
                    (first
                      | exact rfl
                      | (obtain ⟨R,P,V,S,c5,c6,c7,c8⟩:=HS.out W hW;have c9:=b6.out W hW;go_simp;exact rfl)
                      | (with_reducible exact (HC.out W hW))
                    )
                    clear hK K))
        refine (wpQuiet_nil ?_:_);intro w9 a;have n:=H_ a;clear a;go_upto_region 9 with fail;by_cases hmm:x.mod=D.mark
        · have p:(x.mod==D.mark)=true:=beq_iff_eq.2 hmm
          have N:Hid (freshK D ((j+1)+1)=freshK D (j+1)+1):=H_ (by rw [zer D HX.out,p];rfl);clear hmm;refine zat (C:=fun W=>Fr No wr W) (by kernel_rfl) (by kernel_rfl) (n.out.drew) ?_
          repeat (refine (wpQuiet_step (fun K hK=>?_):_)
                  go_simp
                  first
                   | (refine hK _ ?_;clear hK K)
                   | (apply Exists.intro
                      refine ⟨fun W hW=>?_,hK _ ?_⟩
                      (first
                        | exact rfl
                        | (obtain ⟨R,P,V,S,c5,c6,c7,c8⟩:=HS.out W hW;go_simp;exact rfl)
                      )
                      clear hK K))
          refine (wpQuiet_nil ?_:_);intro aG s;go_wp2;go_roundg g
          case rel=>exact ⟨j+2,by rw [N.out];go_num,by go_num,by omega,H_ (fun j' k hj hk=>by rcases Nat.lt_or_ge j' ((j+1)) with h | h;exact t.out j' k h hk;have e:j'=(j+1):=(by omega);subst e;rw [HX.out] at hk;cases hk;exact H.out),H_ (f.out.trans0 s)⟩
          case measure=>omega
        have p:(x.mod==D.mark)=false:=beq_eq_false_iff_ne.2 hmm
        have N:Hid (freshK D ((j+1)+1)=freshK D (j+1)+0):=H_ (by rw [zer D HX.out,p];rfl);clear hmm;refine zat (C:=fun W=>Fr No wr W) (by kernel_rfl) (by kernel_rfl) (n.out.drew) ?_
        repeat (refine (wpQuiet_step (fun K hK=>?_):_)
                go_simp
                first
                 | (refine hK _ ?_;clear hK K)
                 | (apply Exists.intro
                    refine ⟨fun W hW=>?_,hK _ ?_⟩
                    (first
                      | exact rfl
                      | (obtain ⟨R,P,V,S,c5,c6,c7,c8⟩:=HS.out W hW;go_simp;exact rfl)
                    )
                    clear hK K))
        refine (wpQuiet_nil ?_:_);intro aG s;go_wp2;go_roundg g
        case rel=>exact ⟨j+2,by rw [N.out];go_num,by go_num,by omega,H_ (fun j' k hj hk=>by rcases Nat.lt_or_ge j' ((j+1)) with h | h;exact t.out j' k h hk;have e:j'=(j+1):=(by omega);subst e;rw [HX.out] at hk;cases hk;exact H.out),H_ (f.out.trans0 s)⟩
        case measure=>omega
      · have e1:(x.key.toList==x'.key.toList)=true:=by rw [hc];exact zlw _
        have r:Hid (¬ zbi D):=H_ (fun h=>by have:=(h.kvs (j+1) x HX.out).up x' (by omega) L;rw [hc,zbb] at this;cases this);clear hc L;go_upto_region 7 with fail;refine zat (C:=fun W=>Fr No wr W) (by kernel_rfl) (by kernel_rfl) ((Fr.refl No wr).drew) ?_
        repeat (refine (wpQuiet_step (fun K hK=>?_):_)
                go_simp
                first
                 | (refine hK _ ?_;clear hK K)
                 | (apply Exists.intro
                    refine ⟨fun W hW=>?_,hK _ ?_⟩
                    (first
                      | exact rfl
                      | (obtain ⟨R,P,V,S,c5,c6,c7,c8⟩:=HS.out W hW;have c9:=b6.out W hW;go_simp;exact rfl)
                      | (with_reducible exact (HC.out W hW))
                    )
                    clear hK K))
        refine (wpQuiet_nil ?_:_);intro w9 a;go_wp2;go_ret;exact RightR.no rfl r.out (m.out.trans0 (f.out.trans0 a))
      obtain ⟨e1,e2,e3,e4,_⟩:=zge hc
      have r:Hid (¬ zbi D):=H_ (fun h=>by have:=(h.kvs (j+1) x HX.out).up x' (by omega) L;rw [zcp hc] at this;cases this);clear hc L;go_upto_region 7 with fail;refine zat (C:=fun W=>Fr No wr W) (by kernel_rfl) (by kernel_rfl) ((Fr.refl No wr).drew) ?_
      repeat (refine (wpQuiet_step (fun K hK=>?_):_)
              go_simp
              first
               | (refine hK _ ?_;clear hK K)
               | (apply Exists.intro
                  refine ⟨fun W hW=>?_,hK _ ?_⟩
                  (first
                    | exact rfl
                    | (obtain ⟨R,P,V,S,c5,c6,c7,c8⟩:=HS.out W hW;have c9:=b6.out W hW;go_simp;exact rfl)
                    | (with_reducible exact (HC.out W hW))
                  )
                  clear hK K))
      refine (wpQuiet_nil ?_:_);intro w9 a;go_wp2;go_ret;exact RightR.no rfl r.out (m.out.trans0 (f.out.trans0 a))
end Go.Proofs.YthljnnjpmdgkoaaGreat
