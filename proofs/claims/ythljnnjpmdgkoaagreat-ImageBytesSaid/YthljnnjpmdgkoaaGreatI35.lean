/- The store's Made: a store is made of a state just if it is right, and then it has it. The conditions: keys are not too long, there are fewer than a million of them and of events, numbers are Go's. -/
import Derived.Test.YthljnnjpmdgkoaaGreatI31
import Derived.Test.YthljnnjpmdgkoaaGreatI32
import Derived.Test.YthljnnjpmdgkoaaGreatI33
import Derived.Test.YthljnnjpmdgkoaaGreatI34
import Derived.Test.YthljnnjpmdgkoaaGreatI29
import Derived.Test.YthljnnjpmdgkoaaGreatI18
import Derived.Test.YthljnnjpmdgkoaaGreatI28
import Derived.Deep.DeepCutAuto
import Derived.BigRegion
import Derived.WalkLawsBesides
namespace Go.Proofs.YthljnnjpmdgkoaaGreat
open Go Go.Proofs Go.RowKit
set_option maxRecDepth 100000
theorem Calls.clsM {P:Program} {f:FuncId} {args:Array Value} {B W:World} {v:Value} (h:Calls P f args W fun e w'=>e=.returned v/\Fr No W w') (hW:Fr No B W):Calls P f args W fun e w'=>e=.returned v/\Fr No B w':=h.mono fun _ _ h=>⟨h.1,hW.trans0 h.2⟩
theorem zeroI (w:World):(zeroValue 3).run Tryz.prog w=.ok (.int .i64 0) w:=by kernel_rfl
theorem ztn {D:Doc} {i:Nat} {x:Ev} (h:EvOk D i x):keyE x.kv.key=0:=by
 by_cases hm:x.kv.mod=D.mark
 · have a:=h.mkd hm
   unfold zih at a
   split at a
   · cases a
   rename_i hn
   simp only [not_or,Bool.not_eq_false] at hn;exact (zgh hn.2).2.1
 exact (zgh (h.md hm)).2.1
theorem zyp (o:Option Kv):(seen o).1=o.getD kv0:=by cases o <;> rfl
def lastF (D:Doc) (i:Nat) (k:ByteArray):Option Value:=(lastAt D i k).map (Value.int .i64)
set_option maxHeartbeats 64000000 in
theorem zul {TA:zao} (hT:TreeOk TA 1000000) (w:World) (D:Doc) (vk ve:Value) (hD:DocR w D vk ve) (hsm:DocN64 D) (hbig:D.mark<=D.rev->D.rev<=1099511627776->D.mark<=1099510000000) :
 Calls Tryz.prog 24 #[docV D vk ve] w (MadeR TA D w):=by
 obtain ⟨ka,bZ,rfl,jo,jp,fS⟩:=hD.kvs.shape;obtain ⟨ea,cz,rfl,jg,jh,fN⟩:=hD.evs.shape;have i9:=hsm.len;have fL:=zad w (Obj.cells #[.int .i64 D.rev,.int .i64 D.mark,.slice ka D.kvs.length bZ,.slice ea D.events.length cz] 42) _ rfl;have dg:Fr No w (w.alloc (Obj.cells #[.int .i64 D.rev,.int .i64 D.mark,.slice ka D.kvs.length bZ,.slice ea D.events.length cz] 42)):=(Fr.refl No w).alloc _;have HD:=H_ (hD.fr0 dg);have cr:=H_ hsm;have gz:=H_ fS;have gx:=H_ fN;have c8:=H_ fL;have ap:=H_ dg;clear hD hsm fS fN fL dg;unfold docV;by_cases hm0:D.mark<0
 · have g0:decide (D.mark<0)=true:=decide_eq_true hm0
   have HN:Hid (¬ zbg D):=H_ (fun h=>by have:=h.m0;omega);clear hm0;go_enter Tryz.func24,Tryz.ntmps24;go_wp2
   go_ret2
   exact MadeR.no HN.out ap.out
 have g0:decide (D.mark<0)=false:=decide_eq_false hm0;by_cases bh:D.rev<D.mark
 · have al:decide (D.mark > D.rev)=true:=decide_eq_true bh
   have HN:Hid (¬ zbg D):=H_ (fun h=>by have:=h.mr;omega);clear bh;go_enter Tryz.func24,Tryz.ntmps24;go_wp2
   go_ret2
   exact MadeR.no HN.out ap.out
 have al:decide (D.mark > D.rev)=false:=decide_eq_false bh;by_cases hm2:1099511627776<D.rev
 · have g2:decide (D.rev > 1099511627776)=true:=decide_eq_true hm2
   have HN:Hid (¬ zbg D):=H_ (fun h=>by have:=h.top;omega);clear hm2;go_enter Tryz.func24,Tryz.ntmps24;go_wp2
   go_ret2
   exact MadeR.no HN.out ap.out
 have g2:decide (D.rev > 1099511627776)=false:=decide_eq_false hm2;have jc:=hbig (by omega) (by omega);clear hbig;go_enter Tryz.func24,Tryz.ntmps24;go_upto_region 3 with fail;generalize w.alloc (Obj.cells #[.int .i64 D.rev,.int .i64 D.mark,.slice ka D.kvs.length bZ,.slice ea D.events.length cz] 42)=W1 at *;have ju:w.heap.size<W1.heap.size:=zab c8.out;go_upto_region 4 with (go_at_call 17;refine (zdc hT _).mono ?_;rintro e w2 ⟨s,rfl,F0,dj,dh,f6⟩);have fG:=H_ ap.out.size;have A:=dh.heap c8.out id;have lb:=zab A;obtain ⟨b0,b1,b2,b3⟩:=cells4 A
 have dz:Hid (∃ F1,zaj TA (((w2.setCell ⟨s,4,none⟩ (.int .i64 D.mark)).setCell ⟨s,3,none⟩ (.int .i64 D.rev)).drew) s (emptyS D) F1/\Fr No W1 (((w2.setCell ⟨s,4,none⟩ (.int .i64 D.mark)).setCell ⟨s,3,none⟩ (.int .i64 D.rev)).drew)/\∀ b,F1 b->W1.heap.size<=b):=by
  obtain ⟨t,p,ev,hp,FT,FH,a,hF⟩:=dj;have hn:∀ b,storeF s p ev FT FH b->W1.heap.size<=b:=fun b A=>f6 b ((hF b).2 A);have h1:Fr (fun b=>b=s) w2 (((w2.setCell ⟨s,4,none⟩ (.int .i64 D.mark)).setCell ⟨s,3,none⟩ (.int .i64 D.rev)).drew):=(((Fr.refl _ w2).setAt 4 _).setAt 3 _).drew
  exact H_ ⟨_,⟨t,p,ev,hp,FT,FH,a.setObj hT h1 0 D.rev D.mark ((a.obj.set 4 (.int .i64 D.mark)).set 3 (.int .i64 D.rev)),fun _=>Iff.rfl⟩,dh.trans h1 fun j hj h=>(by
   have h':j=s:=h;have:=hn s (.inl rfl);omega),hn⟩
 obtain ⟨fZ,aU,eQ⟩:s<w2.heap.size/\W1.heap.size<=s/\∀ j,w2.frozen? ⟨s,j,none⟩=false:=by
  obtain ⟨t,p,ev,hp,FT,FH,a,hF⟩:=dj;exact ⟨a.obj.lt,f6 s ((hF s).2 (.inl rfl)),fun j=>a.obj.free j⟩
 obtain ⟨iP,iQ,eO⟩:∃ u v,w2.cell? ⟨s,3,none⟩=some u/\w2.cell? ⟨s,4,none⟩=some v:=by
  obtain ⟨t,p,ev,hp,FT,FH,a,hF⟩:=dj;exact ⟨_,_,a.obj.cell 3 rfl,a.obj.cell 4 rfl⟩
 obtain ⟨eO,gN⟩:=eO;have gY:=eQ 3;have gZ:=eQ 4;clear dj f6 eQ
 go_region
 generalize ((w2.setCell ⟨s,4,none⟩ (.int .i64 D.mark)).setCell ⟨s,3,none⟩ (.int .i64 D.rev)).drew=W3 at *;obtain ⟨F1,gd,eP,aK⟩:=dz.out;have eM:=eP.heap c8.out id;have h9:=zab eM;have gD:=H_ gd;have ag:=H_ eP;have fC:=H_ aK;clear A dz gd eP aK eO gN gY gZ b0 b1 b2 b3 dh fZ lb;obtain ⟨b0,b1,b2,b3⟩:=cells4 eM;clear eM;go_wp2_with fail
 go_loopg [5,44] D.kvs.length (fun g s5 s44 wr=>∃ (i:Nat) (F1:Nat->Prop),s5=.int .i64 (freshK D i:Int)/\s44=.int .i64 i/\i+g=D.kvs.length/\Hid (∀ j k,j<i->D.kvs[j]?=some k->KvOk D j k)/\Hid (BegI D i (begS D i))/\Hid (zaj TA wr s (begS D i) F1)/\Hid (Fr No W1 wr)/\Hid (∀ b,F1 b->W1.heap.size<=b))
 case atStart=>exact ⟨0,F1,rfl,rfl,by simp,H_ (fun j k h=>absurd h (Nat.not_lt_zero _)),H_ (BegI.zero D (by omega) (by unfold top;omega) (by unfold top;omega)),gD,ag,fC⟩
 case round =>
  clear b0 b1 b2 b3 h9;obtain ⟨i,F2,rfl,rfl,hi,ah,bn,br,HF,R⟩:=hrel;have jj:=zxl D i;have A:=HF.out.heap c8.out id;have lb:=zab A;obtain ⟨b0,b1,b2,b3⟩:=cells4 A
  cases gk with
  | succ g =>
    as_aux_lemma =>
     have eU:(i:Int)<(D.kvs.length:Int):=(by omega);obtain ⟨x,U⟩:∃ x,D.kvs[i]?=some x:=⟨_,List.getElem?_eq_getElem (by omega)⟩;obtain ⟨ga,go,rfl⟩:=gz.out (by omega);have hh:=HD.out.kvs.fr0 HF.out;have x0:=hh.cell0 zak i U rfl;have x1:=hh.cell zak i 1 U rfl;have x2:=hh.cell zak i 2 U rfl;have x3:=hh.cell zak i 3 U rfl;have x4:=hh.cell zak i 4 U rfl;have x5:=hh.cell zak i 5 U rfl;have lx:=World.block_lt_of_cell? _ _ x0;have cM:=cr.out.keys x (List.mem_of_getElem? U);have aU:=cr.out.kvs x (List.mem_of_getElem? U);have HX:=H_ U;obtain ⟨d,L,M,c,N,O⟩:=x;dsimp only at x0 x1 x2 x3 x4 x5 cM aU;have hC:=fun (W:World)=>zpl W ⟨d,L,M,c,N,O⟩ cM D.mark aU.1 aU.2;rw [ztb] at hC;unfold kvV at hC;have ft:=H_ hC;clear hC hh U;go_upto_region 9 with fail
     have aK:=zad wr (Obj.cells #[.string d,.string L,.int .i64 M,.int .i64 c,.int .i64 N,.int .i64 O] 99) _ rfl;have bx:=zai A (Obj.cells #[.string d,.string L,.int .i64 M,.int .i64 c,.int .i64 N,.int .i64 O] 99);have ca:Fr No wr (wr.alloc (Obj.cells #[.string d,.string L,.int .i64 M,.int .i64 c,.int .i64 N,.int .i64 O] 99)):=(Fr.refl No wr).alloc _;generalize wr.alloc (Obj.cells #[.string d,.string L,.int .i64 M,.int .i64 c,.int .i64 N,.int .i64 O] 99)=W2 at *;have ly:=zab aK;have lz:=zab bx
     have HS:Hid (∀ W,Fr No W2 W->W.cell? ⟨w.heap.size,1,none⟩=some (.int .i64 D.mark)/\W.cell? ⟨w.heap.size,2,none⟩=some (.slice (some ⟨ga,go,none⟩) D.kvs.length bZ)/\W.cell? ⟨wr.heap.size,0,none⟩=some (.string d)/\W.cell? ⟨wr.heap.size,1,none⟩=some (.string L)/\W.cell? ⟨wr.heap.size,2,none⟩=some (.int .i64 M)/\W.cell? ⟨wr.heap.size,3,none⟩=some (.int .i64 c)/\W.cell? ⟨wr.heap.size,4,none⟩=some (.int .i64 N)/\W.cell? ⟨wr.heap.size,5,none⟩=some (.int .i64 O)):=H_ (fun W hW=>by
      have h1:=hW.heap aK id;have h2:=hW.heap bx id;refine ⟨?_,?_,?_,?_,?_,?_,?_,?_⟩
      · unfold World.cell?;dsimp only;rw [h2];rfl
      · unfold World.cell?;dsimp only;rw [h2];rfl
      all_goals (unfold World.cell?;dsimp only;rw [h1];rfl))
     have HC:Hid (∀ W,Fr No W2 W->Calls Tryz.prog 63 #[.agg #[.string d,.string L,.int .i64 M,.int .i64 c,.int .i64 N,.int .i64 O],.int .i64 D.mark] W fun e w'=>e=.returned (.bool (mayB ⟨d,L,M,c,N,O⟩ D.mark))/\Fr No W2 w'):=H_ (fun W hW=>Calls.clsM (ft.out W) hW);have a9:=H_ ca;clear aK bx ca A b0 b1 b2 b3 x0 x1 x2 x3 x4 x5 lx lb ft;generalize wr.heap.size=nb at *
     cases hmay:mayB ⟨d,L,M,c,N,O⟩ D.mark with
     | false =>
       rw [hmay] at HC;have HN:Hid (¬ zbg D):=H_ (fun h=>by have:=(h.kvs i _ HX.out).may;rw [hmay] at this;cases this);clear hmay cM aU;refine zcd (C:=fun W=>Fr No W2 W) (by kernel_rfl) (by kernel_rfl) ((Fr.refl No W2).drew) ?_
       repeat (refine (wpQuiet_step (fun K hK=>?_):_)
               go_simp
               first
                | (refine hK _ ?_;clear hK K)
                | (apply Exists.intro
                   refine ⟨fun W hW=>?_,hK _ ?_⟩
                   (first
                     | exact rfl
                     | (obtain ⟨d1,d2,y0,y1,y2,y3,y4,y5⟩:=HS.out W hW;go_simp;exact rfl)
                     | (with_reducible exact (HC.out W hW))
                   )
                   clear hK K))
       refine (wpQuiet_nil ?_:_);intro w9 a7;go_wp2
       go_ret2
       exact MadeR.no HN.out (ap.out.trans0 (HF.out.trans0 (a9.out.trans0 a7)))
     | true =>
       rw [hmay] at HC;have d6:=H_ hmay;clear hmay;rcases Nat.eq_zero_or_pos i with h0 | h0
       · subst h0
         rw [show ((0:Nat):Int)=(0:Int) from rfl];have jk:decide ((0:Int) > 0)=false:=rfl;have co:Hid (KvOk D 0 ⟨d,L,M,c,N,O⟩):=H_ ⟨d6.out,fun _ h=>absurd h (Nat.lt_irrefl _)⟩;clear cM aU;refine zcd (C:=fun W=>Fr No W2 W) (by kernel_rfl) (by kernel_rfl) ((Fr.refl No W2).drew) ?_
         repeat (refine (wpQuiet_step (fun K hK=>?_):_)
                 go_simp
                 first
                  | (refine hK _ ?_;clear hK K)
                  | (apply Exists.intro
                     refine ⟨fun W hW=>?_,hK _ ?_⟩
                     (first
                       | exact rfl
                       | (obtain ⟨d1,d2,y0,y1,y2,y3,y4,y5⟩:=HS.out W hW;go_simp;exact rfl)
                       | (with_reducible exact (HC.out W hW))
                     )
                     clear hK K))
         refine (wpQuiet_nil ?_:_);intro w9 a7;obtain ⟨d1,d2,y0,y1,y2,y3,y4,y5⟩:=HS.out w9 a7;have l9:=a7.size;have hI:nb<w9.heap.size:=(by omega);have hJ:w.heap.size<w9.heap.size:=(by omega)
         have aI:∀ j' k,j'<=0->D.kvs[j']?=some k->KvOk D j' k:=fun j' k hj hk=>by
          rcases Nat.lt_or_ge j' (0) with h | h
          · exact ah.out j' k h hk
          have e:j'=0:=by omega
          subst e;rw [HX.out] at hk;cases hk
          exact co.out
         have bS:=bn.out.step (by omega) (by unfold top;omega) HX.out aI;have bi:=(zez.1 d6.out).ver;dsimp only at bi;have cK:c<=top:=(by have:=bi.2.1;unfold top;omega);have bh:1<=c:=bi.2.2;have aL:(begS D (0)).T.length<1000000:=(by have:=bn.out.size;omega);have bC:=br.out.fr0 hT (a9.out.trans0 a7);have cB:=zlg hT (n:=0) (by omega) w9 s (begS D (0)) F2 bC bn.out.ok ⟨d,L,M,c,N,O⟩ aL bS.1 bh cK;have ch:=H_ cB;have aE:=H_ aI;have cg:=H_ bS.2;have ck:=H_ (zky D HX.out);have cs:=H_ a7;have af:=H_ (zqf D HX.out);clear cB aI bS aL bC a7 bi cK bh;by_cases a0:c=D.mark
         · have al:(c==D.mark)=true:=beq_iff_eq.2 a0
           have aD:Hid (freshK D (0+1)=freshK D (0)+1):=H_ (by rw [ck.out,al];rfl);clear a0;go_wp2_with (go_at_call 64;refine ch.out.mono ?_;rintro e fi ⟨⟨cc,rfl⟩,F3,a6,X,a5⟩);have aH:=H_ a6;have aC:=H_ X;have aF:=H_ a5;clear a6 X a5;go_roundg g
           case rel =>
            have cN:=HF.out.size;have cO:=a9.out.size
            exact ⟨1,F3,by rw [aD.out];go_num,by go_num,by omega,H_ (fun j' k hj hk=>aE.out j' k (by omega) hk),H_ (by rw [af.out];exact cg.out),H_ (by rw [af.out];exact aH.out),H_ ((HF.out.trans0 (a9.out.trans0 cs.out)).trans aC.out fun j hj h=>by have:=R.out j h;omega),H_ (fun b A=>by
             rcases aF.out b A with h | h
             · exact R.out b h
             omega)⟩
           case measure=>omega
         have al:(c==D.mark)=false:=beq_eq_false_iff_ne.2 a0
         have aD:Hid (freshK D (0+1)=freshK D (0)+0):=H_ (by rw [ck.out,al];rfl);clear a0;go_wp2_with (go_at_call 64;refine ch.out.mono ?_;rintro e fi ⟨⟨cc,rfl⟩,F3,a6,X,a5⟩);have aH:=H_ a6;have aC:=H_ X;have aF:=H_ a5;clear a6 X a5;go_roundg g
         case rel =>
          have cN:=HF.out.size;have cO:=a9.out.size
          exact ⟨1,F3,by rw [aD.out];go_num,by go_num,by omega,H_ (fun j' k hj hk=>aE.out j' k (by omega) hk),H_ (by rw [af.out];exact cg.out),H_ (by rw [af.out];exact aH.out),H_ ((HF.out.trans0 (a9.out.trans0 cs.out)).trans aC.out fun j hj h=>by have:=R.out j h;omega),H_ (fun b A=>by
           rcases aF.out b A with h | h
           · exact R.out b h
           omega)⟩
         case measure=>omega
       obtain ⟨j,rfl⟩:∃ j,i=j+1:=⟨i-1,by omega⟩
       obtain ⟨x',bU⟩:∃ x',D.kvs[j]?=some x':=⟨_,List.getElem?_eq_getElem (by omega)⟩;have eD:Hid (∀ W,Fr No W2 W->W.cell? ⟨ga,go+j * 6,none⟩=some (.string x'.key)):=H_ (fun W hW=>(HD.out.kvs.fr0 (HF.out.trans0 (a9.out.trans0 hW))).cell0 zak j bU rfl);have jl:decide (((j:Int)+1) > 0)=true:=decide_eq_true (by omega);have jm:decide ((0:Int)<((j:Int)+1))=true:=decide_eq_true (by omega);have jn:(0:Int)<=(j:Int)+1:=(by omega);have fR:(j:Int)<(D.kvs.length:Int):=(by omega);have jt:IntKind.i64.wrap (j:Int)=(j:Int):=IntWalk.i64_in _ ⟨by omega,by omega⟩;clear cM aU;rcases zko x'.key d with hc | hc | hc
       · obtain ⟨e1,e2,e3,e4,_⟩:=zts hc
         have co:Hid (KvOk D (j+1) ⟨d,L,M,c,N,O⟩):=H_ ⟨d6.out,fun k' _ hk'=>by rw [show j+1-1=j from rfl,bU] at hk';cases hk';exact hc⟩;clear hc bU;refine zcd (C:=fun W=>Fr No W2 W) (by kernel_rfl) (by kernel_rfl) ((Fr.refl No W2).drew) ?_
         repeat (refine (wpQuiet_step (fun K hK=>?_):_)
                 go_simp
                 first
                  | (refine hK _ ?_;clear hK K)
                  | (apply Exists.intro
                     refine ⟨fun W hW=>?_,hK _ ?_⟩
                     (first
                       | exact rfl
                       | (obtain ⟨d1,d2,y0,y1,y2,y3,y4,y5⟩:=HS.out W hW;have c9:=eD.out W hW;go_simp;exact rfl)
                       | (with_reducible exact (HC.out W hW))
                     )
                     clear hK K))
         refine (wpQuiet_nil ?_:_);intro w9 a7;obtain ⟨d1,d2,y0,y1,y2,y3,y4,y5⟩:=HS.out w9 a7;have l9:=a7.size;have hI:nb<w9.heap.size:=(by omega);have hJ:w.heap.size<w9.heap.size:=(by omega)
         have aI:∀ j' k,j'<=j+1->D.kvs[j']?=some k->KvOk D j' k:=fun j' k hj hk=>by
          rcases Nat.lt_or_ge j' (j+1) with h | h
          · exact ah.out j' k h hk
          have e:j'=j+1:=by omega
          subst e;rw [HX.out] at hk;cases hk
          exact co.out
         have bS:=bn.out.step (by omega) (by unfold top;omega) HX.out aI;have bi:=(zez.1 d6.out).ver;dsimp only at bi;have cK:c<=top:=(by have:=bi.2.1;unfold top;omega);have bh:1<=c:=bi.2.2;have aL:(begS D (j+1)).T.length<1000000:=(by have:=bn.out.size;omega);have bC:=br.out.fr0 hT (a9.out.trans0 a7);have cB:=zlg hT (n:=j+1) (by omega) w9 s (begS D (j+1)) F2 bC bn.out.ok ⟨d,L,M,c,N,O⟩ aL bS.1 bh cK;have ch:=H_ cB;have aE:=H_ aI;have cg:=H_ bS.2;have ck:=H_ (zky D HX.out);have cs:=H_ a7;have af:=H_ (zqf D HX.out);clear cB aI bS aL bC a7 bi cK bh;by_cases a0:c=D.mark
         · have al:(c==D.mark)=true:=beq_iff_eq.2 a0
           have aD:Hid (freshK D (j+1+1)=freshK D (j+1)+1):=H_ (by rw [ck.out,al];rfl);clear a0;go_wp2_with (go_at_call 64;refine ch.out.mono ?_;rintro e fi ⟨⟨cc,rfl⟩,F3,a6,X,a5⟩);have aH:=H_ a6;have aC:=H_ X;have aF:=H_ a5;clear a6 X a5;go_roundg g
           case rel =>
            have cN:=HF.out.size;have cO:=a9.out.size
            exact ⟨j+2,F3,by rw [aD.out];go_num,by go_num,by omega,H_ (fun j' k hj hk=>aE.out j' k (by omega) hk),H_ (by rw [af.out];exact cg.out),H_ (by rw [af.out];exact aH.out),H_ ((HF.out.trans0 (a9.out.trans0 cs.out)).trans aC.out fun j hj h=>by have:=R.out j h;omega),H_ (fun b A=>by
             rcases aF.out b A with h | h
             · exact R.out b h
             omega)⟩
           case measure=>omega
         have al:(c==D.mark)=false:=beq_eq_false_iff_ne.2 a0
         have aD:Hid (freshK D (j+1+1)=freshK D (j+1)+0):=H_ (by rw [ck.out,al];rfl);clear a0;go_wp2_with (go_at_call 64;refine ch.out.mono ?_;rintro e fi ⟨⟨cc,rfl⟩,F3,a6,X,a5⟩);have aH:=H_ a6;have aC:=H_ X;have aF:=H_ a5;clear a6 X a5;go_roundg g
         case rel =>
          have cN:=HF.out.size;have cO:=a9.out.size
          exact ⟨j+2,F3,by rw [aD.out];go_num,by go_num,by omega,H_ (fun j' k hj hk=>aE.out j' k (by omega) hk),H_ (by rw [af.out];exact cg.out),H_ (by rw [af.out];exact aH.out),H_ ((HF.out.trans0 (a9.out.trans0 cs.out)).trans aC.out fun j hj h=>by have:=R.out j h;omega),H_ (fun b A=>by
           rcases aF.out b A with h | h
           · exact R.out b h
           omega)⟩
         case measure=>omega
       · have e1:(d.toList==x'.key.toList)=true:=by rw [hc];exact zjk _
         have HN:Hid (¬ zbg D):=H_ (fun h=>by have:=(h.kvs (j+1) _ HX.out).up x' (by omega) bU;rw [hc,zbk] at this;cases this);clear hc bU;refine zcd (C:=fun W=>Fr No W2 W) (by kernel_rfl) (by kernel_rfl) ((Fr.refl No W2).drew) ?_
         repeat (refine (wpQuiet_step (fun K hK=>?_):_)
                 go_simp
                 first
                  | (refine hK _ ?_;clear hK K)
                  | (apply Exists.intro
                     refine ⟨fun W hW=>?_,hK _ ?_⟩
                     (first
                       | exact rfl
                       | (obtain ⟨d1,d2,y0,y1,y2,y3,y4,y5⟩:=HS.out W hW;have c9:=eD.out W hW;go_simp;exact rfl)
                       | (with_reducible exact (HC.out W hW))
                     )
                     clear hK K))
         refine (wpQuiet_nil ?_:_);intro w9 a7;go_wp2
         go_ret2
         exact MadeR.no HN.out (ap.out.trans0 (HF.out.trans0 (a9.out.trans0 a7)))
       obtain ⟨e1,e2,e3,e4,_⟩:=zts hc
       have HN:Hid (¬ zbg D):=H_ (fun h=>by have:=(h.kvs (j+1) _ HX.out).up x' (by omega) bU;rw [zds hc] at this;cases this);clear hc bU;refine zcd (C:=fun W=>Fr No W2 W) (by kernel_rfl) (by kernel_rfl) ((Fr.refl No W2).drew) ?_
       repeat (refine (wpQuiet_step (fun K hK=>?_):_)
               go_simp
               first
                | (refine hK _ ?_;clear hK K)
                | (apply Exists.intro
                   refine ⟨fun W hW=>?_,hK _ ?_⟩
                   (first
                     | exact rfl
                     | (obtain ⟨d1,d2,y0,y1,y2,y3,y4,y5⟩:=HS.out W hW;have c9:=eD.out W hW;go_simp;exact rfl)
                     | (with_reducible exact (HC.out W hW))
                   )
                   clear hK K))
       refine (wpQuiet_nil ?_:_);intro w9 a7;go_wp2
       go_ret2
       exact MadeR.no HN.out (ap.out.trans0 (HF.out.trans0 (a9.out.trans0 a7)))
  | zero =>
    have eU:¬ (i:Int)<(D.kvs.length:Int):=(by omega);have eT:i=D.kvs.length:=(by omega);subst eT;have eW:KSorted D.kvs:=zhl fun i k k' hi hk hk'=>(ah.out i k (List.getElem?_eq_some_iff.1 hk).1 hk).up k' hi hk';have iK:=H_ eW;have dx:Hid (∀ j k,D.kvs[j]?=some k->KvOk D j k):=H_ fun j k hk=>ah.out j k (List.getElem?_eq_some_iff.1 hk).1 hk;obtain ⟨ai,dT⟩:∃ ai:Int,max D.mark 1=ai:=⟨_,rfl⟩;have bp:=H_ dT;have dg:1<=ai:=(by omega);have dh:ai<=1099510000000:=(by omega);have g9:revAt D 0=ai-1:=(by unfold revAt;rw [if_pos rfl,dT]);have eG:=H_ g9;have dn:=H_ (bn.out.start (by omega) eW);clear eW g9 A ah bn;generalize begS D D.kvs.length=S0 at *;generalize dS:freshK D D.kvs.length=fk at *;have dr:=H_ dS;clear dS
    have a0:∀ w,(Instr.makeMap 127 none).run Tryz.prog w=.ok (.map (some w.heap.size)) (w.alloc (.map #[] 0)):=fun w=>run_makeMap 127 w;go_upto_region 17 with fail;have eL:Fr No wr (wr.alloc (Obj.map #[] 0)):=(Fr.refl No wr).alloc _;have fK:MapS (wr.alloc (Obj.map #[] 0)) wr.heap.size (lastF D 0):=MapS.made wr;have ia:W1.heap.size<=wr.heap.size:=HF.out.size;have g5:∀ b,F2 b->b≠wr.heap.size:=fun b A=>by have:=br.out.lt hT b A;omega
    generalize wr.alloc (Obj.map #[] 0)=W4 at *;generalize gU:wr.heap.size=ms at *;have aZ:=H_ (br.out.fr0 hT eL);have eA:=H_ (HF.out.trans0 eL);have cl:=H_ fK;have dw:Hid (∀ b,F2 b->W1.heap.size<=b/\b≠ms):=H_ fun b A=>⟨R.out b A,g5 b A⟩;clear br HF R eL fK g5 gU b0 b1 b2 b3 lb a0;have A:=eA.out.heap c8.out id;have lb:=zab A;obtain ⟨b0,b1,b2,b3⟩:=cells4 A;clear A;go_wp2_with fail
    go_loopg [5,8,89] D.events.length (fun g s5 s8 s89 wr2=>∃ (i:Nat) (S:St) (F3:Nat->Prop),s5=.int .i64 ((fk:Int)-(freshE D i:Int))/\s8=.int .i64 (revAt D i)/\s89=.int .i64 i/\i+g=D.events.length/\0<=revAt D i/\revAt D i<=1099510000000+(i:Int)/\Hid (∀ j x,j<i->D.events[j]?=some x->EvOk D j x)/\Hid (EvI D i S)/\Hid (zaj TA wr2 s S F3)/\Hid (MapS wr2 ms (lastF D i))/\Hid (Fr No W1 wr2)/\Hid (∀ b,F3 b->W1.heap.size<=b/\b≠ms))
    case atStart =>
     have hz:freshE D 0=0:=rfl;exact ⟨0,S0,F2,by rw [hz];go_num,by rw [eG.out],rfl,by simp,by rw [eG.out];omega,by rw [eG.out];omega,H_ (fun j x h=>absurd h (Nat.not_lt_zero _)),dn,aZ,cl,eA,dw⟩
    case round =>
     clear b0 b1 b2 b3 lb aZ eA cl dw dn;obtain ⟨i,S,F3,rfl,rfl,rfl,hi,ic,ie,ah,bR,br,eF,HF,R⟩:=hrel;have gQ:=zxm D i;have A:=HF.out.heap c8.out id;have lb:=zab A;obtain ⟨b0,b1,b2,b3⟩:=cells4 A
     cases gk with
     | zero =>
       have eU:¬ (i:Int)<(D.events.length:Int):=(by omega);have eT:i=D.events.length:=(by omega);subst eT;have fw:Hid (∀ j x,D.events[j]?=some x->EvOk D j x):=H_ fun j x U=>ah.out j x (List.getElem?_eq_some_iff.1 U).1 U;clear A ah;generalize dQ:freshE D D.events.length=fe at *;generalize dZ:revAt D D.events.length=ra at *;have dq:=H_ dQ;have cp:=H_ dZ;have ji:fe<=D.events.length:=gQ;obtain ⟨dd,hdd⟩:∃ dd:Int,(fk:Int)-(fe:Int)=dd:=⟨_,rfl⟩;rw [hdd];have jf : -1000000<=dd/\dd<=1000000:=(by omega);have fv:=H_ hdd;clear dQ dZ hdd;have jr:max D.rev 0=D.rev:=(by omega);by_cases hl:ra=D.rev
       · have eX:(ra==D.rev)=true:=beq_iff_eq.2 hl
         have fV:(ra != D.rev)=false:=(by unfold bne;rw [eX];rfl);by_cases hff:dd=0
         · have eR:(dd==0)=true:=beq_iff_eq.2 hff
           have fQ:(dd != 0)=false:=(by unfold bne;rw [eR];rfl);have fD:Hid (zbg D):=H_ ⟨by omega,by omega,by omega,dx.out,fw.out,by rw [cp.out];omega,by have:=fv.out;rw [dr.out,dq.out];omega⟩;have gA:Hid (MadeOk D S):=H_ (bR.out.all (by rw [cp.out];omega) (by omega));have ih:=fG.out;clear hl hff;go_wp2
           go_ret2
           exact MadeR.yes fD.out br.out gA.out (fun b A=>by have:=(R.out b A).1;omega) (ap.out.trans0 HF.out)
         have eR:(dd==0)=false:=beq_eq_false_iff_ne.2 hff
         have fQ:(dd != 0)=true:=(by unfold bne;rw [eR];rfl);have HN:Hid (¬ zbg D):=H_ (fun h=>hff (by have h1:=fv.out;have:=h.fresh;rw [dr.out,dq.out] at this;omega));clear hl hff;go_wp2
         go_ret2
         exact MadeR.no HN.out (ap.out.trans0 HF.out)
       have eX:(ra==D.rev)=false:=beq_eq_false_iff_ne.2 hl
       have fV:(ra != D.rev)=true:=(by unfold bne;rw [eX];rfl);have HN:Hid (¬ zbg D):=H_ (fun h=>hl (by have:=h.last;rw [cp.out] at this;omega));clear hl;go_wp2
       go_ret2
       exact MadeR.no HN.out (ap.out.trans0 HF.out)
     | succ g =>
       have eU:(i:Int)<(D.events.length:Int):=(by omega);obtain ⟨x,U⟩:∃ x,D.events[i]?=some x:=⟨_,List.getElem?_eq_getElem (by omega)⟩;obtain ⟨ga,go,rfl⟩:=gx.out (by omega);have hh:=HD.out.evs.fr0 HF.out;have x0:=hh.cell0 zac i U rfl;have x1:=hh.cell zac i 1 U rfl;have x2:=hh.cell zac i 2 U rfl;have x3:=hh.cell zac i 3 U rfl;have x4:=hh.cell zac i 4 U rfl;have x5:=hh.cell zac i 5 U rfl;have x6:=hh.cell zac i 6 U rfl;have x7:=hh.cell zac i 7 U rfl;have x8:=hh.cell zac i 8 U rfl;have x9:=hh.cell zac i 9 U rfl;have am:=hh.cell zac i 10 U rfl;have an:=hh.cell zac i 11 U rfl;have ao:=hh.cell zac i 12 U rfl;have lx:=World.block_lt_of_cell? _ _ x0;have fc:=cr.out.keye x (List.mem_of_getElem? U);have aU:=cr.out.evs x (List.mem_of_getElem? U);have gc:=zdm U;have dP:=zri D U
       have fX:=zkm D U;have dY:=fun (h:zbg D)=>h.evs i x U;have HX:=H_ U;have aT:=H_ gc;have ci:=H_ dP;have fA:=H_ fX;have V:=H_ dY;have cG:=zrj U;have gy:=H_ cG;clear U gc dP fX dY hh cG;obtain ⟨kd,⟨d,L,M,c,N,O⟩,⟨q,B,F,G,I,J⟩⟩:=x;dsimp only at x0 x1 x2 x3 x4 x5 x6 x7 x8 x9 am an ao fc aU HX aT ci fA V gy;generalize gb:revAt D i=ra at *;have aG:=H_ gb;clear gb;go_upto_region 20 with fail;have aK:=zad wr (Obj.cells #[.int .i64 kd,.string d,.string L,.int .i64 M,.int .i64 c,.int .i64 N,.int .i64 O,.string q,.string B,.int .i64 F,.int .i64 G,.int .i64 I,.int .i64 J] 101) _ rfl
       have bx:=zai A (Obj.cells #[.int .i64 kd,.string d,.string L,.int .i64 M,.int .i64 c,.int .i64 N,.int .i64 O,.string q,.string B,.int .i64 F,.int .i64 G,.int .i64 I,.int .i64 J] 101);have ca:Fr No wr (wr.alloc (Obj.cells #[.int .i64 kd,.string d,.string L,.int .i64 M,.int .i64 c,.int .i64 N,.int .i64 O,.string q,.string B,.int .i64 F,.int .i64 G,.int .i64 I,.int .i64 J] 101)):=(Fr.refl No wr).alloc _;generalize wr.alloc (Obj.cells #[.int .i64 kd,.string d,.string L,.int .i64 M,.int .i64 c,.int .i64 N,.int .i64 O,.string q,.string B,.int .i64 F,.int .i64 G,.int .i64 I,.int .i64 J] 101)=W2 at *;generalize g7:wr.heap.size=nb at *;have ly:=zab aK;have lz:=zab bx;obtain ⟨y0,y1,y2,y3,y4,y5,y6,y7,y8,y9,gl,gm,gn⟩:=cells13 aK;obtain ⟨z0,z1,z2,z3⟩:=cells4 bx
       have fC:=H_ aK;have iG:=H_ bx;have a9:=H_ ca;have gC:=H_ g7;have dN:=fun W=>zhz W d fc.1
       have d4:Hid (∀ W,Fr No W2 W->(Instr.lookup 127 (.map (some ms)) (.string d) false).run Tryz.prog W=.ok (.int .i64 ((lastAt D i d).getD 0)) W):=H_ (fun W hW=>by
        have h:=MapS.look (P:=Tryz.prog) (t:=127) (MapS.fr (S:=No) eF.out (ca.trans0 hW) id) Tryz.underlying127 Tryz.underlying9 (n:=d) (by unfold maxLen;omega) (zeroI W);have e:(lastF D i d).getD (.int .i64 0)=.int .i64 ((lastAt D i d).getD 0):=(by unfold lastF;cases lastAt D i d <;> rfl);rw [e] at h;exact h)
       have dU:=zun (D:=D) (i:=i) (by omega) ah.out d c;have bX:=H_ dU;clear aK bx ca g7 dU;generalize fT:keyE d=E at *;generalize cJ:(lastAt D i d).getD 0=lv at *;have d3:=H_ fT;have iL:=H_ cJ;have c7:=H_ dN;clear fT cJ dN A b0 b1 b2 b3 x0 x1 x2 x3 x4 x5 x6 x7 x8 x9 am an ao lx lb;go_upto_region 21 with fail
       go_cut [127] (fun s127 wx=>∃ bt:Bool,s127=.bool bt/\Hid (bt=true->¬ zbg D)/\Hid (bt=false->ai<=c/\ra<=c/\c<=ra+1/\keyE d=0/\∀ j y,j<i->D.events[j]?=some y->y.kv.mod=c->keq y.kv.key d=false)/\Hid (Fr No W2 wx))
       case first =>
        as_aux_lemma =>
         by_cases hA:c≠ra/\c≠ra+1
         · have a1:(c==ra)=false:=beq_eq_false_iff_ne.2 hA.1
           have a2:(c != ra)=true:=(by unfold bne;rw [a1];rfl);have a3:(c==ra+1)=false:=beq_eq_false_iff_ne.2 hA.2;have a4:(c != ra+1)=true:=(by unfold bne;rw [a3];rfl)
           have HT:Hid (¬ zbg D):=H_ (fun h=>by
            have h1:=(V.out h).ge;have h2:=(V.out h).le;rw [aG.out] at h1 h2;dsimp only at h1 h2;omega)
           clear hA;go_wp2_with fail;go_meet
           case rel=>exact ⟨true,rfl,H_ (fun _=>HT.out),H_ (fun h=>by cases h),H_ (Fr.refl No W2)⟩
         have hB:ra<=c/\c<=ra+1:=by omega
         by_cases hC:c=ra
         · have a1:(c==ra)=true:=beq_iff_eq.2 hC
           have a2:(c != ra)=false:=(by unfold bne;rw [a1];rfl);clear hA hC;by_cases hlo:c<ai
           · have cI:decide (c<ai)=true:=decide_eq_true hlo
             have HT:Hid (¬ zbg D):=H_ (fun h=>by have h1:=(V.out h).lo;rw [bp.out] at h1;dsimp only at h1;omega);clear hlo;go_wp2_with fail;go_meet
             case rel=>exact ⟨true,rfl,H_ (fun _=>HT.out),H_ (fun h=>by cases h),H_ (Fr.refl No W2)⟩
           have cI:decide (c<ai)=false:=decide_eq_false hlo
           by_cases hE:E=0
           · subst hE
             by_cases hS:lv=c
             · have s1:(lv==c)=true:=beq_iff_eq.2 hS
               have HT:Hid (¬ zbg D):=H_ (fun h=>by
                obtain ⟨j,y,h1,h2,h3,h4⟩:=(bX.out (by rw [aG.out];omega) (by omega)).1 hS;have h5:=(V.out h).one j y h1 h2 h3;dsimp only at h5;rw [h4] at h5;cases h5)
               clear hS;go_wp2_with (go_at_call 65;refine (c7.out _).mono ?_;rintro e w5 ⟨rfl,l⟩;have eY:=d4.out w5 l;have t1:=l.cell0 y1;have t4:=l.cell0 y4;have cP:=World.block_lt_of_cell? _ _ t1;have t5:=l.cell0 z1;have cQ:=World.block_lt_of_cell? _ _ t5);go_meet
               case rel=>exact ⟨true,rfl,H_ (fun _=>HT.out),H_ (fun h=>by cases h),H_ l⟩
             have s1:(lv==c)=false:=beq_eq_false_iff_ne.2 hS
             have ew:Hid (ai<=c/\ra<=c/\c<=ra+1/\keyE d=0/\∀ j y,j<i->D.events[j]?=some y->y.kv.mod=c->keq y.kv.key d=false):=H_ (⟨by omega,hB.1,hB.2,d3.out,fun j y h1 h2 h3=>by
              cases h4:keq y.kv.key d with
              | false=>rfl
              | true=>exact absurd ((bX.out (by rw [aG.out];omega) (by omega)).2 ⟨j,y,h1,h2,h3,h4⟩) hS⟩)
             clear hS;go_wp2_with (go_at_call 65;refine (c7.out _).mono ?_;rintro e w5 ⟨rfl,l⟩;have eY:=d4.out w5 l;have t1:=l.cell0 y1;have t4:=l.cell0 y4;have cP:=World.block_lt_of_cell? _ _ t1;have t5:=l.cell0 z1;have cQ:=World.block_lt_of_cell? _ _ t5);go_meet
             case rel=>exact ⟨false,rfl,H_ (fun h=>by cases h),H_ (fun _=>ew.out),H_ l⟩
           have e1:(E==0)=false:=beq_eq_false_iff_ne.2 hE
           have e2:(E != 0)=true:=(by unfold bne;rw [e1];rfl);have HT:Hid (¬ zbg D):=H_ (fun h=>hE (by rw [<-d3.out];exact ztn (V.out h)));clear hE;go_wp2_with (go_at_call 65;refine (c7.out _).mono ?_;rintro e w5 ⟨rfl,l⟩;have t1:=l.cell0 y1;have t4:=l.cell0 y4;have cP:=World.block_lt_of_cell? _ _ t1;have t5:=l.cell0 z1;have cQ:=World.block_lt_of_cell? _ _ t5);go_meet
           case rel=>exact ⟨true,rfl,H_ (fun _=>HT.out),H_ (fun h=>by cases h),H_ l⟩
         have a1:(c==ra)=false:=beq_eq_false_iff_ne.2 hC
         have a2:(c != ra)=true:=(by unfold bne;rw [a1];rfl);have a3:(c==ra+1)=true:=beq_iff_eq.2 (by omega);have a4:(c != ra+1)=false:=(by unfold bne;rw [a3];rfl);clear hA hC;by_cases hlo:c<ai
         · have cI:decide (c<ai)=true:=decide_eq_true hlo
           have HT:Hid (¬ zbg D):=H_ (fun h=>by have h1:=(V.out h).lo;rw [bp.out] at h1;dsimp only at h1;omega);clear hlo;go_wp2_with fail;go_meet
           case rel=>exact ⟨true,rfl,H_ (fun _=>HT.out),H_ (fun h=>by cases h),H_ (Fr.refl No W2)⟩
         have cI:decide (c<ai)=false:=decide_eq_false hlo
         by_cases hE:E=0
         · subst hE
           by_cases hS:lv=c
           · have s1:(lv==c)=true:=beq_iff_eq.2 hS
             have HT:Hid (¬ zbg D):=H_ (fun h=>by
              obtain ⟨j,y,h1,h2,h3,h4⟩:=(bX.out (by rw [aG.out];omega) (by omega)).1 hS;have h5:=(V.out h).one j y h1 h2 h3;dsimp only at h5;rw [h4] at h5;cases h5)
             clear hS;go_wp2_with (go_at_call 65;refine (c7.out _).mono ?_;rintro e w5 ⟨rfl,l⟩;have eY:=d4.out w5 l;have t1:=l.cell0 y1;have t4:=l.cell0 y4;have cP:=World.block_lt_of_cell? _ _ t1;have t5:=l.cell0 z1;have cQ:=World.block_lt_of_cell? _ _ t5);go_meet
             case rel=>exact ⟨true,rfl,H_ (fun _=>HT.out),H_ (fun h=>by cases h),H_ l⟩
           have s1:(lv==c)=false:=beq_eq_false_iff_ne.2 hS
           have ew:Hid (ai<=c/\ra<=c/\c<=ra+1/\keyE d=0/\∀ j y,j<i->D.events[j]?=some y->y.kv.mod=c->keq y.kv.key d=false):=H_ (⟨by omega,hB.1,hB.2,d3.out,fun j y h1 h2 h3=>by
            cases h4:keq y.kv.key d with
            | false=>rfl
            | true=>exact absurd ((bX.out (by rw [aG.out];omega) (by omega)).2 ⟨j,y,h1,h2,h3,h4⟩) hS⟩)
           clear hS;go_wp2_with (go_at_call 65;refine (c7.out _).mono ?_;rintro e w5 ⟨rfl,l⟩;have eY:=d4.out w5 l;have t1:=l.cell0 y1;have t4:=l.cell0 y4;have cP:=World.block_lt_of_cell? _ _ t1;have t5:=l.cell0 z1;have cQ:=World.block_lt_of_cell? _ _ t5);go_meet
           case rel=>exact ⟨false,rfl,H_ (fun h=>by cases h),H_ (fun _=>ew.out),H_ l⟩
         have e1:(E==0)=false:=beq_eq_false_iff_ne.2 hE
         have e2:(E != 0)=true:=(by unfold bne;rw [e1];rfl);have HT:Hid (¬ zbg D):=H_ (fun h=>hE (by rw [<-d3.out];exact ztn (V.out h)));clear hE;go_wp2_with (go_at_call 65;refine (c7.out _).mono ?_;rintro e w5 ⟨rfl,l⟩;have t1:=l.cell0 y1;have t4:=l.cell0 y4;have cP:=World.block_lt_of_cell? _ _ t1;have t5:=l.cell0 z1;have cQ:=World.block_lt_of_cell? _ _ t5);go_meet
         case rel=>exact ⟨true,rfl,H_ (fun _=>HT.out),H_ (fun h=>by cases h),H_ l⟩
       case rest =>
        obtain ⟨bt,rfl,HT,HB,HQ⟩:=hcut;have d9:=H_ (a9.out.trans0 HQ.out);have v0:=HQ.out.cell0 y0;have v1:=HQ.out.cell0 y1;have v2:=HQ.out.cell0 y2;have v3:=HQ.out.cell0 y3;have v4:=HQ.out.cell0 y4;have v5:=HQ.out.cell0 y5;have v6:=HQ.out.cell0 y6;have v7:=HQ.out.cell0 y7;have v8:=HQ.out.cell0 y8;have v9:=HQ.out.cell0 y9;have cc:=HQ.out.cell0 gl;have gi:=HQ.out.cell0 gm;have gj:=HQ.out.cell0 gn;have u0:=HQ.out.cell0 z0;have u1:=HQ.out.cell0 z1;have u2:=HQ.out.cell0 z2;have u3:=HQ.out.cell0 z3;have hv:=World.block_lt_of_cell? _ _ v0;have ht:=World.block_lt_of_cell? _ _ u0;clear y0 y1 y2 y3 y4 y5 y6 y7 y8 y9 gl gm gn z0 z1 z2 z3 ly lz
        cases bt with
        | true =>
          have HN:=H_ (HT.out rfl);clear HT HB;go_wp2
          go_ret2
          exact MadeR.no HN.out (ap.out.trans0 (HF.out.trans0 d9.out))
        | false =>
          obtain ⟨h1,h2,h3,h4,h5⟩:=HB.out rfl;have fy:=H_ h4;have fz:=H_ h5;clear h4 h5 HT HB;have fa:=br.out.fr0 hT d9.out;have dX:MapS wc ms (lastF D i):=MapS.fr (S:=No) eF.out d9.out id;have f7:=bR.out.ok;have dy:=H_ f7;have cJ:=bR.out.lives (by omega) ah.out d (r:=c) (by rw [aG.out];omega);have df:=fun W (hW:zaj TA W s S F3)=>zgz hT (n:=D.kvs.length+i) (by omega) W s S F3 hW f7 d c;generalize livesS S d c=hU at *;obtain ⟨⟨n1,n2,n3,n4,n5,n6⟩,is⟩:=hU;unfold zct kvV at df;dsimp only at df;have fu:=H_ df;have du:=H_ cJ;have ar:¬ nb=ms:=(by have:=eF.out.lt;rw [gC.out] at this;omega);have gW:¬ w.heap.size=ms:=(by omega)
          have fZ:s<wc.heap.size:=by
           obtain ⟨t,p,ev,hp,FT,FH,a,hF⟩:=fa;exact a.obj.lt
          have fE:=H_ fa;clear df cJ f7 fa;go_upto_region 25 with (refine zmu rfl _ _ _ 127 rfl 9 3 Tryz.underlying127 Tryz.underlying9 ms _ rfl dX d rfl (by unfold maxLen;omega) (.int .i64 c) rfl ?_;intro w4 g3 Y ig);have eb:=fE.out.fr hT Y (fun b A e=>(R.out b A).2 e);have dO:Fr No W1 w4:=(HF.out.trans0 d9.out).trans Y fun j hj e=>by have e':j=ms:=e;omega
          have dV:MapS w4 ms (lastF D (i+1)):=by
           refine cast (congrArg (MapS w4 ms) ?_) g3
           funext k
           unfold lastF;rw [fA.out];by_cases hk:k=d
           · rw [if_pos hk,if_pos (zas.2 hk.symm)]
             rfl
           rw [if_neg hk,if_neg (fun e=>hk (zas.1 e).symm)]
          have dC:=Y.cell v0 ar;have cv:=Y.cell v1 ar;have dF:=Y.cell v2 ar;have dG:=Y.cell v3 ar;have dH:=Y.cell v4 ar;have dI:=Y.cell v5 ar;have dJ:=Y.cell v6 ar;have dK:=Y.cell v7 ar;have dL:=Y.cell v8 ar;have dM:=Y.cell v9 ar;have cw:=Y.cell cc ar;have cx:=Y.cell gi ar;have cy:=Y.cell gj ar;have eJ:=Y.cell u1 gW;have hq:=World.block_lt_of_cell? _ _ cv;have hw:=World.block_lt_of_cell? _ _ eJ;have aZ:=H_ eb;have dp:=H_ dO;have cl:=H_ dV;clear v0 v1 v2 v3 v4 v5 v6 v7 v8 v9 cc gi gj u0 u1 u2 u3 hv ht g3 Y eb dO dV dX aU;go_upto_region 26 with (go_at_call 66;refine (fu.out w4 aZ.out).mono ?_;rintro e w5 ⟨rfl,l⟩)
          have o:Fr No w4 (w5.alloc (Obj.cells #[.string n1,.string n2,.int .i64 n3,.int .i64 n4,.int .i64 n5,.int .i64 n6] 99)):=l.alloc _;have eV:=zad w5 (Obj.cells #[.string n1,.string n2,.int .i64 n3,.int .i64 n4,.int .i64 n5,.int .i64 n6] 99) _ rfl;have gT:w4.heap.size<=w5.heap.size:=l.size;generalize w5.alloc (Obj.cells #[.string n1,.string n2,.int .i64 n3,.int .i64 n4,.int .i64 n5,.int .i64 n6] 99)=W6 at *;generalize w5.heap.size=mb at *
          have Q:Hid (∀ W,Fr No W6 W->W.cell? ⟨nb,0,none⟩=some (.int .i64 kd)/\W.cell? ⟨nb,1,none⟩=some (.string d)/\W.cell? ⟨nb,2,none⟩=some (.string L)/\W.cell? ⟨nb,3,none⟩=some (.int .i64 M)/\W.cell? ⟨nb,4,none⟩=some (.int .i64 c)/\W.cell? ⟨nb,5,none⟩=some (.int .i64 N)/\W.cell? ⟨nb,6,none⟩=some (.int .i64 O)/\W.cell? ⟨nb,7,none⟩=some (.string q)/\W.cell? ⟨nb,8,none⟩=some (.string B)/\W.cell? ⟨nb,9,none⟩=some (.int .i64 F)/\W.cell? ⟨nb,10,none⟩=some (.int .i64 G)/\W.cell? ⟨nb,11,none⟩=some (.int .i64 I)/\W.cell? ⟨nb,12,none⟩=some (.int .i64 J)/\W.cell? ⟨w.heap.size,1,none⟩=some (.int .i64 D.mark)/\W.cell? ⟨mb,0,none⟩=some (.string n1)/\W.cell? ⟨mb,1,none⟩=some (.string n2)/\W.cell? ⟨mb,2,none⟩=some (.int .i64 n3)/\W.cell? ⟨mb,3,none⟩=some (.int .i64 n4)/\W.cell? ⟨mb,4,none⟩=some (.int .i64 n5)/\W.cell? ⟨mb,5,none⟩=some (.int .i64 n6)/\nb<W.heap.size/\w.heap.size<W.heap.size/\mb<W.heap.size/\s<W.heap.size):=H_ (fun W hW=>by
           have l3:mb<W6.heap.size:=zab eV;have l0:=o.size;have l1:nb<W6.heap.size:=(by omega);have l2:w.heap.size<W6.heap.size:=(by omega);have l4:s<W6.heap.size:=(by omega);have e0:=o.cell0 dC;have e1:=o.cell0 cv;have e2:=o.cell0 dF;have e3:=o.cell0 dG;have e4:=o.cell0 dH;have e5:=o.cell0 dI;have e6:=o.cell0 dJ;have e7:=o.cell0 dK;have e8:=o.cell0 dL;have e9:=o.cell0 dM;have gF:=o.cell0 cw;have gG:=o.cell0 cx;have gH:=o.cell0 cy;have em:=o.cell0 eJ;obtain ⟨f0,f1,f2,f3,f4,f5⟩:=cells6 eV
           exact ⟨hW.cell0 (e0),hW.cell0 (e1),hW.cell0 (e2),hW.cell0 (e3),hW.cell0 (e4),hW.cell0 (e5),hW.cell0 (e6),hW.cell0 (e7),hW.cell0 (e8),hW.cell0 (e9),hW.cell0 (gF),hW.cell0 (gG),hW.cell0 (gH),hW.cell0 em,hW.cell0 (f0),hW.cell0 (f1),hW.cell0 (f2),hW.cell0 (f3),hW.cell0 (f4),hW.cell0 (f5),Nat.lt_of_lt_of_le l1 hW.size,Nat.lt_of_lt_of_le l2 hW.size,Nat.lt_of_lt_of_le l3 hW.size,Nat.lt_of_lt_of_le l4 hW.size⟩)
          have ax:=H_ (dp.out.trans0 o);have dA:=H_ (aZ.out.fr0 hT o);have eE:Hid (MapS W6 ms (lastF D (i+1))):=H_ (MapS.fr (S:=No) cl.out o id);clear dC cv dF dG dH dI dJ dK dL dM cw cx cy eJ hq hw l o eV gT aZ dp cl fu
          have cC:EvOk D i ⟨kd,⟨d,L,M,c,N,O⟩,⟨q,B,F,G,I,J⟩⟩->∀ j x,j<i+1->D.events[j]?=some x->EvOk D j x:=fun he j x hj U=>by
           rcases Nat.lt_or_ge j i with h2 | h2
           · exact ah.out j x h2 U
           have e:j=i:=by omega
           subst e;rw [HX.out] at U;cases U
           exact he
          have cn:=H_ cC;clear cC;obtain ⟨r0,r1,r2,r3,r4,r5,r6,r7,r8,r9,hM,hN,hO,bm,j0,j1,j2,j3,j4,j5,hr,ha,hf,hs⟩:=Q.out W6 (Fr.refl No W6);have ab:=H_ (fun W (a b:Kv)=>zfc W ⟨kd,⟨d,L,M,c,N,O⟩,a⟩ b c);by_cases a0:D.mark<c
          · as_aux_lemma =>
             have hg:decide (c > D.mark)=true:=decide_eq_true a0;have cm:=H_ a0;have aj:=fun W=>zfc W ⟨kd,⟨d,L,M,c,N,O⟩,⟨q,B,F,G,I,J⟩⟩ ⟨n1,n2,n3,n4,n5,n6⟩ c;have cG:zfd ⟨kd,⟨d,L,M,c,N,O⟩,⟨q,B,F,G,I,J⟩⟩ ⟨n1,n2,n3,n4,n5,n6⟩ c=madeB ⟨kd,⟨d,L,M,c,N,O⟩,⟨q,B,F,G,I,J⟩⟩ ⟨n1,n2,n3,n4,n5,n6⟩ c:=zkz fy.out rfl;have gh:(⟨n1,n2,n3,n4,n5,n6⟩:Kv)=(hasL (foldTo D i) d).getD kv0:=(congrArg Prod.fst du.out).trans (zyp _);have dt:=H_ cG;have fF:=H_ gh;unfold evV kvV at aj;dsimp only at aj;clear cG gh ab;generalize fP:zfd ⟨kd,⟨d,L,M,c,N,O⟩,⟨q,B,F,G,I,J⟩⟩ ⟨n1,n2,n3,n4,n5,n6⟩ c=fb at *;have iI:=H_ fP;have dm:=H_ aj;clear aj a0 fP
             cases fb with
             | false =>
               have HN:Hid (¬ zbg D):=H_ (fun h=>by
                have h7:=(V.out h).md (fun e=>by have:=cm.out;dsimp only at e;omega);dsimp only at h7;rw [<-fF.out,<-dt.out] at h7;cases h7)
               go_wp2_with (go_at_call 67;refine (dm.out _).mono ?_;rintro e w7 ⟨rfl,m⟩)
               go_ret2
               exact MadeR.no HN.out (ap.out.trans0 (ax.out.trans0 m))
             | true =>
               have ay:EvOk D i ⟨kd,⟨d,L,M,c,N,O⟩,⟨q,B,F,G,I,J⟩⟩:=⟨by rw [bp.out];exact h1,by rw [aG.out];exact h2,by rw [aG.out];exact h3,fun j y hj hy hm=>fz.out j y hj hy hm,fun e=>by have:=cm.out;dsimp only at e;omega,fun _=>by
                dsimp only;rw [<-fF.out,<-dt.out]⟩
               have hd:=bR.out.fits (by omega) ah.out ay cm.out;have cN:=bR.out.size;have eK:DoOk 1000000 S ⟨kd,⟨d,L,M,c,N,O⟩,⟨q,B,F,G,I,J⟩⟩:=⟨by show 1<=c;omega,by show c<=top;unfold top;omega,fun H hH hg=>hd.1 hg H hH,fun _ _=>by omega,fun hk H hH _=>(hd.2 hk).2 H hH⟩;have cE:=bR.out.does (by omega) ah.out HX.out ay cm.out (by show c<=top;unfold top;omega);have iH:=H_ eK;have ez:=H_ cE;have bV:=H_ ay
               have Z:freshE D (i+1)=freshE D i:=by
                rw [ci.out,beq_eq_false_iff_ne.2 (show c≠D.mark from fun e=>by have:=cm.out;omega)]
                rfl
               have bW:=H_ Z;have de:=fun W (hW:Fr No W6 W)=>znw hT (n:=D.kvs.length+i) (by omega) W s S F3 (dA.out.fr0 hT hW) dy.out ⟨kd,⟨d,L,M,c,N,O⟩,⟨q,B,F,G,I,J⟩⟩ eK;unfold evV at de;dsimp only at de;have gv:=H_ de;clear eK hd cN cE ay Z de
               go_wp2_with (first
                | (go_at_call 67;refine (dm.out _).mono ?_;rintro e w7 ⟨rfl,m⟩;obtain ⟨t0,t1,t2,t3,t4,t5,t6,t7,t8,t9,bD,bE,bF,tm,i0,i1,i2,i3,i4,i5,bG,bH,bI,bJ⟩:=Q.out w7 m)
                | (go_at_call 68;refine (gv.out w7 m).mono ?_;rintro e w8 ⟨⟨v8,rfl⟩,F5,gf,f,g6⟩))
               have gE:=H_ gf;have fx:=H_ f;have gB:=H_ g6;have eB:=H_ m;clear gf f g6 m;go_roundg g
               case rel =>
                refine ⟨i+1,_,F5,by rw [bW.out],by rw [aT.out],by go_num,by omega,by rw [aT.out];omega,by rw [aT.out];go_num,H_ (cn.out bV.out),ez,gE,H_ (eE.out.fr (S:=F3) ((eB.out.mono fun _ _ h=>h.elim).trans fx.out fun _ _ h=>h) fun h=>(R.out _ h).2 rfl),H_ ((ax.out.trans0 eB.out).trans fx.out fun j hj h=>by have:=(R.out j h).1;omega),H_ fun b A=>?_⟩;have hl:=ax.out.size;have fW:=eB.out.size;have fY:=eE.out.lt;rcases gB.out b A with h | h
                · exact R.out b h
                exact ⟨by omega,by omega⟩
               case measure=>omega
          have hg:decide (c > D.mark)=false:=decide_eq_false a0
          have cb:c=D.mark:=(by have:=bp.out;omega);have d7:=H_ cb
          have dR:foldTo D i=D.kvs:=by
           unfold foldTo
           have:((D.events.take i).filter fun y=>decide (D.mark<y.kv.mod)) = []:=List.filter_eq_nil_iff.2 fun z hz=>by
            obtain ⟨j,hj⟩:=List.mem_iff_getElem?.1 hz;have fR:=(List.getElem?_eq_some_iff.1 hj).1;rw [List.length_take] at fR;rw [List.getElem?_take_of_lt (by omega)] at hj;have h7:=zni (by omega) ah.out j z (by omega) hj;rw [aG.out] at h7;simp;omega
           rw [this]
           rfl
          have g4:marksB ⟨kd,⟨d,L,M,c,N,O⟩,⟨q,B,F,G,I,J⟩⟩ (⟨n1,n2,n3,n4,n5,n6⟩,is) c=zih ⟨kd,⟨d,L,M,c,N,O⟩,⟨q,B,F,G,I,J⟩⟩ D.kvs D.mark:=by
           have h8:=zpm (D:=D) dx.out (x:=⟨kd,⟨d,L,M,c,N,O⟩,⟨q,B,F,G,I,J⟩⟩) fy.out cb;rw [show (⟨n1,n2,n3,n4,n5,n6⟩,is)=seen (hasL D.kvs d) from by rw [<-dR];exact du.out,cb];rw [<-cb];rw [<-cb] at h8;exact h8
          have fB:=H_ g4;have a8:Hid (marksB ⟨kd,⟨d,L,M,c,N,O⟩,⟨q,B,F,G,I,J⟩⟩ (⟨n1,n2,n3,n4,n5,n6⟩,is) c = !((!sameB ⟨q,B,F,G,I,J⟩ kv0&&(!keq q d || !mayB ⟨q,B,F,G,I,J⟩ (c-1)))||(!zfd ⟨kd,⟨d,L,M,c,N,O⟩,⟨q,B,F,G,I,J⟩⟩ ⟨q,B,F,G,I,J⟩ c||((kd==1) != is||(is && !sameB ⟨n1,n2,n3,n4,n5,n6⟩ ⟨d,L,M,c,N,O⟩))))):=H_ rfl;have f9:=cr.out.evs ⟨kd,⟨d,L,M,c,N,O⟩,⟨q,B,F,G,I,J⟩⟩ (List.mem_of_getElem? HX.out);have bv:=fun W=>zpl W ⟨q,B,F,G,I,J⟩ fc.2 (c-1) f9.2.2.1 f9.2.2.2;rw [ztb] at bv;have aj:=fun W=>zfc W ⟨kd,⟨d,L,M,c,N,O⟩,⟨q,B,F,G,I,J⟩⟩ ⟨q,B,F,G,I,J⟩ c;unfold evV kvV at aj;unfold kvV at bv;dsimp only at bv aj
          have ad:=H_ (fun W=>zov W ⟨q,B,F,G,I,J⟩ ⟨⟨#[]⟩,⟨#[]⟩,0,0,0,0⟩);have d8:=H_ (fun W=>zov W ⟨n1,n2,n3,n4,n5,n6⟩ ⟨d,L,M,c,N,O⟩);have g8:sameB ⟨q,B,F,G,I,J⟩ ⟨⟨#[]⟩,⟨#[]⟩,0,0,0,0⟩=sameB ⟨q,B,F,G,I,J⟩ kv0:=rfl;rw [g8] at ad;have jq:(q.toList==d.toList)=keq q d:=rfl;have js:IntKind.i64.wrap (c-1)=c-1:=IntWalk.i64_in _ ⟨by omega,by omega⟩;clear g8 g4 dR cb f9 ab a0;generalize marksB ⟨kd,⟨d,L,M,c,N,O⟩,⟨q,B,F,G,I,J⟩⟩ (⟨n1,n2,n3,n4,n5,n6⟩,is) c=hL at *;generalize sameB ⟨q,B,F,G,I,J⟩ kv0=a1 at *;generalize jb:keq q d=a2 at *;generalize mayB ⟨q,B,F,G,I,J⟩ (c-1)=a3 at *;generalize zfd ⟨kd,⟨d,L,M,c,N,O⟩,⟨q,B,F,G,I,J⟩⟩ ⟨q,B,F,G,I,J⟩ c=fl at *
          generalize gM:(kd==1)=k1 at *;generalize sameB ⟨n1,n2,n3,n4,n5,n6⟩ ⟨d,L,M,c,N,O⟩=qq at *;have iJ:=H_ gM;have bQ:=H_ bv;have ab:=H_ aj;clear bv aj;go_upto_region 30 with fail
          go_cut [199] (fun s199 wx=>∃ bt:Bool,s199=.bool bt/\Hid (bt = !hL)/\Hid (Fr No W6 wx))
          case first =>
           as_aux_lemma =>
            cases a1 with
            | false =>
              cases a2 with
              | false =>
                go_wp2_with (first
                 | (with_reducible show wpList _ _ _ ({ dst:=some 158,op:=_,type:=_,pos:=_,after:=_,guard:=_ } :: _) _ _;refine zaw .neq 99 _ _ _ rfl (by go_simp) (kvV ⟨q,B,F,G,I,J⟩) (kvV ⟨⟨#[]⟩,⟨#[]⟩,0,0,0,0⟩) _ (zav _ _ _ _ _) (ad.out _) (by unfold kvV;go_simp) (by unfold kvV;go_simp) ?_))
                go_meet
                case rel=>exact ⟨true,rfl,H_ (by rw [a8.out];simp),H_ (Fr.refl No W6)⟩
              | true =>
                cases a3 with
                | false =>
                  go_wp2_with (first
                   | (with_reducible show wpList _ _ _ ({ dst:=some 158,op:=_,type:=_,pos:=_,after:=_,guard:=_ } :: _) _ _;refine zaw .neq 99 _ _ _ rfl (by go_simp) (kvV ⟨q,B,F,G,I,J⟩) (kvV ⟨⟨#[]⟩,⟨#[]⟩,0,0,0,0⟩) _ (zav _ _ _ _ _) (ad.out _) (by unfold kvV;go_simp) (by unfold kvV;go_simp) ?_)
                   | (go_at_call 63;refine (bQ.out _).mono ?_;rintro e w7 ⟨rfl,m⟩;obtain ⟨t0,t1,t2,t3,t4,t5,t6,t7,t8,t9,bD,bE,bF,tm,i0,i1,i2,i3,i4,i5,bG,bH,bI,bJ⟩:=Q.out w7 m))
                  go_meet
                  case rel=>exact ⟨true,rfl,H_ (by rw [a8.out];simp),H_ (m)⟩
                | true =>
                  cases fl with
                  | false =>
                    go_wp2_with (first
                     | (with_reducible show wpList _ _ _ ({ dst:=some 158,op:=_,type:=_,pos:=_,after:=_,guard:=_ } :: _) _ _;refine zaw .neq 99 _ _ _ rfl (by go_simp) (kvV ⟨q,B,F,G,I,J⟩) (kvV ⟨⟨#[]⟩,⟨#[]⟩,0,0,0,0⟩) _ (zav _ _ _ _ _) (ad.out _) (by unfold kvV;go_simp) (by unfold kvV;go_simp) ?_)
                     | (go_at_call 63;refine (bQ.out _).mono ?_;rintro e w7 ⟨rfl,m⟩;obtain ⟨t0,t1,t2,t3,t4,t5,t6,t7,t8,t9,bD,bE,bF,tm,i0,i1,i2,i3,i4,i5,bG,bH,bI,bJ⟩:=Q.out w7 m)
                     | (go_at_call 67;refine (ab.out _).mono ?_;rintro e w8 ⟨rfl,f⟩;obtain ⟨x0,x1,x2,x3,x4,x5,x6,x7,x8,x9,am,an,ao,xm,y0,y1,y2,y3,y4,y5,aN,aO,aP,aQ⟩:=Q.out w8 (m.trans0 f)))
                    go_meet
                    case rel=>exact ⟨true,rfl,H_ (by rw [a8.out];simp),H_ (m.trans0 f)⟩
                  | true =>
                    cases k1 with
                    | false =>
                      cases is with
                      | false =>
                        go_wp2_with (first
                         | (with_reducible show wpList _ _ _ ({ dst:=some 158,op:=_,type:=_,pos:=_,after:=_,guard:=_ } :: _) _ _;refine zaw .neq 99 _ _ _ rfl (by go_simp) (kvV ⟨q,B,F,G,I,J⟩) (kvV ⟨⟨#[]⟩,⟨#[]⟩,0,0,0,0⟩) _ (zav _ _ _ _ _) (ad.out _) (by unfold kvV;go_simp) (by unfold kvV;go_simp) ?_)
                         | (go_at_call 63;refine (bQ.out _).mono ?_;rintro e w7 ⟨rfl,m⟩;obtain ⟨t0,t1,t2,t3,t4,t5,t6,t7,t8,t9,bD,bE,bF,tm,i0,i1,i2,i3,i4,i5,bG,bH,bI,bJ⟩:=Q.out w7 m)
                         | (go_at_call 67;refine (ab.out _).mono ?_;rintro e w8 ⟨rfl,f⟩;obtain ⟨x0,x1,x2,x3,x4,x5,x6,x7,x8,x9,am,an,ao,xm,y0,y1,y2,y3,y4,y5,aN,aO,aP,aQ⟩:=Q.out w8 (m.trans0 f)))
                        go_meet
                        case rel=>exact ⟨false,rfl,H_ (by rw [a8.out];simp),H_ (m.trans0 f)⟩
                      | true =>
                        go_wp2_with (first
                         | (with_reducible show wpList _ _ _ ({ dst:=some 158,op:=_,type:=_,pos:=_,after:=_,guard:=_ } :: _) _ _;refine zaw .neq 99 _ _ _ rfl (by go_simp) (kvV ⟨q,B,F,G,I,J⟩) (kvV ⟨⟨#[]⟩,⟨#[]⟩,0,0,0,0⟩) _ (zav _ _ _ _ _) (ad.out _) (by unfold kvV;go_simp) (by unfold kvV;go_simp) ?_)
                         | (go_at_call 63;refine (bQ.out _).mono ?_;rintro e w7 ⟨rfl,m⟩;obtain ⟨t0,t1,t2,t3,t4,t5,t6,t7,t8,t9,bD,bE,bF,tm,i0,i1,i2,i3,i4,i5,bG,bH,bI,bJ⟩:=Q.out w7 m)
                         | (go_at_call 67;refine (ab.out _).mono ?_;rintro e w8 ⟨rfl,f⟩;obtain ⟨x0,x1,x2,x3,x4,x5,x6,x7,x8,x9,am,an,ao,xm,y0,y1,y2,y3,y4,y5,aN,aO,aP,aQ⟩:=Q.out w8 (m.trans0 f)))
                        go_meet
                        case rel=>exact ⟨true,rfl,H_ (by rw [a8.out];simp),H_ (m.trans0 f)⟩
                    | true =>
                      cases is with
                      | false =>
                        go_wp2_with (first
                         | (with_reducible show wpList _ _ _ ({ dst:=some 158,op:=_,type:=_,pos:=_,after:=_,guard:=_ } :: _) _ _;refine zaw .neq 99 _ _ _ rfl (by go_simp) (kvV ⟨q,B,F,G,I,J⟩) (kvV ⟨⟨#[]⟩,⟨#[]⟩,0,0,0,0⟩) _ (zav _ _ _ _ _) (ad.out _) (by unfold kvV;go_simp) (by unfold kvV;go_simp) ?_)
                         | (go_at_call 63;refine (bQ.out _).mono ?_;rintro e w7 ⟨rfl,m⟩;obtain ⟨t0,t1,t2,t3,t4,t5,t6,t7,t8,t9,bD,bE,bF,tm,i0,i1,i2,i3,i4,i5,bG,bH,bI,bJ⟩:=Q.out w7 m)
                         | (go_at_call 67;refine (ab.out _).mono ?_;rintro e w8 ⟨rfl,f⟩;obtain ⟨x0,x1,x2,x3,x4,x5,x6,x7,x8,x9,am,an,ao,xm,y0,y1,y2,y3,y4,y5,aN,aO,aP,aQ⟩:=Q.out w8 (m.trans0 f)))
                        go_meet
                        case rel=>exact ⟨true,rfl,H_ (by rw [a8.out];simp),H_ (m.trans0 f)⟩
                      | true =>
                        cases qq with
                        | false =>
                          go_wp2_with (first
                           | (with_reducible show wpList _ _ _ ({ dst:=some 158,op:=_,type:=_,pos:=_,after:=_,guard:=_ } :: _) _ _;refine zaw .neq 99 _ _ _ rfl (by go_simp) (kvV ⟨q,B,F,G,I,J⟩) (kvV ⟨⟨#[]⟩,⟨#[]⟩,0,0,0,0⟩) _ (zav _ _ _ _ _) (ad.out _) (by unfold kvV;go_simp) (by unfold kvV;go_simp) ?_)
                           | (go_at_call 63;refine (bQ.out _).mono ?_;rintro e w7 ⟨rfl,m⟩;obtain ⟨t0,t1,t2,t3,t4,t5,t6,t7,t8,t9,bD,bE,bF,tm,i0,i1,i2,i3,i4,i5,bG,bH,bI,bJ⟩:=Q.out w7 m)
                           | (go_at_call 67;refine (ab.out _).mono ?_;rintro e w8 ⟨rfl,f⟩;obtain ⟨x0,x1,x2,x3,x4,x5,x6,x7,x8,x9,am,an,ao,xm,y0,y1,y2,y3,y4,y5,aN,aO,aP,aQ⟩:=Q.out w8 (m.trans0 f))
                           | (with_reducible show wpList _ _ _ ({ dst:=some 197,op:=_,type:=_,pos:=_,after:=_,guard:=_ } :: _) _ _;refine zaw .neq 99 _ _ _ rfl (by go_simp) (kvV ⟨n1,n2,n3,n4,n5,n6⟩) (kvV ⟨d,L,M,c,N,O⟩) _ (zav _ _ _ _ _) (d8.out _) (by unfold kvV;go_simp) (by unfold kvV;go_simp) ?_))
                          go_meet
                          case rel=>exact ⟨true,rfl,H_ (by rw [a8.out];simp),H_ (m.trans0 f)⟩
                        | true =>
                          go_wp2_with (first
                           | (with_reducible show wpList _ _ _ ({ dst:=some 158,op:=_,type:=_,pos:=_,after:=_,guard:=_ } :: _) _ _;refine zaw .neq 99 _ _ _ rfl (by go_simp) (kvV ⟨q,B,F,G,I,J⟩) (kvV ⟨⟨#[]⟩,⟨#[]⟩,0,0,0,0⟩) _ (zav _ _ _ _ _) (ad.out _) (by unfold kvV;go_simp) (by unfold kvV;go_simp) ?_)
                           | (go_at_call 63;refine (bQ.out _).mono ?_;rintro e w7 ⟨rfl,m⟩;obtain ⟨t0,t1,t2,t3,t4,t5,t6,t7,t8,t9,bD,bE,bF,tm,i0,i1,i2,i3,i4,i5,bG,bH,bI,bJ⟩:=Q.out w7 m)
                           | (go_at_call 67;refine (ab.out _).mono ?_;rintro e w8 ⟨rfl,f⟩;obtain ⟨x0,x1,x2,x3,x4,x5,x6,x7,x8,x9,am,an,ao,xm,y0,y1,y2,y3,y4,y5,aN,aO,aP,aQ⟩:=Q.out w8 (m.trans0 f))
                           | (with_reducible show wpList _ _ _ ({ dst:=some 197,op:=_,type:=_,pos:=_,after:=_,guard:=_ } :: _) _ _;refine zaw .neq 99 _ _ _ rfl (by go_simp) (kvV ⟨n1,n2,n3,n4,n5,n6⟩) (kvV ⟨d,L,M,c,N,O⟩) _ (zav _ _ _ _ _) (d8.out _) (by unfold kvV;go_simp) (by unfold kvV;go_simp) ?_))
                          go_meet
                          case rel=>exact ⟨false,rfl,H_ (by rw [a8.out];simp),H_ (m.trans0 f)⟩
            | true =>
              cases fl with
              | false =>
                go_wp2_with (first
                 | (with_reducible show wpList _ _ _ ({ dst:=some 158,op:=_,type:=_,pos:=_,after:=_,guard:=_ } :: _) _ _;refine zaw .neq 99 _ _ _ rfl (by go_simp) (kvV ⟨q,B,F,G,I,J⟩) (kvV ⟨⟨#[]⟩,⟨#[]⟩,0,0,0,0⟩) _ (zav _ _ _ _ _) (ad.out _) (by unfold kvV;go_simp) (by unfold kvV;go_simp) ?_)
                 | (go_at_call 67;refine (ab.out _).mono ?_;rintro e w8 ⟨rfl,f⟩;obtain ⟨x0,x1,x2,x3,x4,x5,x6,x7,x8,x9,am,an,ao,xm,y0,y1,y2,y3,y4,y5,aN,aO,aP,aQ⟩:=Q.out w8 f))
                go_meet
                case rel=>exact ⟨true,rfl,H_ (by rw [a8.out];simp),H_ (f)⟩
              | true =>
                cases k1 with
                | false =>
                  cases is with
                  | false =>
                    go_wp2_with (first
                     | (with_reducible show wpList _ _ _ ({ dst:=some 158,op:=_,type:=_,pos:=_,after:=_,guard:=_ } :: _) _ _;refine zaw .neq 99 _ _ _ rfl (by go_simp) (kvV ⟨q,B,F,G,I,J⟩) (kvV ⟨⟨#[]⟩,⟨#[]⟩,0,0,0,0⟩) _ (zav _ _ _ _ _) (ad.out _) (by unfold kvV;go_simp) (by unfold kvV;go_simp) ?_)
                     | (go_at_call 67;refine (ab.out _).mono ?_;rintro e w8 ⟨rfl,f⟩;obtain ⟨x0,x1,x2,x3,x4,x5,x6,x7,x8,x9,am,an,ao,xm,y0,y1,y2,y3,y4,y5,aN,aO,aP,aQ⟩:=Q.out w8 f))
                    go_meet
                    case rel=>exact ⟨false,rfl,H_ (by rw [a8.out];simp),H_ (f)⟩
                  | true =>
                    go_wp2_with (first
                     | (with_reducible show wpList _ _ _ ({ dst:=some 158,op:=_,type:=_,pos:=_,after:=_,guard:=_ } :: _) _ _;refine zaw .neq 99 _ _ _ rfl (by go_simp) (kvV ⟨q,B,F,G,I,J⟩) (kvV ⟨⟨#[]⟩,⟨#[]⟩,0,0,0,0⟩) _ (zav _ _ _ _ _) (ad.out _) (by unfold kvV;go_simp) (by unfold kvV;go_simp) ?_)
                     | (go_at_call 67;refine (ab.out _).mono ?_;rintro e w8 ⟨rfl,f⟩;obtain ⟨x0,x1,x2,x3,x4,x5,x6,x7,x8,x9,am,an,ao,xm,y0,y1,y2,y3,y4,y5,aN,aO,aP,aQ⟩:=Q.out w8 f))
                    go_meet
                    case rel=>exact ⟨true,rfl,H_ (by rw [a8.out];simp),H_ (f)⟩
                | true =>
                  cases is with
                  | false =>
                    go_wp2_with (first
                     | (with_reducible show wpList _ _ _ ({ dst:=some 158,op:=_,type:=_,pos:=_,after:=_,guard:=_ } :: _) _ _;refine zaw .neq 99 _ _ _ rfl (by go_simp) (kvV ⟨q,B,F,G,I,J⟩) (kvV ⟨⟨#[]⟩,⟨#[]⟩,0,0,0,0⟩) _ (zav _ _ _ _ _) (ad.out _) (by unfold kvV;go_simp) (by unfold kvV;go_simp) ?_)
                     | (go_at_call 67;refine (ab.out _).mono ?_;rintro e w8 ⟨rfl,f⟩;obtain ⟨x0,x1,x2,x3,x4,x5,x6,x7,x8,x9,am,an,ao,xm,y0,y1,y2,y3,y4,y5,aN,aO,aP,aQ⟩:=Q.out w8 f))
                    go_meet
                    case rel=>exact ⟨true,rfl,H_ (by rw [a8.out];simp),H_ (f)⟩
                  | true =>
                    cases qq with
                    | false =>
                      go_wp2_with (first
                       | (with_reducible show wpList _ _ _ ({ dst:=some 158,op:=_,type:=_,pos:=_,after:=_,guard:=_ } :: _) _ _;refine zaw .neq 99 _ _ _ rfl (by go_simp) (kvV ⟨q,B,F,G,I,J⟩) (kvV ⟨⟨#[]⟩,⟨#[]⟩,0,0,0,0⟩) _ (zav _ _ _ _ _) (ad.out _) (by unfold kvV;go_simp) (by unfold kvV;go_simp) ?_)
                       | (go_at_call 67;refine (ab.out _).mono ?_;rintro e w8 ⟨rfl,f⟩;obtain ⟨x0,x1,x2,x3,x4,x5,x6,x7,x8,x9,am,an,ao,xm,y0,y1,y2,y3,y4,y5,aN,aO,aP,aQ⟩:=Q.out w8 f)
                       | (with_reducible show wpList _ _ _ ({ dst:=some 197,op:=_,type:=_,pos:=_,after:=_,guard:=_ } :: _) _ _;refine zaw .neq 99 _ _ _ rfl (by go_simp) (kvV ⟨n1,n2,n3,n4,n5,n6⟩) (kvV ⟨d,L,M,c,N,O⟩) _ (zav _ _ _ _ _) (d8.out _) (by unfold kvV;go_simp) (by unfold kvV;go_simp) ?_))
                      go_meet
                      case rel=>exact ⟨true,rfl,H_ (by rw [a8.out];simp),H_ (f)⟩
                    | true =>
                      go_wp2_with (first
                       | (with_reducible show wpList _ _ _ ({ dst:=some 158,op:=_,type:=_,pos:=_,after:=_,guard:=_ } :: _) _ _;refine zaw .neq 99 _ _ _ rfl (by go_simp) (kvV ⟨q,B,F,G,I,J⟩) (kvV ⟨⟨#[]⟩,⟨#[]⟩,0,0,0,0⟩) _ (zav _ _ _ _ _) (ad.out _) (by unfold kvV;go_simp) (by unfold kvV;go_simp) ?_)
                       | (go_at_call 67;refine (ab.out _).mono ?_;rintro e w8 ⟨rfl,f⟩;obtain ⟨x0,x1,x2,x3,x4,x5,x6,x7,x8,x9,am,an,ao,xm,y0,y1,y2,y3,y4,y5,aN,aO,aP,aQ⟩:=Q.out w8 f)
                       | (with_reducible show wpList _ _ _ ({ dst:=some 197,op:=_,type:=_,pos:=_,after:=_,guard:=_ } :: _) _ _;refine zaw .neq 99 _ _ _ rfl (by go_simp) (kvV ⟨n1,n2,n3,n4,n5,n6⟩) (kvV ⟨d,L,M,c,N,O⟩) _ (zav _ _ _ _ _) (d8.out _) (by unfold kvV;go_simp) (by unfold kvV;go_simp) ?_))
                      go_meet
                      case rel=>exact ⟨false,rfl,H_ (by rw [a8.out];simp),H_ (f)⟩
          case rest =>
           obtain ⟨bt,rfl,ex,bq⟩:=hcut;obtain ⟨t0,t1,t2,t3,t4,t5,t6,t7,t8,t9,bD,bE,bF,tm,i0,i1,i2,i3,i4,i5,bG,bH,bI,bJ⟩:=Q.out wc bq.out;clear r0 r1 r2 r3 r4 r5 r6 r7 r8 r9 hM hN hO bm j0 j1 j2 j3 j4 j5 hr ha hf hs
           cases hL with
           | false =>
             have eN:bt=true:=ex.out;subst eN
             have HN:Hid (¬ zbg D):=H_ (fun h=>by
              have h7:=(V.out h).mkd d7.out;rw [<-fB.out] at h7;cases h7)
             go_wp2
             go_ret2
             exact MadeR.no HN.out (ap.out.trans0 (ax.out.trans0 bq.out))
           | true =>
             have eN:bt=false:=ex.out;subst eN
             have fU:k1=is:=by
              have h7:=a8.out;cases k1 <;> cases is
              · rfl
              · cases a1 <;> cases a2 <;> cases a3 <;> cases fl <;> cases h7
              · cases a1 <;> cases a2 <;> cases a3 <;> cases fl <;> cases h7
              rfl
             have ay:EvOk D i ⟨kd,⟨d,L,M,c,N,O⟩,⟨q,B,F,G,I,J⟩⟩:=⟨by rw [bp.out];exact h1,by rw [aG.out];exact h2,by rw [aG.out];exact h3,fun j y hj hy hm=>fz.out j y hj hy hm,fun _=>fB.out.symm,fun e=>absurd d7.out e⟩;have dW:=bR.out.marked HX.out ay d7.out;have bV:=H_ ay;have dv:=H_ dW
             have Z:freshE D (i+1)=freshE D i+(if is=true then 1 else 0):=by
              rw [ci.out,d7.out,beq_self_eq_true,Bool.true_and];rw [fU]
             have bW:=H_ Z;clear ay dW Z fU ex a8;obtain ⟨t,p,iY,hp,FT,FH,a,fJ⟩:=dA.out.fr0 hT bq.out;obtain ⟨sa,aa,rfl,jd,je,gP⟩:=a.events.shape;have HA:=H_ a;have ag:=H_ fJ;have c5:=a.obj.cell 5 rfl;have f5:=a.obj.free 5;have ls:=a.obj.lt;have i8:=dy.out.ev;have d5:=H_ (MapS.fr (S:=No) eE.out bq.out id);clear a fJ gP
             cases is with
             | false =>
               have Z:freshE D (i+1)=freshE D i:=bW.out;have cj:=H_ Z;clear Z;go_wp2_with fail;obtain ⟨i0,eS,fd,ff,fg⟩:=info_parts info73;have cL:=zbb wc.drew [.int .i64 kd,.string d,.string L,.int .i64 M,.int .i64 c,.int .i64 N,.int .i64 O,.string q,.string B,.int .i64 F,.int .i64 G,.int .i64 I,.int .i64 J] 101 (0,0);have bg:(Value.slice sa S.events.length aa).ownBlock≠some s:=HA.out.ds.2.1;have fO:=HA.out.events.lt
               go_region_law (refine zck rfl _ _ 28 rfl 101 i0 _ 13 136 Tryz.underlying28 eS fd ff fg rfl (by decide) _ S.events rfl (HA.out.events.fr0 ((Fr.refl No wc).drew.alloc _)) wc.heap.size 1 ⟨kd,⟨d,L,M,c,N,O⟩,⟨q,B,F,G,I,J⟩⟩ rfl cL rfl (by intro u hu;simp [evC,kvC] at hu;rcases hu with rfl | rfl | rfl | rfl | rfl | rfl | rfl | rfl | rfl | rfl | rfl | rfl | rfl <;> rfl) (by unfold maxLen;omega) (by omega) ?_;intro g1 o' cap cR bB bz bw eZ;have ak:Fr (fun k=>(Value.slice sa S.events.length aa).ownBlock=some k) wc cR:=((Fr.refl _ wc).drew.alloc _).grown bz (fun k hk=>.inl hk);have e5:=ak.cell c5 bg;have ef:=ak.free c5 f5 bg;have cq:=H_ bB;have cf:=H_ bw;have bo:=H_ ak;clear bB bz bw ak)
               all_goals
                have aq:g1≠s/\((Value.slice sa S.events.length aa).ownBlock=some g1\/wc.heap.size<=g1):=by
                 rcases cf.out with h | h
                 · exact ⟨fun e=>bg (e▸h),.inl h⟩
                 have h':g1=wc.heap.size+1:=by simpa using h
                 exact ⟨by omega,.inr (by omega)⟩
                have eC:=H_ aq;clear aq;go_wp2;go_roundg g
                case rel =>
                 have aq:=eC.out
                 have bT:Fr (fun b=>b=s\/(Value.slice sa S.events.length aa).ownBlock=some b) wc (cR.setCell ⟨s,5,none⟩ (.slice (some ⟨g1,o',none⟩) (S.events.length+1) cap)) :=
                  (bo.out.mono fun _ _ h=>.inr h).setCell (p:=⟨s,5,none⟩) (.inl (.inl rfl)) _
                 have ho:=(HA.out.obj.fr bo.out bg).set 5 (.slice (some ⟨g1,o',none⟩) (S.events.length+1) cap);have he:=cq.out.other ⟨s,5,none⟩ (.slice (some ⟨g1,o',none⟩) (S.events.length+1) cap) (by simp [Value.ownBlock];exact aq.1)
                 have cF:=HA.out.setEvents hT bT ho he (fun b A=>by
                  obtain rfl:g1=b:=by simpa [Value.ownBlock] using A
                  exact aq.2)
                 have cH:∀ b,(b=s\/(Value.slice sa S.events.length aa).ownBlock=some b)->F3 b:=fun b A=>(ag.out b).2 (by
                  rcases A with e | e
                  · exact .inl e
                  exact .inr (.inr (.inr (.inl e))))
                 have hl:=ax.out.size;have fW:=bq.out.size;have fY:=d5.out.lt;refine ⟨i+1,_,_,by rw [cj.out],by rw [aT.out],by go_num,by omega,by rw [aT.out];omega,by rw [aT.out];go_num,H_ (cn.out bV.out),dv,H_ ⟨t,p,_,hp,FT,FH,cF,fun _=>Iff.rfl⟩,H_ (d5.out.fr bT fun e=>(R.out _ (cH _ e)).2 rfl),H_ ((ax.out.trans0 bq.out).trans bT fun j hj h=>by have:=(R.out j (cH j h)).1;omega),H_ fun b A=>?_⟩;have aM:∀ b,F3 b->W1.heap.size<=b/\b≠ms:=R.out;rcases A with e | e | e | e | e
                 · exact aM b ((ag.out b).2 (.inl e))
                 · exact aM b ((ag.out b).2 (.inr (.inl e)))
                 · exact aM b ((ag.out b).2 (.inr (.inr (.inl e))))
                 · obtain rfl:g1=b:=by simpa [Value.ownBlock] using e
                   rcases aq.2 with h | h
                   · exact aM _ ((ag.out _).2 (.inr (.inr (.inr (.inl h)))))
                   exact ⟨by omega,by omega⟩
                 exact aM b ((ag.out b).2 (.inr (.inr (.inr (.inr e)))))
                case measure=>omega
             | true =>
               have Z:freshE D (i+1)=freshE D i+1:=bW.out;have cj:=H_ Z;clear Z;go_wp2_with fail;obtain ⟨i0,eS,fd,ff,fg⟩:=info_parts info73;have cL:=zbb wc.drew [.int .i64 kd,.string d,.string L,.int .i64 M,.int .i64 c,.int .i64 N,.int .i64 O,.string q,.string B,.int .i64 F,.int .i64 G,.int .i64 I,.int .i64 J] 101 (0,0);have bg:(Value.slice sa S.events.length aa).ownBlock≠some s:=HA.out.ds.2.1;have fO:=HA.out.events.lt
               go_region_law (refine zck rfl _ _ 28 rfl 101 i0 _ 13 136 Tryz.underlying28 eS fd ff fg rfl (by decide) _ S.events rfl (HA.out.events.fr0 ((Fr.refl No wc).drew.alloc _)) wc.heap.size 1 ⟨kd,⟨d,L,M,c,N,O⟩,⟨q,B,F,G,I,J⟩⟩ rfl cL rfl (by intro u hu;simp [evC,kvC] at hu;rcases hu with rfl | rfl | rfl | rfl | rfl | rfl | rfl | rfl | rfl | rfl | rfl | rfl | rfl <;> rfl) (by unfold maxLen;omega) (by omega) ?_;intro g1 o' cap cR bB bz bw eZ;have ak:Fr (fun k=>(Value.slice sa S.events.length aa).ownBlock=some k) wc cR:=((Fr.refl _ wc).drew.alloc _).grown bz (fun k hk=>.inl hk);have e5:=ak.cell c5 bg;have ef:=ak.free c5 f5 bg;have cq:=H_ bB;have cf:=H_ bw;have bo:=H_ ak;clear bB bz bw ak)
               all_goals
                have aq:g1≠s/\((Value.slice sa S.events.length aa).ownBlock=some g1\/wc.heap.size<=g1):=by
                 rcases cf.out with h | h
                 · exact ⟨fun e=>bg (e▸h),.inl h⟩
                 have h':g1=wc.heap.size+1:=by simpa using h
                 exact ⟨by omega,.inr (by omega)⟩
                have eC:=H_ aq;clear aq;go_wp2;go_roundg g
                case rel =>
                 have aq:=eC.out
                 have bT:Fr (fun b=>b=s\/(Value.slice sa S.events.length aa).ownBlock=some b) wc (cR.setCell ⟨s,5,none⟩ (.slice (some ⟨g1,o',none⟩) (S.events.length+1) cap)) :=
                  (bo.out.mono fun _ _ h=>.inr h).setCell (p:=⟨s,5,none⟩) (.inl (.inl rfl)) _
                 have ho:=(HA.out.obj.fr bo.out bg).set 5 (.slice (some ⟨g1,o',none⟩) (S.events.length+1) cap);have he:=cq.out.other ⟨s,5,none⟩ (.slice (some ⟨g1,o',none⟩) (S.events.length+1) cap) (by simp [Value.ownBlock];exact aq.1)
                 have cF:=HA.out.setEvents hT bT ho he (fun b A=>by
                  obtain rfl:g1=b:=by simpa [Value.ownBlock] using A
                  exact aq.2)
                 have cH:∀ b,(b=s\/(Value.slice sa S.events.length aa).ownBlock=some b)->F3 b:=fun b A=>(ag.out b).2 (by
                  rcases A with e | e
                  · exact .inl e
                  exact .inr (.inr (.inr (.inl e))))
                 have hl:=ax.out.size;have fW:=bq.out.size;have fY:=d5.out.lt;refine ⟨i+1,_,_,by rw [cj.out];go_num,by rw [aT.out],by go_num,by omega,by rw [aT.out];omega,by rw [aT.out];go_num,H_ (cn.out bV.out),dv,H_ ⟨t,p,_,hp,FT,FH,cF,fun _=>Iff.rfl⟩,H_ (d5.out.fr bT fun e=>(R.out _ (cH _ e)).2 rfl),H_ ((ax.out.trans0 bq.out).trans bT fun j hj h=>by have:=(R.out j (cH j h)).1;omega),H_ fun b A=>?_⟩;have aM:∀ b,F3 b->W1.heap.size<=b/\b≠ms:=R.out;rcases A with e | e | e | e | e
                 · exact aM b ((ag.out b).2 (.inl e))
                 · exact aM b ((ag.out b).2 (.inr (.inl e)))
                 · exact aM b ((ag.out b).2 (.inr (.inr (.inl e))))
                 · obtain rfl:g1=b:=by simpa [Value.ownBlock] using e
                   rcases aq.2 with h | h
                   · exact aM _ ((ag.out _).2 (.inr (.inr (.inr (.inl h)))))
                   exact ⟨by omega,by omega⟩
                 exact aM b ((ag.out b).2 (.inr (.inr (.inr (.inr e)))))
                case measure=>omega
end Go.Proofs.YthljnnjpmdgkoaaGreat
