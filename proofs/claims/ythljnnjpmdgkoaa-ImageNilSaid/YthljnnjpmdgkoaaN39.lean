/- The store's Made: a store is made of a state just if it is right, and then it has it. The conditions: keys are not too long, there are fewer than a million of them and of events, numbers are Go's. -/
import Derived.Test.YthljnnjpmdgkoaaN35
import Derived.Test.YthljnnjpmdgkoaaN36
import Derived.Test.YthljnnjpmdgkoaaN37
import Derived.Test.YthljnnjpmdgkoaaN38
import Derived.Test.YthljnnjpmdgkoaaN31
import Derived.Test.YthljnnjpmdgkoaaN22
import Derived.Test.YthljnnjpmdgkoaaN30
import Derived.Deep.DeepCutAuto
import Derived.BigRegion
import Derived.WalkLawsBesides
namespace Go.Proofs.Ythljnnjpmdgkoaa
open Go Go.Proofs Go.RowKit
set_option maxRecDepth 100000
theorem Calls.clsM {P:Program} {f:FuncId} {args:Array Value} {B W:World} {v:Value} (h:Calls P f args W fun e w'=>e = .returned v/\Fr No W w') (hW:Fr No B W):Calls P f args W fun e w'=>e = .returned v/\Fr No B w':=h.mono fun _ _ h=>⟨h.1,hW.trans0 h.2⟩
theorem zeroI (w:World):(zeroValue 3).run Try.prog w = .ok (.int .i64 0) w:=by kernel_rfl
theorem zny {D:Doc} {i:Nat} {x:Ev} (h:EvOk D i x):keyE x.kv.key=0:=by
 by_cases hm:x.kv.mod=D.mark
 · have h1:=h.mkd hm
   unfold zfq at h1
   split at h1
   · cases h1
   rename_i hn
   simp only [not_or,Bool.not_eq_false] at hn;exact (zee hn.2).2.1
 exact (zee (h.md hm)).2.1
theorem zrv (o:Option Kv):(seen o).1=o.getD kv0:=by cases o <;> rfl
def lastF (D:Doc) (i:Nat) (k:ByteArray):Option Value:=(lastAt D i k).map (Value.int .i64)
set_option maxHeartbeats 64000000 in
theorem zoq {TA:zan} (hT:TreeOk TA 1000000) (w:World) (D:Doc) (vk ve:Value) (hD:DocR w D vk ve) (hsm:DocN64 D) (hbig:D.mark<=D.rev->D.rev<=1099511627776->D.mark<=1099510000000) :
 Calls Try.prog 63 #[docV D vk ve] w (MadeR TA D w):=by
 obtain ⟨ka,kcap,rfl,hk1,hk2,hk3⟩:=hD.kvs.shape;obtain ⟨ea,ecap,rfl,he1,he2,he3⟩:=hD.evs.shape;have hlen:=hsm.len;have hb1:=zac w (Obj.cells #[.int .i64 D.rev,.int .i64 D.mark,.slice ka D.kvs.length kcap,.slice ea D.events.length ecap] 69) _ rfl;have hf1:Fr No w (w.alloc (Obj.cells #[.int .i64 D.rev,.int .i64 D.mark,.slice ka D.kvs.length kcap,.slice ea D.events.length ecap] 69)):=(Fr.refl No w).alloc _;have HD:=H_ (hD.fr0 hf1);have HSM:=H_ hsm;have HK3:=H_ hk3;have HE3:=H_ he3;have HB1:=H_ hb1;have HF1:=H_ hf1;clear hD hsm hk3 he3 hb1 hf1;unfold docV;by_cases hm0:D.mark < 0
 · have hm0':decide (D.mark < 0)=true:=decide_eq_true hm0
   have HN:Hid (¬ zar D):=H_ (fun h=>by have:=h.m0;omega);clear hm0;go_enter Try.func63,Try.ntmps63;go_wp2
   go_ret2
   exact MadeR.no HN.out HF1.out
 have hm0':decide (D.mark < 0)=false:=decide_eq_false hm0;by_cases hm1:D.rev < D.mark
 · have hm1':decide (D.mark > D.rev)=true:=decide_eq_true hm1
   have HN:Hid (¬ zar D):=H_ (fun h=>by have:=h.mr;omega);clear hm1;go_enter Try.func63,Try.ntmps63;go_wp2
   go_ret2
   exact MadeR.no HN.out HF1.out
 have hm1':decide (D.mark > D.rev)=false:=decide_eq_false hm1;by_cases hm2:1099511627776 < D.rev
 · have hm2':decide (D.rev > 1099511627776)=true:=decide_eq_true hm2
   have HN:Hid (¬ zar D):=H_ (fun h=>by have:=h.top;omega);clear hm2;go_enter Try.func63,Try.ntmps63;go_wp2
   go_ret2
   exact MadeR.no HN.out HF1.out
 have hm2':decide (D.rev > 1099511627776)=false:=decide_eq_false hm2;have hbg:=hbig (by omega) (by omega);clear hbig;go_enter Try.func63,Try.ntmps63;go_upto_region 3 with fail;generalize w.alloc (Obj.cells #[.int .i64 D.rev,.int .i64 D.mark,.slice ka D.kvs.length kcap,.slice ea D.events.length ecap] 69)=W1 at *;have hws:w.heap.size < W1.heap.size:=zab HB1.out;go_upto_region 4 with (go_at_call 31;refine (zcu hT _).mono ?_;rintro e w2 ⟨s,rfl,F0,hs0,hf2,hn0⟩);have HWF1:=H_ HF1.out.size;have hb:=hf2.heap HB1.out id;have lb:=zab hb;obtain ⟨b0,b1,b2,b3⟩:=cells4 hb
 have HST2:Hid (∃ F1,zaj TA (((w2.setCell ⟨s,4,none⟩ (.int .i64 D.mark)).setCell ⟨s,3,none⟩ (.int .i64 D.rev)).drew) s (emptyS D) F1/\Fr No W1 (((w2.setCell ⟨s,4,none⟩ (.int .i64 D.mark)).setCell ⟨s,3,none⟩ (.int .i64 D.rev)).drew)/\∀ b,F1 b->W1.heap.size<=b):=by
  obtain ⟨t,p,ev,hp,FT,FH,a,hF⟩:=hs0;have hn:∀ b,storeF s p ev FT FH b->W1.heap.size<=b:=fun b hb=>hn0 b ((hF b).2 hb);have h1:Fr (fun b=>b=s) w2 (((w2.setCell ⟨s,4,none⟩ (.int .i64 D.mark)).setCell ⟨s,3,none⟩ (.int .i64 D.rev)).drew):=(((Fr.refl _ w2).setAt 4 _).setAt 3 _).drew
  exact H_ ⟨_,⟨t,p,ev,hp,FT,FH,a.setObj hT h1 0 D.rev D.mark ((a.obj.set 4 (.int .i64 D.mark)).set 3 (.int .i64 D.rev)),fun _=>Iff.rfl⟩,hf2.trans h1 fun j hj h=>(by
   have h':j=s:=h;have:=hn s (.inl rfl);omega),hn⟩
 obtain ⟨hls,hsn,hfz⟩:s < w2.heap.size/\W1.heap.size<=s/\∀ j,w2.frozen? ⟨s,j,none⟩=false:=by
  obtain ⟨t,p,ev,hp,FT,FH,a,hF⟩:=hs0;exact ⟨a.obj.lt,hn0 s ((hF s).2 (.inl rfl)),fun j=>a.obj.free j⟩
 obtain ⟨c30,c31,hc3⟩:∃ u v,w2.cell? ⟨s,3,none⟩=some u/\w2.cell? ⟨s,4,none⟩=some v:=by
  obtain ⟨t,p,ev,hp,FT,FH,a,hF⟩:=hs0;exact ⟨_,_,a.obj.cell 3 rfl,a.obj.cell 4 rfl⟩
 obtain ⟨hc3,hc4⟩:=hc3;have hz3:=hfz 3;have hz4:=hfz 4;clear hs0 hn0 hfz
 go_region
 generalize ((w2.setCell ⟨s,4,none⟩ (.int .i64 D.mark)).setCell ⟨s,3,none⟩ (.int .i64 D.rev)).drew=W3 at *;obtain ⟨F1,hs1,hf3,hn1⟩:=HST2.out;have hb3:=hf3.heap HB1.out id;have lb3:=zab hb3;have HS1:=H_ hs1;have HF3:=H_ hf3;have HN1:=H_ hn1;clear hb HST2 hs1 hf3 hn1 hc3 hc4 hz3 hz4 b0 b1 b2 b3 hf2 hls lb;obtain ⟨b0,b1,b2,b3⟩:=cells4 hb3;clear hb3;go_wp2_with fail
 go_loopg [5,44] D.kvs.length (fun g s5 s44 wr=>∃ (i:Nat) (F1:Nat->Prop),s5 = .int .i64 (freshK D i:Int)/\s44 = .int .i64 i/\i+g=D.kvs.length/\Hid (∀ j k,j < i->D.kvs[j]? = some k->KvOk D j k)/\Hid (BegI D i (begS D i))/\Hid (zaj TA wr s (begS D i) F1)/\Hid (Fr No W1 wr)/\Hid (∀ b,F1 b->W1.heap.size<=b))
 case atStart=>exact ⟨0,F1,rfl,rfl,by simp,H_ (fun j k h=>absurd h (Nat.not_lt_zero _)),H_ (BegI.zero D (by omega) (by unfold top;omega) (by unfold top;omega)),HS1,HF3,HN1⟩
 case round =>
  clear b0 b1 b2 b3 lb3;obtain ⟨i,F2,rfl,rfl,hi,HOK,HBI,HST,HF,HNF⟩:=hrel;have hfk:=zrc D i;have hb:=HF.out.heap HB1.out id;have lb:=zab hb;obtain ⟨b0,b1,b2,b3⟩:=cells4 hb
  cases gk with
  | succ g =>
    as_aux_lemma =>
     have hil:(i:Int) < (D.kvs.length:Int):=(by omega);obtain ⟨x,hx⟩:∃ x,D.kvs[i]? = some x:=⟨_,List.getElem?_eq_getElem (by omega)⟩;obtain ⟨ga,go,rfl⟩:=HK3.out (by omega);have hh:=HD.out.kvs.fr0 HF.out;have x0:=hh.cell0 zag i hx rfl;have x1:=hh.cell zag i 1 hx rfl;have x2:=hh.cell zag i 2 hx rfl;have x3:=hh.cell zag i 3 hx rfl;have x4:=hh.cell zag i 4 hx rfl;have x5:=hh.cell zag i 5 hx rfl;have lx:=World.block_lt_of_cell? _ _ x0;have hsk:=HSM.out.keys x (List.mem_of_getElem? hx);have hsn:=HSM.out.kvs x (List.mem_of_getElem? hx);have HX:=H_ hx;obtain ⟨p1,p2,p3,p4,p5,p6⟩:=x;dsimp only at x0 x1 x2 x3 x4 x5 hsk hsn;have hC:=fun (W:World)=>zky W ⟨p1,p2,p3,p4,p5,p6⟩ hsk D.mark hsn.1 hsn.2;rw [znm] at hC;unfold kvV at hC;have HC0:=H_ hC;clear hC hh hx;go_upto_region 9 with fail
     have hn1:=zac wr (Obj.cells #[.string p1,.string p2,.int .i64 p3,.int .i64 p4,.int .i64 p5,.int .i64 p6] 57) _ rfl;have hb2:=zae hb (Obj.cells #[.string p1,.string p2,.int .i64 p3,.int .i64 p4,.int .i64 p5,.int .i64 p6] 57);have hW2:Fr No wr (wr.alloc (Obj.cells #[.string p1,.string p2,.int .i64 p3,.int .i64 p4,.int .i64 p5,.int .i64 p6] 57)):=(Fr.refl No wr).alloc _;generalize wr.alloc (Obj.cells #[.string p1,.string p2,.int .i64 p3,.int .i64 p4,.int .i64 p5,.int .i64 p6] 57)=W2 at *;have ly:=zab hn1;have lz:=zab hb2
     have HS:Hid (∀ W,Fr No W2 W->W.cell? ⟨w.heap.size,1,none⟩=some (.int .i64 D.mark)/\W.cell? ⟨w.heap.size,2,none⟩=some (.slice (some ⟨ga,go,none⟩) D.kvs.length kcap)/\W.cell? ⟨wr.heap.size,0,none⟩=some (.string p1)/\W.cell? ⟨wr.heap.size,1,none⟩=some (.string p2)/\W.cell? ⟨wr.heap.size,2,none⟩=some (.int .i64 p3)/\W.cell? ⟨wr.heap.size,3,none⟩=some (.int .i64 p4)/\W.cell? ⟨wr.heap.size,4,none⟩=some (.int .i64 p5)/\W.cell? ⟨wr.heap.size,5,none⟩=some (.int .i64 p6)):=H_ (fun W hW=>by
      have h1:=hW.heap hn1 id;have h2:=hW.heap hb2 id;refine ⟨?_,?_,?_,?_,?_,?_,?_,?_⟩
      · unfold World.cell?;dsimp only;rw [h2];rfl
      · unfold World.cell?;dsimp only;rw [h2];rfl
      all_goals (unfold World.cell?;dsimp only;rw [h1];rfl))
     have HC:Hid (∀ W,Fr No W2 W->Calls Try.prog 99 #[.agg #[.string p1,.string p2,.int .i64 p3,.int .i64 p4,.int .i64 p5,.int .i64 p6],.int .i64 D.mark] W fun e w'=>e = .returned (.bool (mayB ⟨p1,p2,p3,p4,p5,p6⟩ D.mark))/\Fr No W2 w'):=H_ (fun W hW=>Calls.clsM (HC0.out W) hW);have HW2:=H_ hW2;clear hn1 hb2 hW2 hb b0 b1 b2 b3 x0 x1 x2 x3 x4 x5 lx lb HC0;generalize wr.heap.size=nb at *
     cases hmay:mayB ⟨p1,p2,p3,p4,p5,p6⟩ D.mark with
     | false =>
       rw [hmay] at HC;have HN:Hid (¬ zar D):=H_ (fun h=>by have:=(h.kvs i _ HX.out).may;rw [hmay] at this;cases this);clear hmay hsk hsn;refine zbg (C:=fun W=>Fr No W2 W) (by kernel_rfl) (by kernel_rfl) ((Fr.refl No W2).drew) ?_
       repeat (refine (wpQuiet_step (fun K hK=>?_):_)
               go_simp
               first
                | (refine hK _ ?_;clear hK K)
                | (apply Exists.intro
                   refine ⟨fun W hW=>?_,hK _ ?_⟩
                   (first
                     | exact rfl
                     | (obtain ⟨d1,d2,y0,y1,y2,y3,y4,y5⟩:=HS.out W hW;go_simp;exact rfl)
                     | (with_reducible exact (HC.out W hW))
                   )
                   clear hK K))
       refine (wpQuiet_nil ?_:_);intro w9 hw9;go_wp2
       go_ret2
       exact MadeR.no HN.out (HF1.out.trans0 (HF.out.trans0 (HW2.out.trans0 hw9)))
     | true =>
       rw [hmay] at HC;have HMY:=H_ hmay;clear hmay;rcases Nat.eq_zero_or_pos i with h0 | h0
       · subst h0
         rw [show ((0:Nat):Int)=(0:Int) from rfl];have hg0:decide ((0:Int) > 0)=false:=rfl;have HOKX:Hid (KvOk D 0 ⟨p1,p2,p3,p4,p5,p6⟩):=H_ ⟨HMY.out,fun _ h=>absurd h (Nat.lt_irrefl _)⟩;clear hsk hsn;refine zbg (C:=fun W=>Fr No W2 W) (by kernel_rfl) (by kernel_rfl) ((Fr.refl No W2).drew) ?_
         repeat (refine (wpQuiet_step (fun K hK=>?_):_)
                 go_simp
                 first
                  | (refine hK _ ?_;clear hK K)
                  | (apply Exists.intro
                     refine ⟨fun W hW=>?_,hK _ ?_⟩
                     (first
                       | exact rfl
                       | (obtain ⟨d1,d2,y0,y1,y2,y3,y4,y5⟩:=HS.out W hW;go_simp;exact rfl)
                       | (with_reducible exact (HC.out W hW))
                     )
                     clear hK K))
         refine (wpQuiet_nil ?_:_);intro w9 hw9;obtain ⟨d1,d2,y0,y1,y2,y3,y4,y5⟩:=HS.out w9 hw9;have l9:=hw9.size;have ly9:nb < w9.heap.size:=(by omega);have lz9:w.heap.size < w9.heap.size:=(by omega)
         have hall:∀ j' k,j'<=0->D.kvs[j']? = some k->KvOk D j' k:=fun j' k hj hk=>by
          rcases Nat.lt_or_ge j' (0) with h | h
          · exact HOK.out j' k h hk
          have e:j'=0:=by omega
          subst e;rw [HX.out] at hk;cases hk
          exact HOKX.out
         have hbs:=HBI.out.step (by omega) (by unfold top;omega) HX.out hall;have hmp:=(zdh.1 HMY.out).ver;dsimp only at hmp;have hmt:p4<=top:=(by have:=hmp.2.1;unfold top;omega);have hm1:1<=p4:=hmp.2.2;have hroom:(begS D (0)).T.length < 1000000:=(by have:=HBI.out.size;omega);have hst9:=HST.out.fr0 hT (HW2.out.trans0 hw9);have hCB:=zig hT (n:=0) (by omega) w9 s (begS D (0)) F2 hst9 HBI.out.ok ⟨p1,p2,p3,p4,p5,p6⟩ hroom hbs.1 hm1 hmt;have HCB:=H_ hCB;have HHALL:=H_ hall;have HBS:=H_ hbs.2;have HFK:=H_ (zhz D HX.out);have HW9:=H_ hw9;have HBSE:=H_ (zlk D HX.out);clear hCB hall hbs hroom hst9 hw9 hmp hmt hm1;by_cases hmm:p4=D.mark
         · have hm1':(p4 == D.mark)=true:=beq_iff_eq.2 hmm
           have HFK2:Hid (freshK D (0+1)=freshK D (0)+1):=H_ (by rw [HFK.out,hm1'];rfl);clear hmm;go_wp2_with (go_at_call 100;refine HCB.out.mono ?_;rintro e w10 ⟨⟨v10,rfl⟩,F3,hs10,hf10,hn10⟩);have HS10:=H_ hs10;have HF10:=H_ hf10;have HN10:=H_ hn10;clear hs10 hf10 hn10;go_roundg g
           case rel =>
            have hsz:=HF.out.size;have hsz2:=HW2.out.size
            exact ⟨1,F3,by rw [HFK2.out];go_num,by go_num,by omega,H_ (fun j' k hj hk=>HHALL.out j' k (by omega) hk),H_ (by rw [HBSE.out];exact HBS.out),H_ (by rw [HBSE.out];exact HS10.out),H_ ((HF.out.trans0 (HW2.out.trans0 HW9.out)).trans HF10.out fun j hj h=>by have:=HNF.out j h;omega),H_ (fun b hb=>by
             rcases HN10.out b hb with h | h
             · exact HNF.out b h
             omega)⟩
           case measure=>omega
         have hm1':(p4 == D.mark)=false:=beq_eq_false_iff_ne.2 hmm
         have HFK2:Hid (freshK D (0+1)=freshK D (0)+0):=H_ (by rw [HFK.out,hm1'];rfl);clear hmm;go_wp2_with (go_at_call 100;refine HCB.out.mono ?_;rintro e w10 ⟨⟨v10,rfl⟩,F3,hs10,hf10,hn10⟩);have HS10:=H_ hs10;have HF10:=H_ hf10;have HN10:=H_ hn10;clear hs10 hf10 hn10;go_roundg g
         case rel =>
          have hsz:=HF.out.size;have hsz2:=HW2.out.size
          exact ⟨1,F3,by rw [HFK2.out];go_num,by go_num,by omega,H_ (fun j' k hj hk=>HHALL.out j' k (by omega) hk),H_ (by rw [HBSE.out];exact HBS.out),H_ (by rw [HBSE.out];exact HS10.out),H_ ((HF.out.trans0 (HW2.out.trans0 HW9.out)).trans HF10.out fun j hj h=>by have:=HNF.out j h;omega),H_ (fun b hb=>by
           rcases HN10.out b hb with h | h
           · exact HNF.out b h
           omega)⟩
         case measure=>omega
       obtain ⟨j,rfl⟩:∃ j,i=j+1:=⟨i - 1,by omega⟩
       obtain ⟨x',hx'⟩:∃ x',D.kvs[j]? = some x':=⟨_,List.getElem?_eq_getElem (by omega)⟩;have HK':Hid (∀ W,Fr No W2 W->W.cell? ⟨ga,go+j * 6,none⟩=some (.string x'.key)):=H_ (fun W hW=>(HD.out.kvs.fr0 (HF.out.trans0 (HW2.out.trans0 hW))).cell0 zag j hx' rfl);have hg1:decide (((j:Int)+1) > 0)=true:=decide_eq_true (by omega);have hg2:decide ((0:Int) < ((j:Int)+1))=true:=decide_eq_true (by omega);have hj1:(0:Int)<=(j:Int)+1:=(by omega);have hjl:(j:Int) < (D.kvs.length:Int):=(by omega);have hwj:IntKind.i64.wrap (j:Int)=(j:Int):=IntWalk.i64_in _ ⟨by omega,by omega⟩;clear hsk hsn;rcases zhq x'.key p1 with hc | hc | hc
       · obtain ⟨e1,e2,e3,e4,_⟩:=zoa hc
         have HOKX:Hid (KvOk D (j+1) ⟨p1,p2,p3,p4,p5,p6⟩):=H_ ⟨HMY.out,fun k' _ hk'=>by rw [show j+1 - 1=j from rfl,hx'] at hk';cases hk';exact hc⟩;clear hc hx';refine zbg (C:=fun W=>Fr No W2 W) (by kernel_rfl) (by kernel_rfl) ((Fr.refl No W2).drew) ?_
         repeat (refine (wpQuiet_step (fun K hK=>?_):_)
                 go_simp
                 first
                  | (refine hK _ ?_;clear hK K)
                  | (apply Exists.intro
                     refine ⟨fun W hW=>?_,hK _ ?_⟩
                     (first
                       | exact rfl
                       | (obtain ⟨d1,d2,y0,y1,y2,y3,y4,y5⟩:=HS.out W hW;have c9:=HK'.out W hW;go_simp;exact rfl)
                       | (with_reducible exact (HC.out W hW))
                     )
                     clear hK K))
         refine (wpQuiet_nil ?_:_);intro w9 hw9;obtain ⟨d1,d2,y0,y1,y2,y3,y4,y5⟩:=HS.out w9 hw9;have l9:=hw9.size;have ly9:nb < w9.heap.size:=(by omega);have lz9:w.heap.size < w9.heap.size:=(by omega)
         have hall:∀ j' k,j'<=j+1->D.kvs[j']? = some k->KvOk D j' k:=fun j' k hj hk=>by
          rcases Nat.lt_or_ge j' (j+1) with h | h
          · exact HOK.out j' k h hk
          have e:j'=j+1:=by omega
          subst e;rw [HX.out] at hk;cases hk
          exact HOKX.out
         have hbs:=HBI.out.step (by omega) (by unfold top;omega) HX.out hall;have hmp:=(zdh.1 HMY.out).ver;dsimp only at hmp;have hmt:p4<=top:=(by have:=hmp.2.1;unfold top;omega);have hm1:1<=p4:=hmp.2.2;have hroom:(begS D (j+1)).T.length < 1000000:=(by have:=HBI.out.size;omega);have hst9:=HST.out.fr0 hT (HW2.out.trans0 hw9);have hCB:=zig hT (n:=j+1) (by omega) w9 s (begS D (j+1)) F2 hst9 HBI.out.ok ⟨p1,p2,p3,p4,p5,p6⟩ hroom hbs.1 hm1 hmt;have HCB:=H_ hCB;have HHALL:=H_ hall;have HBS:=H_ hbs.2;have HFK:=H_ (zhz D HX.out);have HW9:=H_ hw9;have HBSE:=H_ (zlk D HX.out);clear hCB hall hbs hroom hst9 hw9 hmp hmt hm1;by_cases hmm:p4=D.mark
         · have hm1':(p4 == D.mark)=true:=beq_iff_eq.2 hmm
           have HFK2:Hid (freshK D (j+1+1)=freshK D (j+1)+1):=H_ (by rw [HFK.out,hm1'];rfl);clear hmm;go_wp2_with (go_at_call 100;refine HCB.out.mono ?_;rintro e w10 ⟨⟨v10,rfl⟩,F3,hs10,hf10,hn10⟩);have HS10:=H_ hs10;have HF10:=H_ hf10;have HN10:=H_ hn10;clear hs10 hf10 hn10;go_roundg g
           case rel =>
            have hsz:=HF.out.size;have hsz2:=HW2.out.size
            exact ⟨j+2,F3,by rw [HFK2.out];go_num,by go_num,by omega,H_ (fun j' k hj hk=>HHALL.out j' k (by omega) hk),H_ (by rw [HBSE.out];exact HBS.out),H_ (by rw [HBSE.out];exact HS10.out),H_ ((HF.out.trans0 (HW2.out.trans0 HW9.out)).trans HF10.out fun j hj h=>by have:=HNF.out j h;omega),H_ (fun b hb=>by
             rcases HN10.out b hb with h | h
             · exact HNF.out b h
             omega)⟩
           case measure=>omega
         have hm1':(p4 == D.mark)=false:=beq_eq_false_iff_ne.2 hmm
         have HFK2:Hid (freshK D (j+1+1)=freshK D (j+1)+0):=H_ (by rw [HFK.out,hm1'];rfl);clear hmm;go_wp2_with (go_at_call 100;refine HCB.out.mono ?_;rintro e w10 ⟨⟨v10,rfl⟩,F3,hs10,hf10,hn10⟩);have HS10:=H_ hs10;have HF10:=H_ hf10;have HN10:=H_ hn10;clear hs10 hf10 hn10;go_roundg g
         case rel =>
          have hsz:=HF.out.size;have hsz2:=HW2.out.size
          exact ⟨j+2,F3,by rw [HFK2.out];go_num,by go_num,by omega,H_ (fun j' k hj hk=>HHALL.out j' k (by omega) hk),H_ (by rw [HBSE.out];exact HBS.out),H_ (by rw [HBSE.out];exact HS10.out),H_ ((HF.out.trans0 (HW2.out.trans0 HW9.out)).trans HF10.out fun j hj h=>by have:=HNF.out j h;omega),H_ (fun b hb=>by
           rcases HN10.out b hb with h | h
           · exact HNF.out b h
           omega)⟩
         case measure=>omega
       · have e1:(p1.toList == x'.key.toList)=true:=by rw [hc];exact zgl _
         have HN:Hid (¬ zar D):=H_ (fun h=>by have:=(h.kvs (j+1) _ HX.out).up x' (by omega) hx';rw [hc,zbc] at this;cases this);clear hc hx';refine zbg (C:=fun W=>Fr No W2 W) (by kernel_rfl) (by kernel_rfl) ((Fr.refl No W2).drew) ?_
         repeat (refine (wpQuiet_step (fun K hK=>?_):_)
                 go_simp
                 first
                  | (refine hK _ ?_;clear hK K)
                  | (apply Exists.intro
                     refine ⟨fun W hW=>?_,hK _ ?_⟩
                     (first
                       | exact rfl
                       | (obtain ⟨d1,d2,y0,y1,y2,y3,y4,y5⟩:=HS.out W hW;have c9:=HK'.out W hW;go_simp;exact rfl)
                       | (with_reducible exact (HC.out W hW))
                     )
                     clear hK K))
         refine (wpQuiet_nil ?_:_);intro w9 hw9;go_wp2
         go_ret2
         exact MadeR.no HN.out (HF1.out.trans0 (HF.out.trans0 (HW2.out.trans0 hw9)))
       obtain ⟨e1,e2,e3,e4,_⟩:=zoa hc
       have HN:Hid (¬ zar D):=H_ (fun h=>by have:=(h.kvs (j+1) _ HX.out).up x' (by omega) hx';rw [zcx hc] at this;cases this);clear hc hx';refine zbg (C:=fun W=>Fr No W2 W) (by kernel_rfl) (by kernel_rfl) ((Fr.refl No W2).drew) ?_
       repeat (refine (wpQuiet_step (fun K hK=>?_):_)
               go_simp
               first
                | (refine hK _ ?_;clear hK K)
                | (apply Exists.intro
                   refine ⟨fun W hW=>?_,hK _ ?_⟩
                   (first
                     | exact rfl
                     | (obtain ⟨d1,d2,y0,y1,y2,y3,y4,y5⟩:=HS.out W hW;have c9:=HK'.out W hW;go_simp;exact rfl)
                     | (with_reducible exact (HC.out W hW))
                   )
                   clear hK K))
       refine (wpQuiet_nil ?_:_);intro w9 hw9;go_wp2
       go_ret2
       exact MadeR.no HN.out (HF1.out.trans0 (HF.out.trans0 (HW2.out.trans0 hw9)))
  | zero =>
    have hil:¬ (i:Int) < (D.kvs.length:Int):=(by omega);have hie:i=D.kvs.length:=(by omega);subst hie;have hks:KSorted D.kvs:=zez fun i k k' hi hk hk'=>(HOK.out i k (List.getElem?_eq_some_iff.1 hk).1 hk).up k' hi hk';have HKS:=H_ hks;have HOKK:Hid (∀ j k,D.kvs[j]? = some k->KvOk D j k):=H_ fun j k hk=>HOK.out j k (List.getElem?_eq_some_iff.1 hk).1 hk;obtain ⟨fst,hfst⟩:∃ fst:Int,max D.mark 1=fst:=⟨_,rfl⟩;have HFST:=H_ hfst;have hf1:1<=fst:=(by omega);have hf2:fst<=1099510000000:=(by omega);have hr0:revAt D 0=fst - 1:=(by unfold revAt;rw [if_pos rfl,hfst]);have HR0:=H_ hr0;have HEV0:=H_ (HBI.out.start (by omega) hks);clear hks hr0 hb HOK HBI;generalize begS D D.kvs.length=S0 at *;generalize hfkd:freshK D D.kvs.length=fk at *;have HFKD:=H_ hfkd;clear hfkd
    have hmm:∀ w,(Instr.makeMap 163 none).run Try.prog w = .ok (.map (some w.heap.size)) (w.alloc (.map #[] 0)):=fun w=>run_makeMap 163 w;go_upto_region 17 with fail;have hF4:Fr No wr (wr.alloc (Obj.map #[] 0)):=(Fr.refl No wr).alloc _;have hM4:MapS (wr.alloc (Obj.map #[] 0)) wr.heap.size (lastF D 0):=MapS.made wr;have hms1:W1.heap.size<=wr.heap.size:=HF.out.size;have hn4:∀ b,F2 b->b≠wr.heap.size:=fun b hb=>by have:=HST.out.lt hT b hb;omega
    generalize wr.alloc (Obj.map #[] 0)=W4 at *;generalize hms:wr.heap.size=ms at *;have HST4:=H_ (HST.out.fr0 hT hF4);have HF4:=H_ (HF.out.trans0 hF4);have HM4:=H_ hM4;have HNF4:Hid (∀ b,F2 b->W1.heap.size<=b/\b≠ms):=H_ fun b hb=>⟨HNF.out b hb,hn4 b hb⟩;clear HST HF HNF hF4 hM4 hn4 hms b0 b1 b2 b3 lb hmm;have hb:=HF4.out.heap HB1.out id;have lb:=zab hb;obtain ⟨b0,b1,b2,b3⟩:=cells4 hb;clear hb;go_wp2_with fail
    go_loopg [5,8,89] D.events.length (fun g s5 s8 s89 wr2=>∃ (i:Nat) (S:St) (F3:Nat->Prop),s5 = .int .i64 ((fk:Int) - (freshE D i:Int))/\s8 = .int .i64 (revAt D i)/\s89 = .int .i64 i/\i+g=D.events.length/\0<=revAt D i/\revAt D i<=1099510000000+(i:Int)/\Hid (∀ j x,j < i->D.events[j]? = some x->EvOk D j x)/\Hid (EvI D i S)/\Hid (zaj TA wr2 s S F3)/\Hid (MapS wr2 ms (lastF D i))/\Hid (Fr No W1 wr2)/\Hid (∀ b,F3 b->W1.heap.size<=b/\b≠ms))
    case atStart =>
     have hz:freshE D 0=0:=rfl;exact ⟨0,S0,F2,by rw [hz];go_num,by rw [HR0.out],rfl,by simp,by rw [HR0.out];omega,by rw [HR0.out];omega,H_ (fun j x h=>absurd h (Nat.not_lt_zero _)),HEV0,HST4,HM4,HF4,HNF4⟩
    case round =>
     clear b0 b1 b2 b3 lb HST4 HF4 HM4 HNF4 HEV0;obtain ⟨i,S,F3,rfl,rfl,rfl,hi,hra0,hra1,HOK,HEI,HST,HMS,HF,HNF⟩:=hrel;have hfe:=zrd D i;have hb:=HF.out.heap HB1.out id;have lb:=zab hb;obtain ⟨b0,b1,b2,b3⟩:=cells4 hb
     cases gk with
     | zero =>
       have hil:¬ (i:Int) < (D.events.length:Int):=(by omega);have hie:i=D.events.length:=(by omega);subst hie;have HEVS:Hid (∀ j x,D.events[j]? = some x->EvOk D j x):=H_ fun j x hx=>HOK.out j x (List.getElem?_eq_some_iff.1 hx).1 hx;clear hb HOK;generalize hfed:freshE D D.events.length=fe at *;generalize hrad:revAt D D.events.length=ra at *;have HFED:=H_ hfed;have HRAD:=H_ hrad;have hfi:fe<=D.events.length:=hfe;obtain ⟨dd,hdd⟩:∃ dd:Int,(fk:Int) - (fe:Int)=dd:=⟨_,rfl⟩;rw [hdd];have hdr : -1000000<=dd/\dd<=1000000:=(by omega);have HDD:=H_ hdd;clear hfed hrad hdd;have hrv:max D.rev 0=D.rev:=(by omega);by_cases hl:ra=D.rev
       · have hl':(ra == D.rev)=true:=beq_iff_eq.2 hl
         have hl'':(ra != D.rev)=false:=(by unfold bne;rw [hl'];rfl);by_cases hff:dd=0
         · have hg':(dd == 0)=true:=beq_iff_eq.2 hff
           have hg'':(dd != 0)=false:=(by unfold bne;rw [hg'];rfl);have HOKR:Hid (zar D):=H_ ⟨by omega,by omega,by omega,HOKK.out,HEVS.out,by rw [HRAD.out];omega,by have:=HDD.out;rw [HFKD.out,HFED.out];omega⟩;have HMO:Hid (MadeOk D S):=H_ (HEI.out.all (by rw [HRAD.out];omega) (by omega));have hwsz:=HWF1.out;clear hl hff;go_wp2
           go_ret2
           exact MadeR.yes HOKR.out HST.out HMO.out (fun b hb=>by have:=(HNF.out b hb).1;omega) (HF1.out.trans0 HF.out)
         have hg':(dd == 0)=false:=beq_eq_false_iff_ne.2 hff
         have hg'':(dd != 0)=true:=(by unfold bne;rw [hg'];rfl);have HN:Hid (¬ zar D):=H_ (fun h=>hff (by have h1:=HDD.out;have:=h.fresh;rw [HFKD.out,HFED.out] at this;omega));clear hl hff;go_wp2
         go_ret2
         exact MadeR.no HN.out (HF1.out.trans0 HF.out)
       have hl':(ra == D.rev)=false:=beq_eq_false_iff_ne.2 hl
       have hl'':(ra != D.rev)=true:=(by unfold bne;rw [hl'];rfl);have HN:Hid (¬ zar D):=H_ (fun h=>hl (by have:=h.last;rw [HRAD.out] at this;omega));clear hl;go_wp2
       go_ret2
       exact MadeR.no HN.out (HF1.out.trans0 HF.out)
     | succ g =>
       have hil:(i:Int) < (D.events.length:Int):=(by omega);obtain ⟨x,hx⟩:∃ x,D.events[i]? = some x:=⟨_,List.getElem?_eq_getElem (by omega)⟩;obtain ⟨ga,go,rfl⟩:=HE3.out (by omega);have hh:=HD.out.evs.fr0 HF.out;have x0:=hh.cell0 zau i hx rfl;have x1:=hh.cell zau i 1 hx rfl;have x2:=hh.cell zau i 2 hx rfl;have x3:=hh.cell zau i 3 hx rfl;have x4:=hh.cell zau i 4 hx rfl;have x5:=hh.cell zau i 5 hx rfl;have x6:=hh.cell zau i 6 hx rfl;have x7:=hh.cell zau i 7 hx rfl;have x8:=hh.cell zau i 8 hx rfl;have x9:=hh.cell zau i 9 hx rfl;have x10:=hh.cell zau i 10 hx rfl;have x11:=hh.cell zau i 11 hx rfl;have x12:=hh.cell zau i 12 hx rfl;have lx:=World.block_lt_of_cell? _ _ x0;have hsx:=HSM.out.keye x (List.mem_of_getElem? hx);have hsn:=HSM.out.evs x (List.mem_of_getElem? hx);have hrs:=zci hx;have hfe1:=zml D hx
       have hla:=zho D hx;have hnok:=fun (h:zar D)=>h.evs i x hx;have HX:=H_ hx;have HRS:=H_ hrs;have HFE1:=H_ hfe1;have HLA:=H_ hla;have HNOK:=H_ hnok;have hfm:=zmm hx;have HFM:=H_ hfm;clear hx hrs hfe1 hla hnok hh hfm;obtain ⟨kd,⟨p1,p2,p3,p4,p5,p6⟩,⟨q1,q2,q3,q4,q5,q6⟩⟩:=x;dsimp only at x0 x1 x2 x3 x4 x5 x6 x7 x8 x9 x10 x11 x12 hsx hsn HX HRS HFE1 HLA HNOK HFM;generalize hra:revAt D i=ra at *;have HRA:=H_ hra;clear hra;go_upto_region 20 with fail;have hn1:=zac wr (Obj.cells #[.int .i64 kd,.string p1,.string p2,.int .i64 p3,.int .i64 p4,.int .i64 p5,.int .i64 p6,.string q1,.string q2,.int .i64 q3,.int .i64 q4,.int .i64 q5,.int .i64 q6] 73) _ rfl
       have hb2:=zae hb (Obj.cells #[.int .i64 kd,.string p1,.string p2,.int .i64 p3,.int .i64 p4,.int .i64 p5,.int .i64 p6,.string q1,.string q2,.int .i64 q3,.int .i64 q4,.int .i64 q5,.int .i64 q6] 73);have hW2:Fr No wr (wr.alloc (Obj.cells #[.int .i64 kd,.string p1,.string p2,.int .i64 p3,.int .i64 p4,.int .i64 p5,.int .i64 p6,.string q1,.string q2,.int .i64 q3,.int .i64 q4,.int .i64 q5,.int .i64 q6] 73)):=(Fr.refl No wr).alloc _;generalize wr.alloc (Obj.cells #[.int .i64 kd,.string p1,.string p2,.int .i64 p3,.int .i64 p4,.int .i64 p5,.int .i64 p6,.string q1,.string q2,.int .i64 q3,.int .i64 q4,.int .i64 q5,.int .i64 q6] 73)=W2 at *;generalize hnb:wr.heap.size=nb at *;have ly:=zab hn1;have lz:=zab hb2;obtain ⟨y0,y1,y2,y3,y4,y5,y6,y7,y8,y9,y10,y11,y12⟩:=cells13 hn1;obtain ⟨z0,z1,z2,z3⟩:=cells4 hb2
       have HN1:=H_ hn1;have HB2:=H_ hb2;have HW2:=H_ hW2;have HNB:=H_ hnb;have hC65:=fun W=>zfi W p1 hsx.1
       have HLK:Hid (∀ W,Fr No W2 W->(Instr.lookup 163 (.map (some ms)) (.string p1) false).run Try.prog W = .ok (.int .i64 ((lastAt D i p1).getD 0)) W):=H_ (fun W hW=>by
        have h:=MapS.look (P:=Try.prog) (t:=163) (MapS.fr (S:=No) HMS.out (hW2.trans0 hW) id) Try.underlying163 Try.underlying9 (n:=p1) (by unfold maxLen;omega) (zeroI W);have e:(lastF D i p1).getD (.int .i64 0) = .int .i64 ((lastAt D i p1).getD 0):=(by unfold lastF;cases lastAt D i p1 <;> rfl);rw [e] at h;exact h)
       have hlai:=zos (D:=D) (i:=i) (by omega) HOK.out p1 p4;have HLAI:=H_ hlai;clear hn1 hb2 hW2 hnb hlai;generalize hke:keyE p1=E at *;generalize hlv:(lastAt D i p1).getD 0=lv at *;have HKE:=H_ hke;have HLV:=H_ hlv;have H65:=H_ hC65;clear hke hlv hC65 hb b0 b1 b2 b3 x0 x1 x2 x3 x4 x5 x6 x7 x8 x9 x10 x11 x12 lx lb;go_upto_region 21 with fail
       go_cut [127] (fun s127 wx=>∃ bt:Bool,s127 = .bool bt/\Hid (bt=true->¬ zar D)/\Hid (bt=false->fst<=p4/\ra<=p4/\p4<=ra+1/\keyE p1=0/\∀ j y,j < i->D.events[j]? = some y->y.kv.mod=p4->keq y.kv.key p1=false)/\Hid (Fr No W2 wx))
       case first =>
        as_aux_lemma =>
         by_cases hA:p4≠ra/\p4≠ra+1
         · have a1:(p4 == ra)=false:=beq_eq_false_iff_ne.2 hA.1
           have a2:(p4 != ra)=true:=(by unfold bne;rw [a1];rfl);have a3:(p4 == ra+1)=false:=beq_eq_false_iff_ne.2 hA.2;have a4:(p4 != ra+1)=true:=(by unfold bne;rw [a3];rfl)
           have HT:Hid (¬ zar D):=H_ (fun h=>by
            have h1:=(HNOK.out h).ge;have h2:=(HNOK.out h).le;rw [HRA.out] at h1 h2;dsimp only at h1 h2;omega)
           clear hA;go_wp2_with fail;go_meet
           case rel=>exact ⟨true,rfl,H_ (fun _=>HT.out),H_ (fun h=>by cases h),H_ (Fr.refl No W2)⟩
         have hB:ra<=p4/\p4<=ra+1:=by omega
         by_cases hC:p4=ra
         · have a1:(p4 == ra)=true:=beq_iff_eq.2 hC
           have a2:(p4 != ra)=false:=(by unfold bne;rw [a1];rfl);clear hA hC;by_cases hlo:p4 < fst
           · have hlo':decide (p4 < fst)=true:=decide_eq_true hlo
             have HT:Hid (¬ zar D):=H_ (fun h=>by have h1:=(HNOK.out h).lo;rw [HFST.out] at h1;dsimp only at h1;omega);clear hlo;go_wp2_with fail;go_meet
             case rel=>exact ⟨true,rfl,H_ (fun _=>HT.out),H_ (fun h=>by cases h),H_ (Fr.refl No W2)⟩
           have hlo':decide (p4 < fst)=false:=decide_eq_false hlo
           by_cases hE:E=0
           · subst hE
             by_cases hS:lv=p4
             · have s1:(lv == p4)=true:=beq_iff_eq.2 hS
               have HT:Hid (¬ zar D):=H_ (fun h=>by
                obtain ⟨j,y,h1,h2,h3,h4⟩:=(HLAI.out (by rw [HRA.out];omega) (by omega)).1 hS;have h5:=(HNOK.out h).one j y h1 h2 h3;dsimp only at h5;rw [h4] at h5;cases h5)
               clear hS;go_wp2_with (go_at_call 58;refine (H65.out _).mono ?_;rintro e w5 ⟨rfl,hf5⟩;have hlk:=HLK.out w5 hf5;have t1:=hf5.cell0 y1;have t4:=hf5.cell0 y4;have lt1:=World.block_lt_of_cell? _ _ t1;have t5:=hf5.cell0 z1;have lt2:=World.block_lt_of_cell? _ _ t5);go_meet
               case rel=>exact ⟨true,rfl,H_ (fun _=>HT.out),H_ (fun h=>by cases h),H_ hf5⟩
             have s1:(lv == p4)=false:=beq_eq_false_iff_ne.2 hS
             have HBB:Hid (fst<=p4/\ra<=p4/\p4<=ra+1/\keyE p1=0/\∀ j y,j < i->D.events[j]? = some y->y.kv.mod=p4->keq y.kv.key p1=false):=H_ (⟨by omega,hB.1,hB.2,HKE.out,fun j y h1 h2 h3=>by
              cases h4:keq y.kv.key p1 with
              | false=>rfl
              | true=>exact absurd ((HLAI.out (by rw [HRA.out];omega) (by omega)).2 ⟨j,y,h1,h2,h3,h4⟩) hS⟩)
             clear hS;go_wp2_with (go_at_call 58;refine (H65.out _).mono ?_;rintro e w5 ⟨rfl,hf5⟩;have hlk:=HLK.out w5 hf5;have t1:=hf5.cell0 y1;have t4:=hf5.cell0 y4;have lt1:=World.block_lt_of_cell? _ _ t1;have t5:=hf5.cell0 z1;have lt2:=World.block_lt_of_cell? _ _ t5);go_meet
             case rel=>exact ⟨false,rfl,H_ (fun h=>by cases h),H_ (fun _=>HBB.out),H_ hf5⟩
           have e1:(E == 0)=false:=beq_eq_false_iff_ne.2 hE
           have e2:(E != 0)=true:=(by unfold bne;rw [e1];rfl);have HT:Hid (¬ zar D):=H_ (fun h=>hE (by rw [<-HKE.out];exact zny (HNOK.out h)));clear hE;go_wp2_with (go_at_call 58;refine (H65.out _).mono ?_;rintro e w5 ⟨rfl,hf5⟩;have t1:=hf5.cell0 y1;have t4:=hf5.cell0 y4;have lt1:=World.block_lt_of_cell? _ _ t1;have t5:=hf5.cell0 z1;have lt2:=World.block_lt_of_cell? _ _ t5);go_meet
           case rel=>exact ⟨true,rfl,H_ (fun _=>HT.out),H_ (fun h=>by cases h),H_ hf5⟩
         have a1:(p4 == ra)=false:=beq_eq_false_iff_ne.2 hC
         have a2:(p4 != ra)=true:=(by unfold bne;rw [a1];rfl);have a3:(p4 == ra+1)=true:=beq_iff_eq.2 (by omega);have a4:(p4 != ra+1)=false:=(by unfold bne;rw [a3];rfl);clear hA hC;by_cases hlo:p4 < fst
         · have hlo':decide (p4 < fst)=true:=decide_eq_true hlo
           have HT:Hid (¬ zar D):=H_ (fun h=>by have h1:=(HNOK.out h).lo;rw [HFST.out] at h1;dsimp only at h1;omega);clear hlo;go_wp2_with fail;go_meet
           case rel=>exact ⟨true,rfl,H_ (fun _=>HT.out),H_ (fun h=>by cases h),H_ (Fr.refl No W2)⟩
         have hlo':decide (p4 < fst)=false:=decide_eq_false hlo
         by_cases hE:E=0
         · subst hE
           by_cases hS:lv=p4
           · have s1:(lv == p4)=true:=beq_iff_eq.2 hS
             have HT:Hid (¬ zar D):=H_ (fun h=>by
              obtain ⟨j,y,h1,h2,h3,h4⟩:=(HLAI.out (by rw [HRA.out];omega) (by omega)).1 hS;have h5:=(HNOK.out h).one j y h1 h2 h3;dsimp only at h5;rw [h4] at h5;cases h5)
             clear hS;go_wp2_with (go_at_call 58;refine (H65.out _).mono ?_;rintro e w5 ⟨rfl,hf5⟩;have hlk:=HLK.out w5 hf5;have t1:=hf5.cell0 y1;have t4:=hf5.cell0 y4;have lt1:=World.block_lt_of_cell? _ _ t1;have t5:=hf5.cell0 z1;have lt2:=World.block_lt_of_cell? _ _ t5);go_meet
             case rel=>exact ⟨true,rfl,H_ (fun _=>HT.out),H_ (fun h=>by cases h),H_ hf5⟩
           have s1:(lv == p4)=false:=beq_eq_false_iff_ne.2 hS
           have HBB:Hid (fst<=p4/\ra<=p4/\p4<=ra+1/\keyE p1=0/\∀ j y,j < i->D.events[j]? = some y->y.kv.mod=p4->keq y.kv.key p1=false):=H_ (⟨by omega,hB.1,hB.2,HKE.out,fun j y h1 h2 h3=>by
            cases h4:keq y.kv.key p1 with
            | false=>rfl
            | true=>exact absurd ((HLAI.out (by rw [HRA.out];omega) (by omega)).2 ⟨j,y,h1,h2,h3,h4⟩) hS⟩)
           clear hS;go_wp2_with (go_at_call 58;refine (H65.out _).mono ?_;rintro e w5 ⟨rfl,hf5⟩;have hlk:=HLK.out w5 hf5;have t1:=hf5.cell0 y1;have t4:=hf5.cell0 y4;have lt1:=World.block_lt_of_cell? _ _ t1;have t5:=hf5.cell0 z1;have lt2:=World.block_lt_of_cell? _ _ t5);go_meet
           case rel=>exact ⟨false,rfl,H_ (fun h=>by cases h),H_ (fun _=>HBB.out),H_ hf5⟩
         have e1:(E == 0)=false:=beq_eq_false_iff_ne.2 hE
         have e2:(E != 0)=true:=(by unfold bne;rw [e1];rfl);have HT:Hid (¬ zar D):=H_ (fun h=>hE (by rw [<-HKE.out];exact zny (HNOK.out h)));clear hE;go_wp2_with (go_at_call 58;refine (H65.out _).mono ?_;rintro e w5 ⟨rfl,hf5⟩;have t1:=hf5.cell0 y1;have t4:=hf5.cell0 y4;have lt1:=World.block_lt_of_cell? _ _ t1;have t5:=hf5.cell0 z1;have lt2:=World.block_lt_of_cell? _ _ t5);go_meet
         case rel=>exact ⟨true,rfl,H_ (fun _=>HT.out),H_ (fun h=>by cases h),H_ hf5⟩
       case rest =>
        obtain ⟨bt,rfl,HT,HB,HQ⟩:=hcut;have HQW:=H_ (HW2.out.trans0 HQ.out);have v0:=HQ.out.cell0 y0;have v1:=HQ.out.cell0 y1;have v2:=HQ.out.cell0 y2;have v3:=HQ.out.cell0 y3;have v4:=HQ.out.cell0 y4;have v5:=HQ.out.cell0 y5;have v6:=HQ.out.cell0 y6;have v7:=HQ.out.cell0 y7;have v8:=HQ.out.cell0 y8;have v9:=HQ.out.cell0 y9;have v10:=HQ.out.cell0 y10;have v11:=HQ.out.cell0 y11;have v12:=HQ.out.cell0 y12;have u0:=HQ.out.cell0 z0;have u1:=HQ.out.cell0 z1;have u2:=HQ.out.cell0 z2;have u3:=HQ.out.cell0 z3;have lv1:=World.block_lt_of_cell? _ _ v0;have lu1:=World.block_lt_of_cell? _ _ u0;clear y0 y1 y2 y3 y4 y5 y6 y7 y8 y9 y10 y11 y12 z0 z1 z2 z3 ly lz
        cases bt with
        | true =>
          have HN:=H_ (HT.out rfl);clear HT HB;go_wp2
          go_ret2
          exact MadeR.no HN.out (HF1.out.trans0 (HF.out.trans0 HQW.out))
        | false =>
          obtain ⟨h1,h2,h3,h4,h5⟩:=HB.out rfl;have HH4:=H_ h4;have HH5:=H_ h5;clear h4 h5 HT HB;have hst:=HST.out.fr0 hT HQW.out;have hms':MapS wc ms (lastF D i):=MapS.fr (S:=No) HMS.out HQW.out id;have hok:=HEI.out.ok;have HOKS:=H_ hok;have hlv:=HEI.out.lives (by omega) HOK.out p1 (r:=p4) (by rw [HRA.out];omega);have hCL:=fun W (hW:zaj TA W s S F3)=>zhn hT (n:=D.kvs.length+i) (by omega) W s S F3 hW hok p1 p4;generalize livesS S p1 p4=was at *;obtain ⟨⟨n1,n2,n3,n4,n5,n6⟩,is⟩:=was;unfold zby kvV at hCL;dsimp only at hCL;have HCL:=H_ hCL;have HLIV:=H_ hlv;have hnm:¬ nb=ms:=(by have:=HMS.out.lt;rw [HNB.out] at this;omega);have hwm:¬ w.heap.size=ms:=(by omega)
          have hls:s < wc.heap.size:=by
           obtain ⟨t,p,ev,hp,FT,FH,a,hF⟩:=hst;exact a.obj.lt
          have HST1:=H_ hst;clear hCL hlv hok hst;go_upto_region 25 with (refine zjd rfl _ _ _ 163 rfl 9 3 Try.underlying163 Try.underlying9 ms _ rfl hms' p1 rfl (by unfold maxLen;omega) (.int .i64 p4) rfl ?_;intro w4 hm4 hf4 hsz4);have hst4:=HST1.out.fr hT hf4 (fun b hb e=>(HNF.out b hb).2 e);have hF14:Fr No W1 w4:=(HF.out.trans0 HQW.out).trans hf4 fun j hj e=>by have e':j=ms:=e;omega
          have hm4':MapS w4 ms (lastF D (i+1)):=by
           refine cast (congrArg (MapS w4 ms) ?_) hm4
           funext k
           unfold lastF;rw [HLA.out];by_cases hk:k=p1
           · rw [if_pos hk,if_pos (zai.2 hk.symm)]
             rfl
           rw [if_neg hk,if_neg (fun e=>hk (zai.1 e).symm)]
          have e4_0:=hf4.cell v0 hnm;have e4_1:=hf4.cell v1 hnm;have e4_2:=hf4.cell v2 hnm;have e4_3:=hf4.cell v3 hnm;have e4_4:=hf4.cell v4 hnm;have e4_5:=hf4.cell v5 hnm;have e4_6:=hf4.cell v6 hnm;have e4_7:=hf4.cell v7 hnm;have e4_8:=hf4.cell v8 hnm;have e4_9:=hf4.cell v9 hnm;have e4_10:=hf4.cell v10 hnm;have e4_11:=hf4.cell v11 hnm;have e4_12:=hf4.cell v12 hnm;have em4:=hf4.cell u1 hwm;have ln4:=World.block_lt_of_cell? _ _ e4_1;have lw4:=World.block_lt_of_cell? _ _ em4;have HST4:=H_ hst4;have HF14:=H_ hF14;have HM4:=H_ hm4';clear v0 v1 v2 v3 v4 v5 v6 v7 v8 v9 v10 v11 v12 u0 u1 u2 u3 lv1 lu1 hm4 hf4 hst4 hF14 hm4' hms' hsn;go_upto_region 26 with (go_at_call 79;refine (HCL.out w4 HST4.out).mono ?_;rintro e w5 ⟨rfl,hf5⟩)
          have hF46:Fr No w4 (w5.alloc (Obj.cells #[.string n1,.string n2,.int .i64 n3,.int .i64 n4,.int .i64 n5,.int .i64 n6] 57)):=hf5.alloc _;have hk6:=zac w5 (Obj.cells #[.string n1,.string n2,.int .i64 n3,.int .i64 n4,.int .i64 n5,.int .i64 n6] 57) _ rfl;have hmb:w4.heap.size<=w5.heap.size:=hf5.size;generalize w5.alloc (Obj.cells #[.string n1,.string n2,.int .i64 n3,.int .i64 n4,.int .i64 n5,.int .i64 n6] 57)=W6 at *;generalize w5.heap.size=mb at *
          have HCE:Hid (∀ W,Fr No W6 W->W.cell? ⟨nb,0,none⟩=some (.int .i64 kd)/\W.cell? ⟨nb,1,none⟩=some (.string p1)/\W.cell? ⟨nb,2,none⟩=some (.string p2)/\W.cell? ⟨nb,3,none⟩=some (.int .i64 p3)/\W.cell? ⟨nb,4,none⟩=some (.int .i64 p4)/\W.cell? ⟨nb,5,none⟩=some (.int .i64 p5)/\W.cell? ⟨nb,6,none⟩=some (.int .i64 p6)/\W.cell? ⟨nb,7,none⟩=some (.string q1)/\W.cell? ⟨nb,8,none⟩=some (.string q2)/\W.cell? ⟨nb,9,none⟩=some (.int .i64 q3)/\W.cell? ⟨nb,10,none⟩=some (.int .i64 q4)/\W.cell? ⟨nb,11,none⟩=some (.int .i64 q5)/\W.cell? ⟨nb,12,none⟩=some (.int .i64 q6)/\W.cell? ⟨w.heap.size,1,none⟩=some (.int .i64 D.mark)/\W.cell? ⟨mb,0,none⟩=some (.string n1)/\W.cell? ⟨mb,1,none⟩=some (.string n2)/\W.cell? ⟨mb,2,none⟩=some (.int .i64 n3)/\W.cell? ⟨mb,3,none⟩=some (.int .i64 n4)/\W.cell? ⟨mb,4,none⟩=some (.int .i64 n5)/\W.cell? ⟨mb,5,none⟩=some (.int .i64 n6)/\nb < W.heap.size/\w.heap.size < W.heap.size/\mb < W.heap.size/\s < W.heap.size):=H_ (fun W hW=>by
           have l3:mb < W6.heap.size:=zab hk6;have l0:=hF46.size;have l1:nb < W6.heap.size:=(by omega);have l2:w.heap.size < W6.heap.size:=(by omega);have l4:s < W6.heap.size:=(by omega);have e0:=hF46.cell0 e4_0;have e1:=hF46.cell0 e4_1;have e2:=hF46.cell0 e4_2;have e3:=hF46.cell0 e4_3;have e4:=hF46.cell0 e4_4;have e5:=hF46.cell0 e4_5;have e6:=hF46.cell0 e4_6;have e7:=hF46.cell0 e4_7;have e8:=hF46.cell0 e4_8;have e9:=hF46.cell0 e4_9;have e10:=hF46.cell0 e4_10;have e11:=hF46.cell0 e4_11;have e12:=hF46.cell0 e4_12;have em:=hF46.cell0 em4;obtain ⟨f0,f1,f2,f3,f4,f5⟩:=cells6 hk6
           exact ⟨hW.cell0 (e0),hW.cell0 (e1),hW.cell0 (e2),hW.cell0 (e3),hW.cell0 (e4),hW.cell0 (e5),hW.cell0 (e6),hW.cell0 (e7),hW.cell0 (e8),hW.cell0 (e9),hW.cell0 (e10),hW.cell0 (e11),hW.cell0 (e12),hW.cell0 em,hW.cell0 (f0),hW.cell0 (f1),hW.cell0 (f2),hW.cell0 (f3),hW.cell0 (f4),hW.cell0 (f5),Nat.lt_of_lt_of_le l1 hW.size,Nat.lt_of_lt_of_le l2 hW.size,Nat.lt_of_lt_of_le l3 hW.size,Nat.lt_of_lt_of_le l4 hW.size⟩)
          have HF16:=H_ (HF14.out.trans0 hF46);have HST6:=H_ (HST4.out.fr0 hT hF46);have HM6:Hid (MapS W6 ms (lastF D (i+1))):=H_ (MapS.fr (S:=No) HM4.out hF46 id);clear e4_0 e4_1 e4_2 e4_3 e4_4 e4_5 e4_6 e4_7 e4_8 e4_9 e4_10 e4_11 e4_12 em4 ln4 lw4 hf5 hF46 hk6 hmb HST4 HF14 HM4 HCL
          have hHOK2:EvOk D i ⟨kd,⟨p1,p2,p3,p4,p5,p6⟩,⟨q1,q2,q3,q4,q5,q6⟩⟩->∀ j x,j < i+1->D.events[j]? = some x->EvOk D j x:=fun he j x hj hx=>by
           rcases Nat.lt_or_ge j i with h2 | h2
           · exact HOK.out j x h2 hx
           have e:j=i:=by omega
           subst e;rw [HX.out] at hx;cases hx
           exact he
          have HOK2:=H_ hHOK2;clear hHOK2;obtain ⟨r0,r1,r2,r3,r4,r5,r6,r7,r8,r9,r10,r11,r12,bm,j0,j1,j2,j3,j4,j5,lnb,lbx,lmb,lss⟩:=HCE.out W6 (Fr.refl No W6);have H67:=H_ (fun W (a b:Kv)=>zdj W ⟨kd,⟨p1,p2,p3,p4,p5,p6⟩,a⟩ b p4);by_cases hmm:D.mark < p4
          · as_aux_lemma =>
             have hg:decide (p4 > D.mark)=true:=decide_eq_true hmm;have HMM:=H_ hmm;have hC67:=fun W=>zdj W ⟨kd,⟨p1,p2,p3,p4,p5,p6⟩,⟨q1,q2,q3,q4,q5,q6⟩⟩ ⟨n1,n2,n3,n4,n5,n6⟩ p4;have hfm:zdk ⟨kd,⟨p1,p2,p3,p4,p5,p6⟩,⟨q1,q2,q3,q4,q5,q6⟩⟩ ⟨n1,n2,n3,n4,n5,n6⟩ p4=madeB ⟨kd,⟨p1,p2,p3,p4,p5,p6⟩,⟨q1,q2,q3,q4,q5,q6⟩⟩ ⟨n1,n2,n3,n4,n5,n6⟩ p4:=zia HH4.out rfl;have hwe:(⟨n1,n2,n3,n4,n5,n6⟩:Kv)=(hasL (foldTo D i) p1).getD kv0:=(congrArg Prod.fst HLIV.out).trans (zrv _);have HFM2:=H_ hfm;have HWE:=H_ hwe;unfold evV kvV at hC67;dsimp only at hC67;clear hfm hwe H67;generalize hfb:zdk ⟨kd,⟨p1,p2,p3,p4,p5,p6⟩,⟨q1,q2,q3,q4,q5,q6⟩⟩ ⟨n1,n2,n3,n4,n5,n6⟩ p4=fb at *;have HFB:=H_ hfb;have HC67:=H_ hC67;clear hC67 hmm hfb
             cases fb with
             | false =>
               have HN:Hid (¬ zar D):=H_ (fun h=>by
                have h7:=(HNOK.out h).md (fun e=>by have:=HMM.out;dsimp only at e;omega);dsimp only at h7;rw [<-HWE.out,<-HFM2.out] at h7;cases h7)
               go_wp2_with (go_at_call 101;refine (HC67.out _).mono ?_;rintro e w7 ⟨rfl,hf7⟩)
               go_ret2
               exact MadeR.no HN.out (HF1.out.trans0 (HF16.out.trans0 hf7))
             | true =>
               have hevk:EvOk D i ⟨kd,⟨p1,p2,p3,p4,p5,p6⟩,⟨q1,q2,q3,q4,q5,q6⟩⟩:=⟨by rw [HFST.out];exact h1,by rw [HRA.out];exact h2,by rw [HRA.out];exact h3,fun j y hj hy hm=>HH5.out j y hj hy hm,fun e=>by have:=HMM.out;dsimp only at e;omega,fun _=>by
                dsimp only;rw [<-HWE.out,<-HFM2.out]⟩
               have hd:=HEI.out.fits (by omega) HOK.out hevk HMM.out;have hsz:=HEI.out.size;have hDo:DoOk 1000000 S ⟨kd,⟨p1,p2,p3,p4,p5,p6⟩,⟨q1,q2,q3,q4,q5,q6⟩⟩:=⟨by show 1<=p4;omega,by show p4<=top;unfold top;omega,fun H hH hg=>hd.1 hg H hH,fun _ _=>by omega,fun hk H hH _=>(hd.2 hk).2 H hH⟩;have hdoes:=HEI.out.does (by omega) HOK.out HX.out hevk HMM.out (by show p4<=top;unfold top;omega);have HDO:=H_ hDo;have HDOES:=H_ hdoes;have HEVK:=H_ hevk
               have hfe2:freshE D (i+1)=freshE D i:=by
                rw [HFE1.out,beq_eq_false_iff_ne.2 (show p4≠D.mark from fun e=>by have:=HMM.out;omega)]
                rfl
               have HFE2:=H_ hfe2;have hCD:=fun W (hW:Fr No W6 W)=>znz hT (n:=D.kvs.length+i) (by omega) W s S F3 (HST6.out.fr0 hT hW) HOKS.out ⟨kd,⟨p1,p2,p3,p4,p5,p6⟩,⟨q1,q2,q3,q4,q5,q6⟩⟩ hDo;unfold evV at hCD;dsimp only at hCD;have HCD:=H_ hCD;clear hDo hd hsz hdoes hevk hfe2 hCD
               go_wp2_with (first
                | (go_at_call 101;refine (HC67.out _).mono ?_;rintro e w7 ⟨rfl,hf7⟩;obtain ⟨t0,t1,t2,t3,t4,t5,t6,t7,t8,t9,t10,t11,t12,tm,i0,i1,i2,i3,i4,i5,tl1,tl2,tl3,tl4⟩:=HCE.out w7 hf7)
                | (go_at_call 75;refine (HCD.out w7 hf7).mono ?_;rintro e w8 ⟨⟨v8,rfl⟩,F5,hs8,hf8,hn8⟩))
               have HS8:=H_ hs8;have HF8:=H_ hf8;have HN8:=H_ hn8;have HF7:=H_ hf7;clear hs8 hf8 hn8 hf7;go_roundg g
               case rel =>
                refine ⟨i+1,_,F5,by rw [HFE2.out],by rw [HRS.out],by go_num,by omega,by rw [HRS.out];omega,by rw [HRS.out];go_num,H_ (HOK2.out HEVK.out),HDOES,HS8,H_ (HM6.out.fr (S:=F3) ((HF7.out.mono fun _ _ h=>h.elim).trans HF8.out fun _ _ h=>h) fun h=>(HNF.out _ h).2 rfl),H_ ((HF16.out.trans0 HF7.out).trans HF8.out fun j hj h=>by have:=(HNF.out j h).1;omega),H_ fun b hb=>?_⟩;have hl:=HF16.out.size;have hl7:=HF7.out.size;have hlm:=HM6.out.lt;rcases HN8.out b hb with h | h
                · exact HNF.out b h
                exact ⟨by omega,by omega⟩
               case measure=>omega
          have hg:decide (p4 > D.mark)=false:=decide_eq_false hmm
          have hpm:p4=D.mark:=(by have:=HFST.out;omega);have HPM:=H_ hpm
          have hfk0:foldTo D i=D.kvs:=by
           unfold foldTo
           have:((D.events.take i).filter fun y=>decide (D.mark < y.kv.mod)) = []:=List.filter_eq_nil_iff.2 fun z hz=>by
            obtain ⟨j,hj⟩:=List.mem_iff_getElem?.1 hz;have hjl:=(List.getElem?_eq_some_iff.1 hj).1;rw [List.length_take] at hjl;rw [List.getElem?_take_of_lt (by omega)] at hj;have h7:=zjn (by omega) HOK.out j z (by omega) hj;rw [HRA.out] at h7;simp;omega
           rw [this]
           rfl
          have hmk:marksB ⟨kd,⟨p1,p2,p3,p4,p5,p6⟩,⟨q1,q2,q3,q4,q5,q6⟩⟩ (⟨n1,n2,n3,n4,n5,n6⟩,is) p4=zfq ⟨kd,⟨p1,p2,p3,p4,p5,p6⟩,⟨q1,q2,q3,q4,q5,q6⟩⟩ D.kvs D.mark:=by
           have h8:=zkz (D:=D) HOKK.out (x:=⟨kd,⟨p1,p2,p3,p4,p5,p6⟩,⟨q1,q2,q3,q4,q5,q6⟩⟩) HH4.out hpm;rw [show (⟨n1,n2,n3,n4,n5,n6⟩,is)=seen (hasL D.kvs p1) from by rw [<-hfk0];exact HLIV.out,hpm];rw [<-hpm];rw [<-hpm] at h8;exact h8
          have HMK:=H_ hmk;have HMB:Hid (marksB ⟨kd,⟨p1,p2,p3,p4,p5,p6⟩,⟨q1,q2,q3,q4,q5,q6⟩⟩ (⟨n1,n2,n3,n4,n5,n6⟩,is) p4 = !((!sameB ⟨q1,q2,q3,q4,q5,q6⟩ kv0 && (!keq q1 p1 || !mayB ⟨q1,q2,q3,q4,q5,q6⟩ (p4 - 1))) || (!zdk ⟨kd,⟨p1,p2,p3,p4,p5,p6⟩,⟨q1,q2,q3,q4,q5,q6⟩⟩ ⟨q1,q2,q3,q4,q5,q6⟩ p4 || ((kd == 1) != is || (is && !sameB ⟨n1,n2,n3,n4,n5,n6⟩ ⟨p1,p2,p3,p4,p5,p6⟩))))):=H_ rfl;have hsp:=HSM.out.evs ⟨kd,⟨p1,p2,p3,p4,p5,p6⟩,⟨q1,q2,q3,q4,q5,q6⟩⟩ (List.mem_of_getElem? HX.out);have hC63:=fun W=>zky W ⟨q1,q2,q3,q4,q5,q6⟩ hsx.2 (p4 - 1) hsp.2.2.1 hsp.2.2.2;rw [znm] at hC63;have hC67:=fun W=>zdj W ⟨kd,⟨p1,p2,p3,p4,p5,p6⟩,⟨q1,q2,q3,q4,q5,q6⟩⟩ ⟨q1,q2,q3,q4,q5,q6⟩ p4;unfold evV kvV at hC67;unfold kvV at hC63;dsimp only at hC63 hC67
          have HQ1:=H_ (fun W=>zkl W ⟨q1,q2,q3,q4,q5,q6⟩ ⟨⟨#[]⟩,⟨#[]⟩,0,0,0,0⟩);have HQ2:=H_ (fun W=>zkl W ⟨n1,n2,n3,n4,n5,n6⟩ ⟨p1,p2,p3,p4,p5,p6⟩);have hq0:sameB ⟨q1,q2,q3,q4,q5,q6⟩ ⟨⟨#[]⟩,⟨#[]⟩,0,0,0,0⟩=sameB ⟨q1,q2,q3,q4,q5,q6⟩ kv0:=rfl;rw [hq0] at HQ1;have hkt:(q1.toList == p1.toList)=keq q1 p1:=rfl;have hw1:IntKind.i64.wrap (p4 - 1)=p4 - 1:=IntWalk.i64_in _ ⟨by omega,by omega⟩;clear hq0 hmk hfk0 hpm hsp H67 hmm;generalize marksB ⟨kd,⟨p1,p2,p3,p4,p5,p6⟩,⟨q1,q2,q3,q4,q5,q6⟩⟩ (⟨n1,n2,n3,n4,n5,n6⟩,is) p4=mb0 at *;generalize sameB ⟨q1,q2,q3,q4,q5,q6⟩ kv0=a1 at *;generalize hA2:keq q1 p1=a2 at *;generalize mayB ⟨q1,q2,q3,q4,q5,q6⟩ (p4 - 1)=a3 at *;generalize zdk ⟨kd,⟨p1,p2,p3,p4,p5,p6⟩,⟨q1,q2,q3,q4,q5,q6⟩⟩ ⟨q1,q2,q3,q4,q5,q6⟩ p4=fl at *
          generalize hK1:(kd == 1)=k1 at *;generalize sameB ⟨n1,n2,n3,n4,n5,n6⟩ ⟨p1,p2,p3,p4,p5,p6⟩=qq at *;have HK1:=H_ hK1;have H63:=H_ hC63;have H67:=H_ hC67;clear hC63 hC67;go_upto_region 30 with fail
          go_cut [199] (fun s199 wx=>∃ bt:Bool,s199 = .bool bt/\Hid (bt = !mb0)/\Hid (Fr No W6 wx))
          case first =>
           as_aux_lemma =>
            cases a1 with
            | false =>
              cases a2 with
              | false =>
                go_wp2_with (first
                 | (with_reducible show wpList _ _ _ ({ dst:=some 158,op:=_,type:=_,pos:=_,after:=_,guard:=_ } :: _) _ _;refine zao .neq 57 _ _ _ rfl (by go_simp) (kvV ⟨q1,q2,q3,q4,q5,q6⟩) (kvV ⟨⟨#[]⟩,⟨#[]⟩,0,0,0,0⟩) _ (zam _ _ _ _ _) (HQ1.out _) (by unfold kvV;go_simp) (by unfold kvV;go_simp) ?_))
                go_meet
                case rel=>exact ⟨true,rfl,H_ (by rw [HMB.out];simp),H_ (Fr.refl No W6)⟩
              | true =>
                cases a3 with
                | false =>
                  go_wp2_with (first
                   | (with_reducible show wpList _ _ _ ({ dst:=some 158,op:=_,type:=_,pos:=_,after:=_,guard:=_ } :: _) _ _;refine zao .neq 57 _ _ _ rfl (by go_simp) (kvV ⟨q1,q2,q3,q4,q5,q6⟩) (kvV ⟨⟨#[]⟩,⟨#[]⟩,0,0,0,0⟩) _ (zam _ _ _ _ _) (HQ1.out _) (by unfold kvV;go_simp) (by unfold kvV;go_simp) ?_)
                   | (go_at_call 99;refine (H63.out _).mono ?_;rintro e w7 ⟨rfl,hf7⟩;obtain ⟨t0,t1,t2,t3,t4,t5,t6,t7,t8,t9,t10,t11,t12,tm,i0,i1,i2,i3,i4,i5,tl1,tl2,tl3,tl4⟩:=HCE.out w7 hf7))
                  go_meet
                  case rel=>exact ⟨true,rfl,H_ (by rw [HMB.out];simp),H_ (hf7)⟩
                | true =>
                  cases fl with
                  | false =>
                    go_wp2_with (first
                     | (with_reducible show wpList _ _ _ ({ dst:=some 158,op:=_,type:=_,pos:=_,after:=_,guard:=_ } :: _) _ _;refine zao .neq 57 _ _ _ rfl (by go_simp) (kvV ⟨q1,q2,q3,q4,q5,q6⟩) (kvV ⟨⟨#[]⟩,⟨#[]⟩,0,0,0,0⟩) _ (zam _ _ _ _ _) (HQ1.out _) (by unfold kvV;go_simp) (by unfold kvV;go_simp) ?_)
                     | (go_at_call 99;refine (H63.out _).mono ?_;rintro e w7 ⟨rfl,hf7⟩;obtain ⟨t0,t1,t2,t3,t4,t5,t6,t7,t8,t9,t10,t11,t12,tm,i0,i1,i2,i3,i4,i5,tl1,tl2,tl3,tl4⟩:=HCE.out w7 hf7)
                     | (go_at_call 101;refine (H67.out _).mono ?_;rintro e w8 ⟨rfl,hf8⟩;obtain ⟨x0,x1,x2,x3,x4,x5,x6,x7,x8,x9,x10,x11,x12,xm,y0,y1,y2,y3,y4,y5,xl1,xl2,xl3,xl4⟩:=HCE.out w8 (hf7.trans0 hf8)))
                    go_meet
                    case rel=>exact ⟨true,rfl,H_ (by rw [HMB.out];simp),H_ (hf7.trans0 hf8)⟩
                  | true =>
                    cases k1 with
                    | false =>
                      cases is with
                      | false =>
                        go_wp2_with (first
                         | (with_reducible show wpList _ _ _ ({ dst:=some 158,op:=_,type:=_,pos:=_,after:=_,guard:=_ } :: _) _ _;refine zao .neq 57 _ _ _ rfl (by go_simp) (kvV ⟨q1,q2,q3,q4,q5,q6⟩) (kvV ⟨⟨#[]⟩,⟨#[]⟩,0,0,0,0⟩) _ (zam _ _ _ _ _) (HQ1.out _) (by unfold kvV;go_simp) (by unfold kvV;go_simp) ?_)
                         | (go_at_call 99;refine (H63.out _).mono ?_;rintro e w7 ⟨rfl,hf7⟩;obtain ⟨t0,t1,t2,t3,t4,t5,t6,t7,t8,t9,t10,t11,t12,tm,i0,i1,i2,i3,i4,i5,tl1,tl2,tl3,tl4⟩:=HCE.out w7 hf7)
                         | (go_at_call 101;refine (H67.out _).mono ?_;rintro e w8 ⟨rfl,hf8⟩;obtain ⟨x0,x1,x2,x3,x4,x5,x6,x7,x8,x9,x10,x11,x12,xm,y0,y1,y2,y3,y4,y5,xl1,xl2,xl3,xl4⟩:=HCE.out w8 (hf7.trans0 hf8)))
                        go_meet
                        case rel=>exact ⟨false,rfl,H_ (by rw [HMB.out];simp),H_ (hf7.trans0 hf8)⟩
                      | true =>
                        go_wp2_with (first
                         | (with_reducible show wpList _ _ _ ({ dst:=some 158,op:=_,type:=_,pos:=_,after:=_,guard:=_ } :: _) _ _;refine zao .neq 57 _ _ _ rfl (by go_simp) (kvV ⟨q1,q2,q3,q4,q5,q6⟩) (kvV ⟨⟨#[]⟩,⟨#[]⟩,0,0,0,0⟩) _ (zam _ _ _ _ _) (HQ1.out _) (by unfold kvV;go_simp) (by unfold kvV;go_simp) ?_)
                         | (go_at_call 99;refine (H63.out _).mono ?_;rintro e w7 ⟨rfl,hf7⟩;obtain ⟨t0,t1,t2,t3,t4,t5,t6,t7,t8,t9,t10,t11,t12,tm,i0,i1,i2,i3,i4,i5,tl1,tl2,tl3,tl4⟩:=HCE.out w7 hf7)
                         | (go_at_call 101;refine (H67.out _).mono ?_;rintro e w8 ⟨rfl,hf8⟩;obtain ⟨x0,x1,x2,x3,x4,x5,x6,x7,x8,x9,x10,x11,x12,xm,y0,y1,y2,y3,y4,y5,xl1,xl2,xl3,xl4⟩:=HCE.out w8 (hf7.trans0 hf8)))
                        go_meet
                        case rel=>exact ⟨true,rfl,H_ (by rw [HMB.out];simp),H_ (hf7.trans0 hf8)⟩
                    | true =>
                      cases is with
                      | false =>
                        go_wp2_with (first
                         | (with_reducible show wpList _ _ _ ({ dst:=some 158,op:=_,type:=_,pos:=_,after:=_,guard:=_ } :: _) _ _;refine zao .neq 57 _ _ _ rfl (by go_simp) (kvV ⟨q1,q2,q3,q4,q5,q6⟩) (kvV ⟨⟨#[]⟩,⟨#[]⟩,0,0,0,0⟩) _ (zam _ _ _ _ _) (HQ1.out _) (by unfold kvV;go_simp) (by unfold kvV;go_simp) ?_)
                         | (go_at_call 99;refine (H63.out _).mono ?_;rintro e w7 ⟨rfl,hf7⟩;obtain ⟨t0,t1,t2,t3,t4,t5,t6,t7,t8,t9,t10,t11,t12,tm,i0,i1,i2,i3,i4,i5,tl1,tl2,tl3,tl4⟩:=HCE.out w7 hf7)
                         | (go_at_call 101;refine (H67.out _).mono ?_;rintro e w8 ⟨rfl,hf8⟩;obtain ⟨x0,x1,x2,x3,x4,x5,x6,x7,x8,x9,x10,x11,x12,xm,y0,y1,y2,y3,y4,y5,xl1,xl2,xl3,xl4⟩:=HCE.out w8 (hf7.trans0 hf8)))
                        go_meet
                        case rel=>exact ⟨true,rfl,H_ (by rw [HMB.out];simp),H_ (hf7.trans0 hf8)⟩
                      | true =>
                        cases qq with
                        | false =>
                          go_wp2_with (first
                           | (with_reducible show wpList _ _ _ ({ dst:=some 158,op:=_,type:=_,pos:=_,after:=_,guard:=_ } :: _) _ _;refine zao .neq 57 _ _ _ rfl (by go_simp) (kvV ⟨q1,q2,q3,q4,q5,q6⟩) (kvV ⟨⟨#[]⟩,⟨#[]⟩,0,0,0,0⟩) _ (zam _ _ _ _ _) (HQ1.out _) (by unfold kvV;go_simp) (by unfold kvV;go_simp) ?_)
                           | (go_at_call 99;refine (H63.out _).mono ?_;rintro e w7 ⟨rfl,hf7⟩;obtain ⟨t0,t1,t2,t3,t4,t5,t6,t7,t8,t9,t10,t11,t12,tm,i0,i1,i2,i3,i4,i5,tl1,tl2,tl3,tl4⟩:=HCE.out w7 hf7)
                           | (go_at_call 101;refine (H67.out _).mono ?_;rintro e w8 ⟨rfl,hf8⟩;obtain ⟨x0,x1,x2,x3,x4,x5,x6,x7,x8,x9,x10,x11,x12,xm,y0,y1,y2,y3,y4,y5,xl1,xl2,xl3,xl4⟩:=HCE.out w8 (hf7.trans0 hf8))
                           | (with_reducible show wpList _ _ _ ({ dst:=some 197,op:=_,type:=_,pos:=_,after:=_,guard:=_ } :: _) _ _;refine zao .neq 57 _ _ _ rfl (by go_simp) (kvV ⟨n1,n2,n3,n4,n5,n6⟩) (kvV ⟨p1,p2,p3,p4,p5,p6⟩) _ (zam _ _ _ _ _) (HQ2.out _) (by unfold kvV;go_simp) (by unfold kvV;go_simp) ?_))
                          go_meet
                          case rel=>exact ⟨true,rfl,H_ (by rw [HMB.out];simp),H_ (hf7.trans0 hf8)⟩
                        | true =>
                          go_wp2_with (first
                           | (with_reducible show wpList _ _ _ ({ dst:=some 158,op:=_,type:=_,pos:=_,after:=_,guard:=_ } :: _) _ _;refine zao .neq 57 _ _ _ rfl (by go_simp) (kvV ⟨q1,q2,q3,q4,q5,q6⟩) (kvV ⟨⟨#[]⟩,⟨#[]⟩,0,0,0,0⟩) _ (zam _ _ _ _ _) (HQ1.out _) (by unfold kvV;go_simp) (by unfold kvV;go_simp) ?_)
                           | (go_at_call 99;refine (H63.out _).mono ?_;rintro e w7 ⟨rfl,hf7⟩;obtain ⟨t0,t1,t2,t3,t4,t5,t6,t7,t8,t9,t10,t11,t12,tm,i0,i1,i2,i3,i4,i5,tl1,tl2,tl3,tl4⟩:=HCE.out w7 hf7)
                           | (go_at_call 101;refine (H67.out _).mono ?_;rintro e w8 ⟨rfl,hf8⟩;obtain ⟨x0,x1,x2,x3,x4,x5,x6,x7,x8,x9,x10,x11,x12,xm,y0,y1,y2,y3,y4,y5,xl1,xl2,xl3,xl4⟩:=HCE.out w8 (hf7.trans0 hf8))
                           | (with_reducible show wpList _ _ _ ({ dst:=some 197,op:=_,type:=_,pos:=_,after:=_,guard:=_ } :: _) _ _;refine zao .neq 57 _ _ _ rfl (by go_simp) (kvV ⟨n1,n2,n3,n4,n5,n6⟩) (kvV ⟨p1,p2,p3,p4,p5,p6⟩) _ (zam _ _ _ _ _) (HQ2.out _) (by unfold kvV;go_simp) (by unfold kvV;go_simp) ?_))
                          go_meet
                          case rel=>exact ⟨false,rfl,H_ (by rw [HMB.out];simp),H_ (hf7.trans0 hf8)⟩
            | true =>
              cases fl with
              | false =>
                go_wp2_with (first
                 | (with_reducible show wpList _ _ _ ({ dst:=some 158,op:=_,type:=_,pos:=_,after:=_,guard:=_ } :: _) _ _;refine zao .neq 57 _ _ _ rfl (by go_simp) (kvV ⟨q1,q2,q3,q4,q5,q6⟩) (kvV ⟨⟨#[]⟩,⟨#[]⟩,0,0,0,0⟩) _ (zam _ _ _ _ _) (HQ1.out _) (by unfold kvV;go_simp) (by unfold kvV;go_simp) ?_)
                 | (go_at_call 101;refine (H67.out _).mono ?_;rintro e w8 ⟨rfl,hf8⟩;obtain ⟨x0,x1,x2,x3,x4,x5,x6,x7,x8,x9,x10,x11,x12,xm,y0,y1,y2,y3,y4,y5,xl1,xl2,xl3,xl4⟩:=HCE.out w8 hf8))
                go_meet
                case rel=>exact ⟨true,rfl,H_ (by rw [HMB.out];simp),H_ (hf8)⟩
              | true =>
                cases k1 with
                | false =>
                  cases is with
                  | false =>
                    go_wp2_with (first
                     | (with_reducible show wpList _ _ _ ({ dst:=some 158,op:=_,type:=_,pos:=_,after:=_,guard:=_ } :: _) _ _;refine zao .neq 57 _ _ _ rfl (by go_simp) (kvV ⟨q1,q2,q3,q4,q5,q6⟩) (kvV ⟨⟨#[]⟩,⟨#[]⟩,0,0,0,0⟩) _ (zam _ _ _ _ _) (HQ1.out _) (by unfold kvV;go_simp) (by unfold kvV;go_simp) ?_)
                     | (go_at_call 101;refine (H67.out _).mono ?_;rintro e w8 ⟨rfl,hf8⟩;obtain ⟨x0,x1,x2,x3,x4,x5,x6,x7,x8,x9,x10,x11,x12,xm,y0,y1,y2,y3,y4,y5,xl1,xl2,xl3,xl4⟩:=HCE.out w8 hf8))
                    go_meet
                    case rel=>exact ⟨false,rfl,H_ (by rw [HMB.out];simp),H_ (hf8)⟩
                  | true =>
                    go_wp2_with (first
                     | (with_reducible show wpList _ _ _ ({ dst:=some 158,op:=_,type:=_,pos:=_,after:=_,guard:=_ } :: _) _ _;refine zao .neq 57 _ _ _ rfl (by go_simp) (kvV ⟨q1,q2,q3,q4,q5,q6⟩) (kvV ⟨⟨#[]⟩,⟨#[]⟩,0,0,0,0⟩) _ (zam _ _ _ _ _) (HQ1.out _) (by unfold kvV;go_simp) (by unfold kvV;go_simp) ?_)
                     | (go_at_call 101;refine (H67.out _).mono ?_;rintro e w8 ⟨rfl,hf8⟩;obtain ⟨x0,x1,x2,x3,x4,x5,x6,x7,x8,x9,x10,x11,x12,xm,y0,y1,y2,y3,y4,y5,xl1,xl2,xl3,xl4⟩:=HCE.out w8 hf8))
                    go_meet
                    case rel=>exact ⟨true,rfl,H_ (by rw [HMB.out];simp),H_ (hf8)⟩
                | true =>
                  cases is with
                  | false =>
                    go_wp2_with (first
                     | (with_reducible show wpList _ _ _ ({ dst:=some 158,op:=_,type:=_,pos:=_,after:=_,guard:=_ } :: _) _ _;refine zao .neq 57 _ _ _ rfl (by go_simp) (kvV ⟨q1,q2,q3,q4,q5,q6⟩) (kvV ⟨⟨#[]⟩,⟨#[]⟩,0,0,0,0⟩) _ (zam _ _ _ _ _) (HQ1.out _) (by unfold kvV;go_simp) (by unfold kvV;go_simp) ?_)
                     | (go_at_call 101;refine (H67.out _).mono ?_;rintro e w8 ⟨rfl,hf8⟩;obtain ⟨x0,x1,x2,x3,x4,x5,x6,x7,x8,x9,x10,x11,x12,xm,y0,y1,y2,y3,y4,y5,xl1,xl2,xl3,xl4⟩:=HCE.out w8 hf8))
                    go_meet
                    case rel=>exact ⟨true,rfl,H_ (by rw [HMB.out];simp),H_ (hf8)⟩
                  | true =>
                    cases qq with
                    | false =>
                      go_wp2_with (first
                       | (with_reducible show wpList _ _ _ ({ dst:=some 158,op:=_,type:=_,pos:=_,after:=_,guard:=_ } :: _) _ _;refine zao .neq 57 _ _ _ rfl (by go_simp) (kvV ⟨q1,q2,q3,q4,q5,q6⟩) (kvV ⟨⟨#[]⟩,⟨#[]⟩,0,0,0,0⟩) _ (zam _ _ _ _ _) (HQ1.out _) (by unfold kvV;go_simp) (by unfold kvV;go_simp) ?_)
                       | (go_at_call 101;refine (H67.out _).mono ?_;rintro e w8 ⟨rfl,hf8⟩;obtain ⟨x0,x1,x2,x3,x4,x5,x6,x7,x8,x9,x10,x11,x12,xm,y0,y1,y2,y3,y4,y5,xl1,xl2,xl3,xl4⟩:=HCE.out w8 hf8)
                       | (with_reducible show wpList _ _ _ ({ dst:=some 197,op:=_,type:=_,pos:=_,after:=_,guard:=_ } :: _) _ _;refine zao .neq 57 _ _ _ rfl (by go_simp) (kvV ⟨n1,n2,n3,n4,n5,n6⟩) (kvV ⟨p1,p2,p3,p4,p5,p6⟩) _ (zam _ _ _ _ _) (HQ2.out _) (by unfold kvV;go_simp) (by unfold kvV;go_simp) ?_))
                      go_meet
                      case rel=>exact ⟨true,rfl,H_ (by rw [HMB.out];simp),H_ (hf8)⟩
                    | true =>
                      go_wp2_with (first
                       | (with_reducible show wpList _ _ _ ({ dst:=some 158,op:=_,type:=_,pos:=_,after:=_,guard:=_ } :: _) _ _;refine zao .neq 57 _ _ _ rfl (by go_simp) (kvV ⟨q1,q2,q3,q4,q5,q6⟩) (kvV ⟨⟨#[]⟩,⟨#[]⟩,0,0,0,0⟩) _ (zam _ _ _ _ _) (HQ1.out _) (by unfold kvV;go_simp) (by unfold kvV;go_simp) ?_)
                       | (go_at_call 101;refine (H67.out _).mono ?_;rintro e w8 ⟨rfl,hf8⟩;obtain ⟨x0,x1,x2,x3,x4,x5,x6,x7,x8,x9,x10,x11,x12,xm,y0,y1,y2,y3,y4,y5,xl1,xl2,xl3,xl4⟩:=HCE.out w8 hf8)
                       | (with_reducible show wpList _ _ _ ({ dst:=some 197,op:=_,type:=_,pos:=_,after:=_,guard:=_ } :: _) _ _;refine zao .neq 57 _ _ _ rfl (by go_simp) (kvV ⟨n1,n2,n3,n4,n5,n6⟩) (kvV ⟨p1,p2,p3,p4,p5,p6⟩) _ (zam _ _ _ _ _) (HQ2.out _) (by unfold kvV;go_simp) (by unfold kvV;go_simp) ?_))
                      go_meet
                      case rel=>exact ⟨false,rfl,H_ (by rw [HMB.out];simp),H_ (hf8)⟩
          case rest =>
           obtain ⟨bt,rfl,HBT,HQ6⟩:=hcut;obtain ⟨t0,t1,t2,t3,t4,t5,t6,t7,t8,t9,t10,t11,t12,tm,i0,i1,i2,i3,i4,i5,tl1,tl2,tl3,tl4⟩:=HCE.out wc HQ6.out;clear r0 r1 r2 r3 r4 r5 r6 r7 r8 r9 r10 r11 r12 bm j0 j1 j2 j3 j4 j5 lnb lbx lmb lss
           cases mb0 with
           | false =>
             have hbt:bt=true:=HBT.out;subst hbt
             have HN:Hid (¬ zar D):=H_ (fun h=>by
              have h7:=(HNOK.out h).mkd HPM.out;rw [<-HMK.out] at h7;cases h7)
             go_wp2
             go_ret2
             exact MadeR.no HN.out (HF1.out.trans0 (HF16.out.trans0 HQ6.out))
           | true =>
             have hbt:bt=false:=HBT.out;subst hbt
             have hki:k1=is:=by
              have h7:=HMB.out;cases k1 <;> cases is
              · rfl
              · cases a1 <;> cases a2 <;> cases a3 <;> cases fl <;> cases h7
              · cases a1 <;> cases a2 <;> cases a3 <;> cases fl <;> cases h7
              rfl
             have hevk:EvOk D i ⟨kd,⟨p1,p2,p3,p4,p5,p6⟩,⟨q1,q2,q3,q4,q5,q6⟩⟩:=⟨by rw [HFST.out];exact h1,by rw [HRA.out];exact h2,by rw [HRA.out];exact h3,fun j y hj hy hm=>HH5.out j y hj hy hm,fun _=>HMK.out.symm,fun e=>absurd HPM.out e⟩;have hmkd:=HEI.out.marked HX.out hevk HPM.out;have HEVK:=H_ hevk;have HMKD:=H_ hmkd
             have hfe2:freshE D (i+1)=freshE D i+(if is=true then 1 else 0):=by
              rw [HFE1.out,HPM.out,beq_self_eq_true,Bool.true_and];rw [hki]
             have HFE2:=H_ hfe2;clear hevk hmkd hfe2 hki HBT HMB;obtain ⟨t,p,evv,hp,FT,FH,a,hF3⟩:=HST6.out.fr0 hT HQ6.out;obtain ⟨sa,scap,rfl,hc1,hc2,hea⟩:=a.events.shape;have HA:=H_ a;have HF3:=H_ hF3;have c5:=a.obj.cell 5 rfl;have f5:=a.obj.free 5;have ls:=a.obj.lt;have hevn:=HOKS.out.ev;have HMW:=H_ (MapS.fr (S:=No) HM6.out HQ6.out id);clear a hF3 hea
             cases is with
             | false =>
               have hfe2:freshE D (i+1)=freshE D i:=HFE2.out;have HFE3:=H_ hfe2;clear hfe2;go_wp2_with fail;obtain ⟨i0,hi0,hz0,hz1,hz2⟩:=info_parts info73;have hnew:=zas wc.drew [.int .i64 kd,.string p1,.string p2,.int .i64 p3,.int .i64 p4,.int .i64 p5,.int .i64 p6,.string q1,.string q2,.int .i64 q3,.int .i64 q4,.int .i64 q5,.int .i64 q6] 73 (0,0);have hes:(Value.slice sa S.events.length scap).ownBlock≠some s:=HA.out.ds.2.1;have hevl:=HA.out.events.lt
               go_region_law (refine zbj rfl _ _ 34 rfl 73 i0 _ 13 136 Try.underlying34 hi0 hz0 hz1 hz2 rfl (by decide) _ S.events rfl (HA.out.events.fr0 ((Fr.refl No wc).drew.alloc _)) wc.heap.size 1 ⟨kd,⟨p1,p2,p3,p4,p5,p6⟩,⟨q1,q2,q3,q4,q5,q6⟩⟩ rfl hnew rfl (by intro u hu;simp [evC,kvC] at hu;rcases hu with rfl | rfl | rfl | rfl | rfl | rfl | rfl | rfl | rfl | rfl | rfl | rfl | rfl <;> rfl) (by unfold maxLen;omega) (by omega) ?_;intro g1 o' cap w11 hs11 hg11 hb11 hlt11;have hf11:Fr (fun k=>(Value.slice sa S.events.length scap).ownBlock=some k) wc w11:=((Fr.refl _ wc).drew.alloc _).grown hg11 (fun k hk=>.inl hk);have e5:=hf11.cell c5 hes;have ef:=hf11.free c5 f5 hes;have HS11:=H_ hs11;have HB11:=H_ hb11;have HF11:=H_ hf11;clear hs11 hg11 hb11 hf11)
               all_goals
                have hgs:g1≠s/\((Value.slice sa S.events.length scap).ownBlock=some g1\/wc.heap.size<=g1):=by
                 rcases HB11.out with h | h
                 · exact ⟨fun e=>hes (e ▸ h),.inl h⟩
                 have h':g1=wc.heap.size+1:=by simpa using h
                 exact ⟨by omega,.inr (by omega)⟩
                have HGS:=H_ hgs;clear hgs;go_wp2;go_roundg g
                case rel =>
                 have hgs:=HGS.out
                 have hfE:Fr (fun b=>b=s\/(Value.slice sa S.events.length scap).ownBlock=some b) wc (w11.setCell ⟨s,5,none⟩ (.slice (some ⟨g1,o',none⟩) (S.events.length+1) cap)) :=
                  (HF11.out.mono fun _ _ h=>.inr h).setCell (p:=⟨s,5,none⟩) (.inl (.inl rfl)) _
                 have ho:=(HA.out.obj.fr HF11.out hes).set 5 (.slice (some ⟨g1,o',none⟩) (S.events.length+1) cap);have he:=HS11.out.other ⟨s,5,none⟩ (.slice (some ⟨g1,o',none⟩) (S.events.length+1) cap) (by simp [Value.ownBlock];exact hgs.1)
                 have hfin:=HA.out.setEvents hT hfE ho he (fun b hb=>by
                  obtain rfl:g1=b:=by simpa [Value.ownBlock] using hb
                  exact hgs.2)
                 have hin:∀ b,(b=s\/(Value.slice sa S.events.length scap).ownBlock=some b)->F3 b:=fun b hb=>(HF3.out b).2 (by
                  rcases hb with e | e
                  · exact .inl e
                  exact .inr (.inr (.inr (.inl e))))
                 have hl:=HF16.out.size;have hl7:=HQ6.out.size;have hlm:=HMW.out.lt;refine ⟨i+1,_,_,by rw [HFE3.out],by rw [HRS.out],by go_num,by omega,by rw [HRS.out];omega,by rw [HRS.out];go_num,H_ (HOK2.out HEVK.out),HMKD,H_ ⟨t,p,_,hp,FT,FH,hfin,fun _=>Iff.rfl⟩,H_ (HMW.out.fr hfE fun e=>(HNF.out _ (hin _ e)).2 rfl),H_ ((HF16.out.trans0 HQ6.out).trans hfE fun j hj h=>by have:=(HNF.out j (hin j h)).1;omega),H_ fun b hb=>?_⟩;have old:∀ b,F3 b->W1.heap.size<=b/\b≠ms:=HNF.out;rcases hb with e | e | e | e | e
                 · exact old b ((HF3.out b).2 (.inl e))
                 · exact old b ((HF3.out b).2 (.inr (.inl e)))
                 · exact old b ((HF3.out b).2 (.inr (.inr (.inl e))))
                 · obtain rfl:g1=b:=by simpa [Value.ownBlock] using e
                   rcases hgs.2 with h | h
                   · exact old _ ((HF3.out _).2 (.inr (.inr (.inr (.inl h)))))
                   exact ⟨by omega,by omega⟩
                 exact old b ((HF3.out b).2 (.inr (.inr (.inr (.inr e)))))
                case measure=>omega
             | true =>
               have hfe2:freshE D (i+1)=freshE D i+1:=HFE2.out;have HFE3:=H_ hfe2;clear hfe2;go_wp2_with fail;obtain ⟨i0,hi0,hz0,hz1,hz2⟩:=info_parts info73;have hnew:=zas wc.drew [.int .i64 kd,.string p1,.string p2,.int .i64 p3,.int .i64 p4,.int .i64 p5,.int .i64 p6,.string q1,.string q2,.int .i64 q3,.int .i64 q4,.int .i64 q5,.int .i64 q6] 73 (0,0);have hes:(Value.slice sa S.events.length scap).ownBlock≠some s:=HA.out.ds.2.1;have hevl:=HA.out.events.lt
               go_region_law (refine zbj rfl _ _ 34 rfl 73 i0 _ 13 136 Try.underlying34 hi0 hz0 hz1 hz2 rfl (by decide) _ S.events rfl (HA.out.events.fr0 ((Fr.refl No wc).drew.alloc _)) wc.heap.size 1 ⟨kd,⟨p1,p2,p3,p4,p5,p6⟩,⟨q1,q2,q3,q4,q5,q6⟩⟩ rfl hnew rfl (by intro u hu;simp [evC,kvC] at hu;rcases hu with rfl | rfl | rfl | rfl | rfl | rfl | rfl | rfl | rfl | rfl | rfl | rfl | rfl <;> rfl) (by unfold maxLen;omega) (by omega) ?_;intro g1 o' cap w11 hs11 hg11 hb11 hlt11;have hf11:Fr (fun k=>(Value.slice sa S.events.length scap).ownBlock=some k) wc w11:=((Fr.refl _ wc).drew.alloc _).grown hg11 (fun k hk=>.inl hk);have e5:=hf11.cell c5 hes;have ef:=hf11.free c5 f5 hes;have HS11:=H_ hs11;have HB11:=H_ hb11;have HF11:=H_ hf11;clear hs11 hg11 hb11 hf11)
               all_goals
                have hgs:g1≠s/\((Value.slice sa S.events.length scap).ownBlock=some g1\/wc.heap.size<=g1):=by
                 rcases HB11.out with h | h
                 · exact ⟨fun e=>hes (e ▸ h),.inl h⟩
                 have h':g1=wc.heap.size+1:=by simpa using h
                 exact ⟨by omega,.inr (by omega)⟩
                have HGS:=H_ hgs;clear hgs;go_wp2;go_roundg g
                case rel =>
                 have hgs:=HGS.out
                 have hfE:Fr (fun b=>b=s\/(Value.slice sa S.events.length scap).ownBlock=some b) wc (w11.setCell ⟨s,5,none⟩ (.slice (some ⟨g1,o',none⟩) (S.events.length+1) cap)) :=
                  (HF11.out.mono fun _ _ h=>.inr h).setCell (p:=⟨s,5,none⟩) (.inl (.inl rfl)) _
                 have ho:=(HA.out.obj.fr HF11.out hes).set 5 (.slice (some ⟨g1,o',none⟩) (S.events.length+1) cap);have he:=HS11.out.other ⟨s,5,none⟩ (.slice (some ⟨g1,o',none⟩) (S.events.length+1) cap) (by simp [Value.ownBlock];exact hgs.1)
                 have hfin:=HA.out.setEvents hT hfE ho he (fun b hb=>by
                  obtain rfl:g1=b:=by simpa [Value.ownBlock] using hb
                  exact hgs.2)
                 have hin:∀ b,(b=s\/(Value.slice sa S.events.length scap).ownBlock=some b)->F3 b:=fun b hb=>(HF3.out b).2 (by
                  rcases hb with e | e
                  · exact .inl e
                  exact .inr (.inr (.inr (.inl e))))
                 have hl:=HF16.out.size;have hl7:=HQ6.out.size;have hlm:=HMW.out.lt;refine ⟨i+1,_,_,by rw [HFE3.out];go_num,by rw [HRS.out],by go_num,by omega,by rw [HRS.out];omega,by rw [HRS.out];go_num,H_ (HOK2.out HEVK.out),HMKD,H_ ⟨t,p,_,hp,FT,FH,hfin,fun _=>Iff.rfl⟩,H_ (HMW.out.fr hfE fun e=>(HNF.out _ (hin _ e)).2 rfl),H_ ((HF16.out.trans0 HQ6.out).trans hfE fun j hj h=>by have:=(HNF.out j (hin j h)).1;omega),H_ fun b hb=>?_⟩;have old:∀ b,F3 b->W1.heap.size<=b/\b≠ms:=HNF.out;rcases hb with e | e | e | e | e
                 · exact old b ((HF3.out b).2 (.inl e))
                 · exact old b ((HF3.out b).2 (.inr (.inl e)))
                 · exact old b ((HF3.out b).2 (.inr (.inr (.inl e))))
                 · obtain rfl:g1=b:=by simpa [Value.ownBlock] using e
                   rcases hgs.2 with h | h
                   · exact old _ ((HF3.out _).2 (.inr (.inr (.inr (.inl h)))))
                   exact ⟨by omega,by omega⟩
                 exact old b ((HF3.out b).2 (.inr (.inr (.inr (.inr e)))))
                case measure=>omega
end Go.Proofs.Ythljnnjpmdgkoaa
