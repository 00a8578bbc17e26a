/- The statement's function WatchResumes, walked: it returns true, whatever its arguments are. -/
import Derived.Test.YtdgkdfmfoonbpaaGreatR30
import Derived.Test.YtdgkdfmfoonbpaaGreatR33
import Derived.Deep.RegionHeld3
import Derived.Deep.DeepCutAuto
import Derived.Deep.CutBlock
namespace Go.Proofs.YtdgkdfmfoonbpaaGreat
open Go Go.Proofs Go.RowKit
set_option maxRecDepth 100000
theorem zvs (t:Wt):∀ u∈wtC t,u.oneCell'=true:=by
 intro u a;unfold wtC at a;simp only [List.mem_cons,List.not_mem_nil,or_false] at a;rcases a with h | h | h | h | h | h <;> (rw [h];rfl)
set_option maxHeartbeats 32000000 in
theorem zgn {TA:zai} (hT:TreeOk TA 1000000) (hTD:TreeDl TA) (w:World) (v1:Value) (l1:List ActQ) (t:Wt) (v2:Value) (l2:List ActQ) (v3:Value) (l3:List ActQ) (hv1:ActR w v1 l1) (hfr:(Lit.int .i64 t.frm).wf=true) (hv2:ActR w v2 l2) (hv3:ActR w v3 l3) :
 Calls Tryz.prog 5 #[v1,wtV t,v2,v3] w fun e w'=>e=.returned (.bool true)/\Fr No w w':=by
 have cT:wtV t=.agg (wtC t).toArray:=rfl;rw [cT];have a1:=H_ fun W (hW:Fr No w W)=>zee W v1 l1 (hv1.fr0 hW);have a2:=H_ fun W (hW:Fr No w W)=>zee W v2 l2 (hv2.fr0 hW);have a3:=H_ fun W (hW:Fr No w W)=>zee W v3 l3 (hv3.fr0 hW);have CW:Hid (∀ W,Calls Tryz.prog 18 #[.agg (wtC t).toArray] W fun e w'=>e=.returned (.bool (fewW t))/\Fr No W w'):=H_ fun W=>zjq W t;have Y:=H_ fun W=>zkr hT W;obtain ⟨eM,eP,cP,eh,en,bk⟩:=hv1.sl.shape;obtain ⟨eN,eQ,cQ,ei,eo,bl⟩:=hv2.sl.shape;obtain ⟨eO,eR,cR,ej,ep,bm⟩:=hv3.sl.shape;subst cP cQ cR;have aG:=H_ hv1;have aH:=H_ hv2;have aI:=H_ hv3;have cl:=H_ bk;have cm:=H_ bl;have cn:=H_ bm;have cd:=H_ hfr;have c:=H_ (zae w (.cells (wtC t).toArray 29) _ rfl)
 have f:Hid (Fr No w (w.alloc (.cells (wtC t).toArray 29))):=H_ ((Fr.refl No w).alloc _);clear hv1 hv2 hv3 bk bl bm hfr cT
 cases hfl1:zda l1 with
 | false =>
   rw [hfl1] at a1
   as_aux_lemma =>
   go_enter Tryz.func5,Tryz.ntmps5;go_upto_region 1 with fail;generalize b3:w.heap.size=l at *;generalize w.alloc (.cells (wtC t).toArray 29)=W1 at *;have lb:=zac c.out
   go_wp2_with (first
    | (go_at_call 9;(with_reducible refine (a1.out _ f.out).mono ?_);rintro e C ⟨rfl,a⟩;have c:=H_ (a.heap c.out fun h=>h);have n:=zac c.out;have f:=H_ (f.out.trans0 a);clear a)
    | (with_reducible show wpList _ _ _ ({ dst:=some 29,op:=_,type:=_,pos:=_,after:=_,guard:=_ } :: _) _ _
       refine zbp rfl 29 _ rfl l 0 rfl (wtC t) (zbc c.out 0 6) row29 (info29l t) ?_)
    | (go_at_call 18;(with_reducible refine (CW.out _).mono ?_);rintro e C ⟨rfl,a⟩;have c:=H_ (a.heap c.out fun h=>h);have n:=zac c.out;have f:=H_ (f.out.trans0 a);clear a)
    | (go_at_call 9;(with_reducible refine (a2.out _ f.out).mono ?_);rintro e C ⟨rfl,a⟩;have c:=H_ (a.heap c.out fun h=>h);have n:=zac c.out;have f:=H_ (f.out.trans0 a);clear a)
    | (go_at_call 9;(with_reducible refine (a3.out _ f.out).mono ?_);rintro e C ⟨rfl,a⟩;have c:=H_ (a.heap c.out fun h=>h);have n:=zac c.out;have f:=H_ (f.out.trans0 a);clear a)
    | (go_at_call 10;refine (Y.out _).mono ?_;rintro e G ⟨rfl,k⟩))
   go_ret;exact ⟨rfl,f.out.trans0 k⟩
 | true =>
   rw [hfl1] at a1
   cases hfw:fewW t with
   | false =>
     rw [hfw] at CW
     as_aux_lemma =>
     go_enter Tryz.func5,Tryz.ntmps5;go_upto_region 1 with fail;generalize b3:w.heap.size=l at *;generalize w.alloc (.cells (wtC t).toArray 29)=W1 at *;have lb:=zac c.out
     go_wp2_with (first
      | (go_at_call 9;(with_reducible refine (a1.out _ f.out).mono ?_);rintro e C ⟨rfl,a⟩;have c:=H_ (a.heap c.out fun h=>h);have n:=zac c.out;have f:=H_ (f.out.trans0 a);clear a)
      | (with_reducible show wpList _ _ _ ({ dst:=some 29,op:=_,type:=_,pos:=_,after:=_,guard:=_ } :: _) _ _
         refine zbp rfl 29 _ rfl l 0 rfl (wtC t) (zbc c.out 0 6) row29 (info29l t) ?_)
      | (go_at_call 18;(with_reducible refine (CW.out _).mono ?_);rintro e C ⟨rfl,a⟩;have c:=H_ (a.heap c.out fun h=>h);have n:=zac c.out;have f:=H_ (f.out.trans0 a);clear a)
      | (go_at_call 9;(with_reducible refine (a2.out _ f.out).mono ?_);rintro e C ⟨rfl,a⟩;have c:=H_ (a.heap c.out fun h=>h);have n:=zac c.out;have f:=H_ (f.out.trans0 a);clear a)
      | (go_at_call 9;(with_reducible refine (a3.out _ f.out).mono ?_);rintro e C ⟨rfl,a⟩;have c:=H_ (a.heap c.out fun h=>h);have n:=zac c.out;have f:=H_ (f.out.trans0 a);clear a)
      | (go_at_call 10;refine (Y.out _).mono ?_;rintro e G ⟨rfl,k⟩))
     go_ret;exact ⟨rfl,f.out.trans0 k⟩
   | true =>
     rw [hfw] at CW
     cases hfl2:zda l2 with
     | false =>
       rw [hfl2] at a2
       as_aux_lemma =>
       go_enter Tryz.func5,Tryz.ntmps5;go_upto_region 1 with fail;generalize b3:w.heap.size=l at *;generalize w.alloc (.cells (wtC t).toArray 29)=W1 at *;have lb:=zac c.out
       go_wp2_with (first
        | (go_at_call 9;(with_reducible refine (a1.out _ f.out).mono ?_);rintro e C ⟨rfl,a⟩;have c:=H_ (a.heap c.out fun h=>h);have n:=zac c.out;have f:=H_ (f.out.trans0 a);clear a)
        | (with_reducible show wpList _ _ _ ({ dst:=some 29,op:=_,type:=_,pos:=_,after:=_,guard:=_ } :: _) _ _
           refine zbp rfl 29 _ rfl l 0 rfl (wtC t) (zbc c.out 0 6) row29 (info29l t) ?_)
        | (go_at_call 18;(with_reducible refine (CW.out _).mono ?_);rintro e C ⟨rfl,a⟩;have c:=H_ (a.heap c.out fun h=>h);have n:=zac c.out;have f:=H_ (f.out.trans0 a);clear a)
        | (go_at_call 9;(with_reducible refine (a2.out _ f.out).mono ?_);rintro e C ⟨rfl,a⟩;have c:=H_ (a.heap c.out fun h=>h);have n:=zac c.out;have f:=H_ (f.out.trans0 a);clear a)
        | (go_at_call 9;(with_reducible refine (a3.out _ f.out).mono ?_);rintro e C ⟨rfl,a⟩;have c:=H_ (a.heap c.out fun h=>h);have n:=zac c.out;have f:=H_ (f.out.trans0 a);clear a)
        | (go_at_call 10;refine (Y.out _).mono ?_;rintro e G ⟨rfl,k⟩))
       go_ret;exact ⟨rfl,f.out.trans0 k⟩
     | true =>
       rw [hfl2] at a2
       cases hfl3:zda l3 with
       | false =>
         rw [hfl3] at a3
         as_aux_lemma =>
         go_enter Tryz.func5,Tryz.ntmps5;go_upto_region 1 with fail;generalize b3:w.heap.size=l at *;generalize w.alloc (.cells (wtC t).toArray 29)=W1 at *;have lb:=zac c.out
         go_wp2_with (first
          | (go_at_call 9;(with_reducible refine (a1.out _ f.out).mono ?_);rintro e C ⟨rfl,a⟩;have c:=H_ (a.heap c.out fun h=>h);have n:=zac c.out;have f:=H_ (f.out.trans0 a);clear a)
          | (with_reducible show wpList _ _ _ ({ dst:=some 29,op:=_,type:=_,pos:=_,after:=_,guard:=_ } :: _) _ _
             refine zbp rfl 29 _ rfl l 0 rfl (wtC t) (zbc c.out 0 6) row29 (info29l t) ?_)
          | (go_at_call 18;(with_reducible refine (CW.out _).mono ?_);rintro e C ⟨rfl,a⟩;have c:=H_ (a.heap c.out fun h=>h);have n:=zac c.out;have f:=H_ (f.out.trans0 a);clear a)
          | (go_at_call 9;(with_reducible refine (a2.out _ f.out).mono ?_);rintro e C ⟨rfl,a⟩;have c:=H_ (a.heap c.out fun h=>h);have n:=zac c.out;have f:=H_ (f.out.trans0 a);clear a)
          | (go_at_call 9;(with_reducible refine (a3.out _ f.out).mono ?_);rintro e C ⟨rfl,a⟩;have c:=H_ (a.heap c.out fun h=>h);have n:=zac c.out;have f:=H_ (f.out.trans0 a);clear a)
          | (go_at_call 10;refine (Y.out _).mono ?_;rintro e G ⟨rfl,k⟩))
         go_ret;exact ⟨rfl,f.out.trans0 k⟩
       | true =>
         rw [hfl3] at a3;obtain ⟨et,bU⟩:=zed hfl1;obtain ⟨eu,cJ⟩:=zed hfl2;obtain ⟨ev,cK⟩:=zed hfl3;have ca:=H_ bU;have cb:=H_ cJ;have cc:=H_ cK
         have aJ:t.key.size<=3000:=by
          unfold fewW fewKey at hfw;simp only [Bool.and_eq_true,decide_eq_true_eq] at hfw;exact hfw.1
         clear bU cJ cK hfl1 hfl2 hfl3 hfw;go_enter Tryz.func5,Tryz.ntmps5;go_upto_region 1 with fail;generalize b3:w.heap.size=l at *;generalize w.alloc (.cells (wtC t).toArray 29)=W1 at *;have lb:=zac c.out
         go_upto_region 4 with (first
          | (go_at_call 9;(with_reducible refine (a1.out _ f.out).mono ?_);rintro e C ⟨rfl,a⟩;have c:=H_ (a.heap c.out fun h=>h);have n:=zac c.out;have f:=H_ (f.out.trans0 a);clear a)
          | (with_reducible show wpList _ _ _ ({ dst:=some 29,op:=_,type:=_,pos:=_,after:=_,guard:=_ } :: _) _ _
             refine zbp rfl 29 _ rfl l 0 rfl (wtC t) (zbc c.out 0 6) row29 (info29l t) ?_)
          | (go_at_call 18;(with_reducible refine (CW.out _).mono ?_);rintro e C ⟨rfl,a⟩;have c:=H_ (a.heap c.out fun h=>h);have n:=zac c.out;have f:=H_ (f.out.trans0 a);clear a)
          | (go_at_call 9;(with_reducible refine (a2.out _ f.out).mono ?_);rintro e C ⟨rfl,a⟩;have c:=H_ (a.heap c.out fun h=>h);have n:=zac c.out;have f:=H_ (f.out.trans0 a);clear a)
          | (go_at_call 9;(with_reducible refine (a3.out _ f.out).mono ?_);rintro e C ⟨rfl,a⟩;have c:=H_ (a.heap c.out fun h=>h);have n:=zac c.out;have f:=H_ (f.out.trans0 a);clear a)
          | (go_at_call 19;refine (zfm hT _).mono ?_;rintro e w3 ⟨s,rfl,F0,cM,bN,cG⟩))
         have ck:=H_ cM;have bs:=H_ (f.out.trans0 bN);have bH:=H_ (bN.heap c.out fun h=>h);have ce:Hid (∀ b,F0 b->l<b):=H_ fun b hb=>by have K:=cG b hb;have h2:=zac c.out;omega
         clear cM bN cG c f lb a1 a2 a3 CW
         go_upto_region 7 with (first
          | (go_at_call 11;refine (Both.made hT Good.new ck.out (Int.le_refl 0)).mono ?_;rintro e w4 ⟨h,rfl,B0,cw,b4,cH⟩))
         have bL:Both TA w4 h s 0 0 newS newD ⟨newS.rev,0,[]⟩ B0:=cw
         have cg:Hid (Res1 TA w (w4.alloc (.cells #[.slice none 0 0,.slice none 0 0,.int .i64 0,.bool false,.bool false] 56)) h s w4.heap.size l 0 t):=by
          have a:Fr No w4 (w4.alloc (.cells #[.slice none 0 0,.slice none 0 0,.int .i64 0,.bool false,.bool false] 56)):=(Fr.refl No w4).alloc _;have ds:=bL.lt hT;have eC:=bs.out.size;have eD:=b4.size;have hX:∀ b,seenF w4.heap.size (.slice none 0 0) (.slice none 0 0) b->b=w4.heap.size:=fun b hb=>by rcases hb with K | K | K;exact K;all_goals simp [Value.ownBlock] at K
          have ew:=zac bH.out;have ct:∀ b,B0 b->l<b:=fun b hb=>(cH b hb).elim (ce.out b) fun K=>by omega
          exact H_ ⟨_,_,_,_,_,_,{ both:=bL.fr0 hT a,seen:=⟨_,_,⟨zae w4 _ _ rfl,SlF.nil _ _ _ _,SlF.nil _ _ _ _,by simp [Value.ownBlock],by simp [Value.ownBlock],by simp [Value.ownBlock]⟩,fun b=>Iff.rfl⟩,dis:=fun b K h2=>by have:=hX b K;have:=ds b h2;omega,nb:=fun b hb=>by have:=ct b hb;omega,nx:=fun b hb=>by have:=hX b hb;omega,told:=Told.new,len:=Nat.zero_le _,fr:=(bs.out.trans0 b4).trans0 a,wb:=a.heap (b4.heap bH.out fun h=>h) fun h=>h,lw:=by omega,wB:=fun K=>by have:=ct l K;omega,wX:=fun K=>by have:=hX l K;omega }⟩
         clear bL cw b4 cH ck bs bH ce;go_upto_region 8 with fail;generalize w4.heap.size=x at *;generalize w4.alloc (.cells #[.slice none 0 0,.slice none 0 0,.int .i64 0,.bool false,.bool false] 56)=W5 at *
         go_upto_block 0 with fail
         go_cut [13] (fun s13 wx=>Hid (Res1 TA w wx h s x l 60 t))
         case first =>
          as_aux_lemma =>
          go_wp2_with fail
          go_loopg [13] l1.length (fun g s13 wr=>∃ i:Nat,s13=.int .i64 i/\i+g=l1.length/\Hid (Res1 TA w wr h s x l i t))
          case atStart=>exact ⟨0,rfl,by omega,cg⟩
          case round =>
           obtain ⟨i,rfl,hi,U⟩:=hrel
           cases gk with
           | zero =>
             have am:¬ (i:Int)<(l1.length:Int):=(by omega);go_wp2_with fail;go_meet
             case rel=>exact H_ (U.out.mono (by omega))
           | succ g =>
             have am:(i:Int)<(l1.length:Int):=(by omega);have bX:IntKind.i64.wrap ((i:Int)+1)=i+1:=(by rw [IntKind.wrap_i64];omega);obtain ⟨Z,go,rfl⟩:=cl.out (by omega);obtain ⟨q,R⟩:∃ q,l1[i]?=some q:=⟨_,List.getElem?_eq_getElem (by omega)⟩;obtain ⟨aa,ab,_⟩:=ca.out q (List.mem_of_getElem? R);have RG:Hid (∀ W,Fr No w W->W.rangeAt Z (go+i * 20) (actC q)):=H_ fun W hW=>(aG.out.sl.fr0 hW).rangeAt zam i R;have af:Z<w.heap.size:=World.block_lt_of_cell? _ _ (aG.out.sl.cell0 zam i R rfl);have LG:Hid (∀ W,Fr No w W->Z<W.heap.size):=H_ fun W hW=>Nat.lt_of_lt_of_le af hW.size;have ST:=H_ (U.out.step hT hTD (by omega) aa ab (aG.out.frm i q R) (aG.out.ops i q R) (aG.out.keys i q R));have R1:=H_ (RG.out wr U.out.fr);have lg:=LG.out wr U.out.fr;clear R aa ab af
             go_wp2_with (first
              | (with_reducible show wpList _ _ _ ({ dst:=some 70,op:=_,type:=_,pos:=_,after:=_,guard:=_ } :: _) _ _
                 refine zan rfl 31 _ rfl Z (go+i * 20) rfl (actC q) R1.out row31 (info31l q) ?_)
              | (go_at_call 22;(with_reducible refine ST.out.mono ?_);rintro e w6 ⟨rfl,F⟩))
             go_roundg g
             case rel=>exact ⟨i+1,by go_num,by omega,H_ F⟩
             case measure=>omega
         case rest =>
         have ch:=hcut;clear cg hcut;generalize wc=w5 at *;obtain ⟨S,D,H,B,X,all,PC⟩:=ch.out;have ay:Calls Tryz.prog 12 #[.pointer (some ⟨h,0,none⟩),.agg (wtC t).toArray] w5 _:=PC.both.open hT (by omega) (by omega) t aJ cd.out;have N:=H_ PC;have c0:=zac PC.wb;clear PC ch
         apply_assumption
         by_cases hoe:openE t=0
         · rw [if_pos hoe,if_pos hoe,hoe] at ay
           have aT:=H_ ay;have bx:=H_ hoe
           have bi:0<=t.frm:=by
            unfold openE at hoe
            split at hoe
            · rename_i K;exact absurd hoe K
            split at hoe
            · cases hoe
            omega
           clear ay hoe
           go_upto_region 15 with (first
            | (with_reducible show wpList _ _ _ ({ dst:=some 74,op:=_,type:=_,pos:=_,after:=_,guard:=_ } :: _) _ _
               refine zan rfl 29 _ rfl l 0 rfl (wtC t) (zbc N.out.wb 0 6) row29 (info29l t) ?_)
            | (go_at_call 12;(with_reducible refine aT.out.mono ?_);rintro e w6 ⟨rfl,B6,bK,b5,bS⟩))
           have P6:=H_ (N.out.opened bK b5 bS);have aL:=N.out.both.p.last;have dr:=N.out.both.ok.last;have cy:=N.out.both.p.q.f0;have dt:=(N.out.both.p.sizes (by omega)).2.2.2;have cC:=N.out.both.ok.none (i:=H.last+1) (.inl (by omega));clear bK b5 bS aT N;have cX:=zac P6.out.wb;have t2:w6.cell? ⟨l,2,none⟩=some (.int .i64 t.frm):=cellAt P6.out.wb 2 rfl;have f2:w6.frozen? ⟨l,2,none⟩=false:=(by unfold World.frozen?;rw [P6.out.wb];simp);have cS:IntKind.i64.wrap (H.fed+1)=H.fed+1:=(by rw [IntKind.wrap_i64];omega);go_upto_if 87 with fail
           go_cut [14] (fun s14 wx=>s14=.int .i64 (H.last+1)/\Hid (PreC TA w wx h s x l 61 S D (openH H t) B6 X all [] 0 false (if t.frm=0 then fromW t (H.fed+1) else t)))
           case first =>
            as_aux_lemma =>
            by_cases hz:t.frm=0
            · have E:Hid (Calls Tryz.prog 16 #[.pointer (some ⟨h,0,none⟩)] w6 fun e w'=>e=.returned (.int .i64 H.fed)/\w6=w'):=H_ P6.out.both.fedC
              have M:Hid (PreC TA w (w6.setCell ⟨l,2,none⟩ (.int .i64 (H.fed+1))) h s x l 61 S D (openH H t) B6 X all [] 0 false (if t.frm=0 then fromW t (H.fed+1) else t)):=by
               rw [if_pos hz];exact H_ (P6.out.wset hT _)
              have dw:(t.frm==0)=true:=(by simpa using hz);go_wp2_with (go_at_call 16;refine E.out.mono ?_;rintro e w7 ⟨rfl,rfl⟩);go_meet
              case rel=>exact ⟨rfl,M⟩
            have M:Hid (PreC TA w w6 h s x l 61 S D (openH H t) B6 X all [] 0 false (if t.frm=0 then fromW t (H.fed+1) else t)):=by
             rw [if_neg hz];exact P6
            have dw:(t.frm==0)=false:=(by simpa using hz);go_wp2;go_meet
            case rel=>exact ⟨rfl,M⟩
           case rest =>
           obtain ⟨rfl,M⟩:=hcut;clear t2 f2 cX P6 c0;generalize wc=w7 at *
           have aM:openE (if t.frm=0 then fromW t (H.fed+1) else t)=0:=by
            split
            · exact zjm bx.out (by omega)
            exact bx.out
           have aK:(if t.frm=0 then fromW t (H.fed+1) else t).key.size<=3000:=by
            split
            · exact aJ
            exact aJ
           obtain ⟨j,bV⟩:∃ j,(if t.frm=0 then fromW t (H.fed+1) else t)=j:=⟨_,rfl⟩;have aq:=SnInv.openW (all:=all) bi cy
           have eB:j.frm<=9223372036854775807:=by
            have K:=zrj cd.out;rw [<-bV]
            split
            · show H.fed+1<=_
              omega
            omega
           rw [bV] at M aq aM aK;have cf:=H_ aM;clear bV aM bx bi
           have eA:1<=j.frm:=by
            have K:=aq.lb0;omega
           have bb:=H_ aq;have bW:=M.out.wb;obtain ⟨av,gv,b6,cv⟩:=M.out.seen;have q1:w7.drew.cell? ⟨l,2,none⟩=some (.int .i64 j.frm):=cellAt bW 2 rfl;have dB:l<w7.drew.heap.size:=zac bW;have x2:w7.drew.cell? ⟨x,2,none⟩=some (.int .i64 0):=cellAt (b6.fr0 (Fr.refl No w7).drew).obj 2 rfl
           have f2:w7.drew.frozen? ⟨x,2,none⟩=false:=by
            have:=(b6.fr0 (Fr.refl No w7).drew).obj;unfold World.frozen?;rw [this];simp
           have dE:x<w7.drew.heap.size:=zac b6.obj;have cW:l≠x:=fun e=>M.out.wX ((cv l).2 (.inl e));have cz:Fr (fun b=>b=x) w7.drew (w7.drew.setCell ⟨x,2,none⟩ (.int .i64 (min (j.frm-1) H.fed))):=Fr.setCell (p:=⟨x,2,none⟩) (Fr.refl (fun b=>b=x) w7.drew) (.inl rfl) _;have q2:(w7.drew.setCell ⟨x,2,none⟩ (.int .i64 (min (j.frm-1) H.fed))).cell? ⟨l,2,none⟩=some (.int .i64 j.frm):=cz.cell q1 cW;have q3:(w7.setCell ⟨x,2,none⟩ (.int .i64 (min (j.frm-1) H.fed))).drew.cell? ⟨l,2,none⟩=some (.int .i64 j.frm):=q2;have E:Hid (Calls Tryz.prog 16 #[.pointer (some ⟨h,0,none⟩)] w7.drew fun e w'=>e=.returned (.int .i64 H.fed)/\w7.drew=w'):=H_ (M.out.both.fr0 hT (Fr.refl No w7).drew).fedC;have bY:IntKind.i64.wrap (j.frm-1)=j.frm-1:=(by rw [IntKind.wrap_i64];omega);clear b6 cv aq bW cz
           apply_assumption
           go_upto_region 17 with fail
           go_region_held3 (fun W=>W.cell? ⟨l,2,none⟩=some (.int .i64 j.frm))
            (first | with_reducible exact q1 | with_reducible exact q2 | with_reducible exact q3 | fail)
            (first | (go_at_call 16;(with_reducible refine E.out.mono ?_);rintro e w8 ⟨rfl,rfl⟩) | fail)
           have cu:=(M.out.rset hT (min (j.frm-1) H.fed)).fr0 hT (Fr.refl No _).drew
           have cN:SnW j (min (j.frm-1) H.fed) all (openH H t) (H.last+1) (min (j.frm-1) H.fed) [] false:=.inl ⟨rfl,openS H t,by
            show getH (H.L++[(H.last+1,openS H t)]) (H.last+1)=some (openS H t)
            rw [zga cC,if_pos rfl],bb.out⟩
           have ci:Hid (Res2 TA w (w7.setCell ⟨x,2,none⟩ (.int .i64 (min (j.frm-1) H.fed))).drew h s x l 61 j (min (j.frm-1) H.fed) (H.last+1)):=H_ ⟨_,_,_,_,_,_,_,_,_,cu,cN,Int.le_refl _⟩;have dR:1<=H.last+1:=(by omega);have dS:H.last+1<=1000:=(by omega);clear cu cN q1 q2 q3 x2 f2 E dB dE bb M bY cW aL dr cy dt cC cS;generalize (w7.setCell ⟨x,2,none⟩ (.int .i64 (min (j.frm-1) H.fed))).drew=w8 at *;generalize min (j.frm-1) H.fed=b0 at *;generalize H.last+1=id at *
           go_upto_block 2 with fail
           go_cut [16] (fun s16 wx=>Hid (Res2 TA w wx h s x l 121 j b0 id))
           case first =>
            as_aux_lemma =>
            go_wp2_with fail
            go_loopg [16] l2.length (fun g s16 wr=>∃ i:Nat,s16=.int .i64 i/\i+g=l2.length/\Hid (Res2 TA w wr h s x l (61+i) j b0 id))
            case atStart=>exact ⟨0,rfl,by omega,ci⟩
            case round =>
             obtain ⟨i,rfl,hi,U⟩:=hrel
             cases gk with
             | zero =>
               have am:¬ (i:Int)<(l2.length:Int):=(by omega);go_wp2_with fail;go_meet
               case rel=>exact H_ (U.out.mono (by omega))
             | succ g =>
               have am:(i:Int)<(l2.length:Int):=(by omega);have bX:IntKind.i64.wrap ((i:Int)+1)=i+1:=(by rw [IntKind.wrap_i64];omega);obtain ⟨Z,go,rfl⟩:=cm.out (by omega);obtain ⟨q,R⟩:∃ q,l2[i]?=some q:=⟨_,List.getElem?_eq_getElem (by omega)⟩;obtain ⟨aa,ab,_⟩:=cb.out q (List.mem_of_getElem? R);have RG:Hid (∀ W,Fr No w W->W.rangeAt Z (go+i * 20) (actC q)):=H_ fun W hW=>(aH.out.sl.fr0 hW).rangeAt zam i R;have af:Z<w.heap.size:=World.block_lt_of_cell? _ _ (aH.out.sl.cell0 zam i R rfl);have LG:Hid (∀ W,Fr No w W->Z<W.heap.size):=H_ fun W hW=>Nat.lt_of_lt_of_le af hW.size;have ST:=H_ fun W (hW:Res2 TA w W h s x l (61+i) j b0 id)=>hW.step hT hTD (by omega) aa ab (aH.out.frm i q R) (aH.out.ops i q R) (aH.out.keys i q R)
               have TK:=H_ fun W (hW:Res2 TA w W h s x l (61+i) j b0 id)=>hW.take hT (by omega) (wf64 (by omega) (by omega):(Lit.int .i64 id).wf=true);have aw:=H_ fun W=>zew W q;have R1:=H_ (RG.out wr U.out.fr);have lg:=LG.out wr U.out.fr;have dn:=zea q.kind;generalize kindN q.kind=kk at *;clear R aa ab af;by_cases k5:kk=5
               · subst k5
                 as_aux_lemma =>
                 go_wp2_with (first
                  | (with_reducible show wpList _ _ _ ({ dst:=some 110,op:=_,type:=_,pos:=_,after:=_,guard:=_ } :: _) _ _
                     refine zan rfl 31 _ rfl Z (go+i * 20) rfl (actC q) R1.out row31 (info31l q) ?_)
                  | (go_at_call 20;(with_reducible refine (aw.out _).mono ?_);rintro e G ⟨rfl,k⟩;have r:=H_ (U.out.fr0 hT k);clear k)
                  | (go_at_call 21;(with_reducible refine (TK.out _ r.out).mono ?_);rintro e w6 ⟨rfl,F⟩))
                 go_roundg g
                 case rel=>exact ⟨i+1,by go_num,by omega,H_ (F.mono (by omega))⟩
                 case measure=>omega
               as_aux_lemma =>
               go_wp2_with (first
                | (with_reducible show wpList _ _ _ ({ dst:=some 110,op:=_,type:=_,pos:=_,after:=_,guard:=_ } :: _) _ _
                   refine zan rfl 31 _ rfl Z (go+i * 20) rfl (actC q) R1.out row31 (info31l q) ?_)
                | (go_at_call 20;(with_reducible refine (aw.out _).mono ?_);rintro e G ⟨rfl,k⟩;have r:=H_ (U.out.fr0 hT k);have R9:=H_ (RG.out G r.out.fr);have c1:=LG.out G r.out.fr;clear k)
                | (with_reducible show wpList _ _ _ ({ dst:=some 124,op:=_,type:=_,pos:=_,after:=_,guard:=_ } :: _) _ _
                   refine zan rfl 31 _ rfl Z (go+i * 20) rfl (actC q) R9.out row31 (info31l q) ?_)
                | (go_at_call 22;(with_reducible refine (ST.out _ r.out).mono ?_);rintro e w6 ⟨rfl,F⟩))
               go_roundg g
               case rel=>exact ⟨i+1,by go_num,by omega,H_ F⟩
               case measure=>omega
           case rest =>
           have bB:=hcut;clear ci hcut;generalize wc=G at *
           apply_assumption
           obtain ⟨S4,D4,H4,B4,X4,J,d,z,an,P4,aY,cE⟩:=bB.out;obtain ⟨e4,ec,aQ,_⟩:=P4.seen;have v3:G.cell? ⟨x,3,none⟩=some (.bool an):=cellAt aQ.obj 3 rfl;have v4:G.cell? ⟨x,4,none⟩=some (.bool false):=cellAt aQ.obj 4 rfl;have lx:=zac aQ.obj;have d9:=H_ P4.fr
           cases an with
           | true =>
             clear P4 aY aQ bB
             as_aux_lemma =>
             go_wp2_with (go_at_call 10;refine (Y.out _).mono ?_;rintro e C ⟨rfl,a⟩);go_ret;exact ⟨rfl,d9.out.trans0 a⟩
           | false =>
             have T:=H_ P4;have aD:=H_ aY;have cF:=aY.low;have dk:=P4.both.p.sizes (by omega);have bh:=P4.both.p.fed;clear P4 aY aQ bB;go_upto_region 26 with fail;clear v3 v4 lx;have c0:=zac T.out.wb;have au:=H_ (zae G (.cells (wtC j).toArray 29) _ rfl);have bu:Hid (Fr No G (G.alloc (.cells (wtC j).toArray 29))):=H_ ((Fr.refl No G).alloc _)
             go_upto_region 27 with (first
              | (with_reducible show wpList _ _ _ ({ dst:=some 144,op:=_,type:=_,pos:=_,after:=_,guard:=_ } :: _) _ _
                 refine zan rfl 29 _ rfl l 0 rfl (wtC j) (zbc T.out.wb 0 6) row29 (info29l j) ?_)
              | (with_reducible show wpList _ _ _ ({ dst:=none,op:=_,type:=_,pos:=_,after:=_,guard:=_ } :: _) _ _
                 refine zhp rfl rfl 29 _ _ rfl _ (wtC j) rfl rfl (info29l j) rfl (zvs j) ?_))
             have aU:=H_ (T.out.fr0 hT bu.out);clear c0;generalize G.alloc (.cells (wtC j).toArray 29)=wA at *;obtain ⟨b2,aZ⟩:∃ b2,b2=G.heap.size:=⟨_,rfl⟩;rw [<-aZ] at au;rw [<-aZ];have bq:=H_ aZ;clear aZ;obtain ⟨e5,ed,c3,_⟩:=aU.out.seen;have q0:wA.drew.cell? ⟨x,2,none⟩=some (.int .i64 z)/\wA.drew.cell? ⟨l,2,none⟩=some (.int .i64 j.frm):=⟨cellAt c3.obj 2 rfl,cellAt aU.out.wb 2 rfl⟩;have c2:wA.drew.cell? ⟨b2,2,none⟩=some (.int .i64 j.frm):=cellAt au.out 2 rfl
             have f2:wA.drew.frozen? ⟨b2,2,none⟩=false:=by
              have hd:wA.drew.heap[b2]?=some (.cells (wtC j).toArray 29 (0,0)):=au.out;unfold World.frozen?;rw [hd];simp
             have dx:x<wA.drew.heap.size:=zac c3.obj;have dy:l<wA.drew.heap.size:=zac aU.out.wb;have dz:b2<wA.drew.heap.size:=zac au.out;have bY:IntKind.i64.wrap (z+1)=z+1:=(by rw [IntKind.wrap_i64];omega)
             have bT:x≠b2/\l≠b2:=by
              have K:=zac T.out.wb;have h2:=bq.out;obtain ⟨_,_,sr,_⟩:=T.out.seen;have h3:=zac sr.obj;omega
             have k:Fr (fun b=>b=b2) wA.drew (wA.drew.setCell ⟨b2,2,none⟩ (.int .i64 (max (z+1) j.frm))):=Fr.setCell (p:=⟨b2,2,none⟩) (Fr.refl (fun b=>b=b2) wA.drew) (.inl rfl) _;have q1:(wA.setCell ⟨b2,2,none⟩ (.int .i64 (max (z+1) j.frm))).drew.cell? ⟨x,2,none⟩=some (.int .i64 z)/\(wA.setCell ⟨b2,2,none⟩ (.int .i64 (max (z+1) j.frm))).drew.cell? ⟨l,2,none⟩=some (.int .i64 j.frm):=⟨k.cell q0.1 bT.1,k.cell q0.2 bT.2⟩;clear k c3
             go_region_held3 (fun W=>W.cell? ⟨x,2,none⟩=some (.int .i64 z)/\W.cell? ⟨l,2,none⟩=some (.int .i64 j.frm))
              (first | with_reducible exact q0 | with_reducible exact q1 | fail)
              (fail)
             have cA:Fr No G (wA.setCell ⟨b2,2,none⟩ (.int .i64 (max (z+1) j.frm))).drew:=(bu.out.setCell (p:=⟨b2,2,none⟩) (.inr (by rw [bq.out];exact Nat.le_refl _)) _).drew;have bz:=H_ (T.out.fr0 hT cA)
             have bD:Hid ((wA.setCell ⟨b2,2,none⟩ (.int .i64 (max (z+1) j.frm))).drew.heap[b2]?=some (.cells (wtC (fromW j (max (z+1) j.frm))).toArray 29 (0,0))):=H_ (by
              show (wA.setCell ⟨b2,2,none⟩ (.int .i64 (max (z+1) j.frm))).heap[b2]?=_
              rw [zab au.out 2 _]
              rfl)
             clear cA q0 q1 c2 f2 dx dy dz bY bT au bu aU;generalize (wA.setCell ⟨b2,2,none⟩ (.int .i64 (max (z+1) j.frm))).drew=wB at *;have aN:Calls Tryz.prog 12 #[.pointer (some ⟨h,0,none⟩),.agg (wtC (fromW j (max (z+1) j.frm))).toArray] wB _:=bz.out.both.open hT (by omega) (by omega) (fromW j (max (z+1) j.frm)) aK (wf64 (by show -9223372036854775808<=max (z+1) j.frm;omega) (by show max (z+1) j.frm<=9223372036854775807;omega));have ap:openE (fromW j (max (z+1) j.frm))=0:=zjm cf.out (by omega);rw [if_pos ap,if_pos ap,ap] at aN;have bc:=H_ aN;have dA:=zac bD.out;clear aN ap
             go_upto_region 29 with (first
              | (with_reducible show wpList _ _ _ ({ dst:=some 156,op:=_,type:=_,pos:=_,after:=_,guard:=_ } :: _) _ _
                 refine zan rfl 29 _ rfl b2 0 rfl (wtC (fromW j (max (z+1) j.frm))) (zbc bD.out 0 6) row29 (info29l _) ?_)
              | (go_at_call 12;(with_reducible refine bc.out.mono ?_);rintro e wC ⟨rfl,BC,cx,cB,cI⟩))
             have aC:=H_ (bz.out.opened cx cB cI);have ba:=H_ T.out.both.ok;have aL:=T.out.both.p.last;have d6:=T.out.both.ok.last;have bj:=(aD.out.got).1;have aB:=H_ bj;clear cx cB cI dA bc bj;obtain ⟨e6,ee,aR,_⟩:=aC.out.seen;obtain ⟨df,dg,rfl,_,dO,_⟩:=aR.sg.shape;have x2:wC.cell? ⟨x,2,none⟩=some (.int .i64 z):=cellAt aR.obj 2 rfl;have dC:=zac aR.obj;have c8:=H_ (zae wC (.cells #[.slice none 0 0,.slice none 0 0,.int .i64 z,.bool false,.bool false] 56) _ rfl);have bv:Hid (Fr No wC (wC.alloc (.cells #[.slice none 0 0,.slice none 0 0,.int .i64 z,.bool false,.bool false] 56))):=H_ ((Fr.refl No wC).alloc _);have bd:=H_ aR;clear aR;go_upto_region 30 with fail;have aV:=H_ (Res3.start hT aC.out aD.out ba.out cE bh bv.out c8.out (Nat.le_refl _))
             have aO:=bd.out.fr0 bv.out;have x1:(wC.alloc (.cells #[.slice none 0 0,.slice none 0 0,.int .i64 z,.bool false,.bool false] 56)).cell? ⟨x,1,none⟩=some (.slice df d.length dg):=cellAt aO.obj 1 rfl;have dD:=zac aO.obj;clear x2 dC c8 bv bd aO aC bz bD bq ba aD T;generalize wC.heap.size=y at *;generalize wC.alloc (.cells #[.slice none 0 0,.slice none 0 0,.int .i64 z,.bool false,.bool false] 56)=wD at *;have dV:H4.last+1<=1000:=(by omega);have ao:H4.last+1≠id:=(by omega);have dW:1<=H4.last+1:=(by omega);generalize H4.last+1=V at *
             go_upto_block 4 with fail
             clear x1 dD
             go_cut [22] (fun s22 wx=>Hid (Res3 TA w wx h s x y l 182 j b0 id V J z))
             case first =>
              as_aux_lemma =>
              go_wp2_with fail
              go_loopg [22] l3.length (fun g s22 wr=>∃ i:Nat,s22=.int .i64 i/\i+g=l3.length/\Hid (Res3 TA w wr h s x y l (122+i) j b0 id V J z))
              case atStart=>exact ⟨0,rfl,by omega,aV⟩
              case round =>
               obtain ⟨i,rfl,hi,U⟩:=hrel
               cases gk with
               | zero =>
                 have am:¬ (i:Int)<(l3.length:Int):=(by omega);go_wp2_with fail;go_meet
                 case rel=>exact H_ (U.out.mono (by omega))
               | succ g =>
                 have am:(i:Int)<(l3.length:Int):=(by omega);have bX:IntKind.i64.wrap ((i:Int)+1)=i+1:=(by rw [IntKind.wrap_i64];omega);obtain ⟨Z,go,rfl⟩:=cn.out (by omega);obtain ⟨q,R⟩:∃ q,l3[i]?=some q:=⟨_,List.getElem?_eq_getElem (by omega)⟩;obtain ⟨aa,ab,_⟩:=cc.out q (List.mem_of_getElem? R);have RG:Hid (∀ W,Fr No w W->W.rangeAt Z (go+i * 20) (actC q)):=H_ fun W hW=>(aI.out.sl.fr0 hW).rangeAt zam i R;have af:Z<w.heap.size:=World.block_lt_of_cell? _ _ (aI.out.sl.cell0 zam i R rfl);have LG:Hid (∀ W,Fr No w W->Z<W.heap.size):=H_ fun W hW=>Nat.lt_of_lt_of_le af hW.size;have ST:=H_ fun W (hW:Res3 TA w W h s x y l (122+i) j b0 id V J z)=>hW.step hT hTD (by omega) aa ab (aI.out.frm i q R) (aI.out.ops i q R) (aI.out.keys i q R)
                 have TX:=H_ fun W (hW:Res3 TA w W h s x y l (122+i) j b0 id V J z)=>hW.takeX hT (by omega) (wf64 (by omega) (by omega):(Lit.int .i64 id).wf=true) ao;have TY:=H_ fun W (hW:Res3 TA w W h s x y l (122+i) j b0 id V J z)=>hW.takeY hT (by omega) (wf64 (by omega) (by omega):(Lit.int .i64 V).wf=true) ao;have aw:=H_ fun W=>zew W q;have R1:=H_ (RG.out wr U.out.fr);have lg:=LG.out wr U.out.fr;have dn:=zea q.kind;generalize kindN q.kind=kk at *;clear R aa ab af;by_cases k5:kk=5
                 · subst k5
                   as_aux_lemma =>
                   go_wp2_with (first
                    | (with_reducible show wpList _ _ _ ({ dst:=some 180,op:=_,type:=_,pos:=_,after:=_,guard:=_ } :: _) _ _
                       refine zan rfl 31 _ rfl Z (go+i * 20) rfl (actC q) R1.out row31 (info31l q) ?_)
                    | (go_at_call 20;(with_reducible refine (aw.out _).mono ?_);rintro e G ⟨rfl,k⟩;have r:=H_ (U.out.fr0 hT k);have R9:=H_ (RG.out G r.out.fr);have c1:=LG.out G r.out.fr;clear k)
                    | (go_at_call 21;(with_reducible refine (TX.out _ r.out).mono ?_);rintro e w6 ⟨rfl,F⟩))
                   go_roundg g
                   case rel=>exact ⟨i+1,by go_num,by omega,H_ (F.mono (by omega))⟩
                   case measure=>omega
                 by_cases k6:kk=6
                 · subst k6
                   as_aux_lemma =>
                   go_wp2_with (first
                    | (with_reducible show wpList _ _ _ ({ dst:=some 180,op:=_,type:=_,pos:=_,after:=_,guard:=_ } :: _) _ _
                       refine zan rfl 31 _ rfl Z (go+i * 20) rfl (actC q) R1.out row31 (info31l q) ?_)
                    | (go_at_call 20;(with_reducible refine (aw.out _).mono ?_);rintro e G ⟨rfl,k⟩;have r:=H_ (U.out.fr0 hT k);have R9:=H_ (RG.out G r.out.fr);have c1:=LG.out G r.out.fr;clear k)
                    | (go_at_call 21;(with_reducible refine (TY.out _ r.out).mono ?_);rintro e w6 ⟨rfl,F⟩))
                   go_roundg g
                   case rel=>exact ⟨i+1,by go_num,by omega,H_ (F.mono (by omega))⟩
                   case measure=>omega
                 as_aux_lemma =>
                 go_wp2_with (first
                  | (with_reducible show wpList _ _ _ ({ dst:=some 180,op:=_,type:=_,pos:=_,after:=_,guard:=_ } :: _) _ _
                     refine zan rfl 31 _ rfl Z (go+i * 20) rfl (actC q) R1.out row31 (info31l q) ?_)
                  | (go_at_call 20;(with_reducible refine (aw.out _).mono ?_);rintro e G ⟨rfl,k⟩;have r:=H_ (U.out.fr0 hT k);have R9:=H_ (RG.out G r.out.fr);have c1:=LG.out G r.out.fr;clear k)
                  | (with_reducible show wpList _ _ _ ({ dst:=some 188,op:=_,type:=_,pos:=_,after:=_,guard:=_ } :: _) _ _
                     refine zan rfl 31 _ rfl Z (go+i * 20) rfl (actC q) R9.out row31 (info31l q) ?_)
                  | (go_at_call 22;(with_reducible refine (ST.out _ r.out).mono ?_);rintro e w6 ⟨rfl,F⟩))
                 go_roundg g
                 case rel=>exact ⟨i+1,by go_num,by omega,H_ F⟩
                 case measure=>omega
             case rest =>
             have cj:=hcut;clear aV hcut;generalize wc=wE at *
             apply_assumption
             go_upto_block 7 with fail
             go_cut [23] (fun s23 wx=>Hid (Res3 TA w wx h s x y l 182 j b0 id V J z))
             case first =>
              as_aux_lemma =>
              go_wp2_with fail
              go_loopg [23] 5 (fun g s23 wr=>∃ i:Nat,s23=.int .i64 i/\i+g=5/\Hid (Res3 TA w wr h s x y l 182 j b0 id V J z))
              case atStart=>exact ⟨0,rfl,by omega,cj⟩
              case round =>
               obtain ⟨i,rfl,hi,U⟩:=hrel
               cases gk with
               | zero =>
                 have am:¬ (i:Int)<5:=(by omega);go_wp2_with fail;go_meet
                 case rel=>exact U
               | succ g =>
                 have am:(i:Int)<5:=(by omega);have bX:IntKind.i64.wrap ((i:Int)+1)=i+1:=(by rw [IntKind.wrap_i64];omega);have TX:=H_ (U.out.takeX hT (by omega) (wf64 (by omega) (by omega):(Lit.int .i64 id).wf=true) ao);have TY:=H_ fun W (hW:Res3 TA w W h s x y l 182 j b0 id V J z)=>hW.takeY hT (by omega) (wf64 (by omega) (by omega):(Lit.int .i64 V).wf=true) ao;clear U
                 go_wp2_with (first
                  | (go_at_call 21;(with_reducible refine TX.out.mono ?_);rintro e w5 ⟨rfl,cL⟩;have aV:=H_ cL;clear cL)
                  | (go_at_call 21;(with_reducible refine (TY.out _ aV.out).mono ?_);rintro e w6 ⟨rfl,F⟩))
                 go_roundg g
                 case rel=>exact ⟨i+1,by go_num,by omega,H_ F⟩
                 case measure=>omega
             case rest =>
             have bC:=hcut;clear cj hcut;generalize wc=wF at *
             apply_assumption
             obtain ⟨S7,D7,H7,B7,X7,Y7,cr,gx,rx,ex,gy,ry,ey,TW,SX,SY,cV,dv,em,more,bR,bP⟩:=bC.out;have aP:=znb aB.out bR bP TW.p.told.up SX.got.1 cV SY.got.1 dv
             have bO:d.length<=gx.length:=by
              have e1:upto z more = []:=List.filter_eq_nil_iff.2 fun e he=>by have:=bP e he;simp;omega
              have e2:d=wantsW j (upto z cr):=(by rw [bR,zdr,e1,List.append_nil];exact aB.out);rw [e2,SX.got.1,zcm cV TW.p.told.up,zay,List.length_append];omega
             have dj:=TW.p.len;have dQ:gx.length<=2300000000:=(by rw [SX.got.1];exact Nat.le_trans (zcd _ _) (Nat.le_trans (List.length_filter_le _ _) (by omega)));have cD:gy.length<=2300000000:=(by rw [SY.got.1];exact Nat.le_trans (zcd _ _) (Nat.le_trans (List.length_filter_le _ _) (by omega)));obtain ⟨e7,ef,c4,_⟩:=TW.p.seen;obtain ⟨e8,eg,c5,_⟩:=TW.sy;have da:=H_ bC.out.fr;have bF:=H_ c4;have bG:=H_ c5;have ax:=H_ aP;have du:=zpp c4.sg bO;obtain ⟨al,ak,rfl,_,_,_⟩:=c5.sg.shape;clear TW SX SY bC bR bP aP c4 c5 dj cF dk bh aB;have m1:wF.drew.cell? ⟨x,2,none⟩=some (.int .i64 rx):=cellAt (bF.out.fr0 (Fr.refl No wF).drew).obj 2 rfl;have m2:wF.drew.cell? ⟨y,2,none⟩=some (.int .i64 ry):=cellAt (bG.out.fr0 (Fr.refl No wF).drew).obj 2 rfl
             have k1:x<wF.drew.heap.size:=zac bF.out.obj;have k2:y<wF.drew.heap.size:=zac bG.out.obj;go_upto_region 45 with fail
             go_cut [24] (fun s24 wx=>s24=.int .i64 (min rx ry)/\Hid (wF.drew=wx))
             case first =>
              as_aux_lemma =>
              go_region_held3 (fun W=>W=wF.drew)
               (first | with_reducible rfl | fail)
               (fail)
              all_goals
               go_wp2_with fail;go_meet
               case rel=>exact ⟨rfl,H_ rfl⟩
             case rest =>
             obtain ⟨rfl,HX⟩:=hcut;have cU:=HX.out;rw [<-cU];clear HX cU m1 m2 k1 k2;have O:=H_ (bF.out.fr0 (Fr.refl No wF).drew);have I:=H_ (bG.out.fr0 (Fr.refl No wF).drew);have bt:Hid (Fr No w wF.drew):=H_ da.out.drew;have br:Hid (Fr No wF wF.drew):=H_ (Fr.refl No wF).drew
             apply_assumption
             generalize wF.drew=o at *;generalize bQ:min rx ry=mn at *;have PY:Hid (∀ W,Fr No o W->Calls Tryz.prog 25 #[.slice al gy.length ak,.int .i64 mn] W fun e w'=>∃ v',e=.returned v'/\SlF w' 72 13 evC v' (upto mn gy)/\Fr No W w'/\(∀ b,v'.ownBlock=some b->W.heap.size<=b)):=H_ fun W hW=>zfd W _ gy mn ((I.out.fr0 hW).sg.toR zaa) cD;have cO:(upto mn gy).length<=9000000000:=Nat.le_trans (List.length_filter_le _ _) (by omega);have bE:Hid (∀ W u v,SlF W 72 13 evC u (upto mn gy)->SlF W 72 13 evC v (upto mn gy)->Calls Tryz.prog 26 #[u,v] W fun e w'=>e=.returned (.bool true)/\Fr No W w'):=H_ fun W u v hu hv=>zhf W u v (upto mn gy) hu hv cO;have ez:(0:Int)<=(d.length:Int):=(by omega);have bU:(d.length:Int)<=(gx.length:Int):=(by omega);have dp:x<o.drew.heap.size:=zac O.out.obj
             have dq:y<o.drew.heap.size:=zac I.out.obj;have dT:x<o.heap.size:=dp;have dU:y<o.heap.size:=dq;clear cO;rcases du with ⟨rfl,hz,bZ⟩ | ⟨g0,o0,A,rfl,ek,⟨bM,a8⟩ | ⟨bM,a8⟩⟩
             · have dl:d.length=0:=hz
               have a8:SlR wF 13 evC (.slice none 0 0) (gx.drop d.length):=(by rw [bZ,dl];exact (SlF.nil wF 72 13 evC).toR zaa);have dP:gx.length=0:=(by rw [bZ];rfl);have er:(d.length:Int)=0:=(by omega);clear bZ
               as_aux_lemma =>
               have PX:Hid (∀ W,Fr No o W->Calls Tryz.prog 25 #[(.slice none 0 0),.int .i64 mn] W fun e w'=>∃ v',e=.returned v'/\SlF w' 72 13 evC v' (upto mn gy)/\Fr No W w'/\(∀ b,v'.ownBlock=some b->W.heap.size<=b)):=H_ fun W hW=>by
                have K:=zfd W (.slice none 0 0) (gx.drop d.length) mn (a8.fr0 (br.out.trans0 hW)) (by rw [List.length_drop];omega);rw [ax.out] at K;exact K
               have HQ:Hid (∀ W,Fr No o W->W.cell? ⟨x,4,none⟩=some (.bool false)/\W.cell? ⟨y,4,none⟩=some (.bool false)/\W.cell? ⟨x,1,none⟩=some (.slice none 0 0)/\W.cell? ⟨y,1,none⟩=some (.slice al gy.length ak)):=H_ fun W hW=>⟨cellAt (O.out.fr0 hW).obj 4 rfl,cellAt (I.out.fr0 hW).obj 4 rfl,cellAt (O.out.fr0 hW).obj 1 rfl,cellAt (I.out.fr0 hW).obj 1 rfl⟩;have P:Fr No o o.drew:=(Fr.refl No o).drew;have q1:=HQ.out o.drew P;have a4:=H_ P;clear a8 P bQ ax;go_upto_region 46 with fail
               go_region_held3 (fun W=>W.cell? ⟨x,4,none⟩=some (.bool false)/\W.cell? ⟨y,4,none⟩=some (.bool false)/\W.cell? ⟨x,1,none⟩=some (.slice none 0 0)/\W.cell? ⟨y,1,none⟩=some (.slice al gy.length ak))
                (first | with_reducible exact q1 | with_reducible exact q2 | with_reducible exact q3 | with_reducible exact q4 | with_reducible exact q5 | fail)
                (first
                  | (go_at_call 25;(with_reducible refine (PX.out o.drew a4.out).mono ?_);rintro e C ⟨u1,rfl,ad,a,_⟩
                     have m:Fr No o C:=a4.out.trans0 a;have q2:=HQ.out _ m;have HA:=H_ m;have aE:=H_ ad;clear m a ad)
                  | (go_at_call 25;(with_reducible refine (PY.out C HA.out).mono ?_);rintro e wb ⟨u2,rfl,ae,Q,_⟩
                     have m:Fr No o wb:=HA.out.trans0 Q;have q3:=HQ.out _ m;have c:=H_ m;have aF:=H_ ae;have a6:=H_ (aE.out.fr0 Q);clear m Q ae)
                  | (go_at_call 26;(with_reducible refine (bE.out wb _ _ a6.out aF.out).mono ?_);rintro e wc ⟨rfl,a9⟩
                     have m:Fr No o wc:=c.out.trans0 a9;have q4:=HQ.out _ m;have f:=H_ m;clear m a9)
                  | (go_at_call 10;(refine (Y.out wc).mono ?_);rintro e wd ⟨rfl,E⟩
                     have m:Fr No o wd:=f.out.trans0 E;have q5:=HQ.out _ m;have HD:=H_ m;clear m E)
                  | fail)
               all_goals
                go_wp2;go_ret;exact ⟨rfl,bt.out.trans0 HD.out⟩
             · have es:gx.length=d.length:=by omega
               have bg:A=d.length:=bM;subst bg
               as_aux_lemma =>
               have PX:Hid (∀ W,Fr No o W->Calls Tryz.prog 25 #[(.slice (some ⟨g0,o0,none⟩) 0 0),.int .i64 mn] W fun e w'=>∃ v',e=.returned v'/\SlF w' 72 13 evC v' (upto mn gy)/\Fr No W w'/\(∀ b,v'.ownBlock=some b->W.heap.size<=b)):=H_ fun W hW=>by
                have K:=zfd W (.slice (some ⟨g0,o0,none⟩) 0 0) (gx.drop d.length) mn (a8.fr0 (br.out.trans0 hW)) (by rw [List.length_drop];omega);rw [ax.out] at K;exact K
               have HQ:Hid (∀ W,Fr No o W->W.cell? ⟨x,4,none⟩=some (.bool false)/\W.cell? ⟨y,4,none⟩=some (.bool false)/\W.cell? ⟨x,1,none⟩=some (.slice (some ⟨g0,o0,none⟩) gx.length d.length)/\W.cell? ⟨y,1,none⟩=some (.slice al gy.length ak)):=H_ fun W hW=>⟨cellAt (O.out.fr0 hW).obj 4 rfl,cellAt (I.out.fr0 hW).obj 4 rfl,cellAt (O.out.fr0 hW).obj 1 rfl,cellAt (I.out.fr0 hW).obj 1 rfl⟩;have P:Fr No o o.drew:=(Fr.refl No o).drew;have q1:=HQ.out o.drew P;have a4:=H_ P;clear a8 P bQ ax;go_upto_region 46 with fail
               go_region_held3 (fun W=>W.cell? ⟨x,4,none⟩=some (.bool false)/\W.cell? ⟨y,4,none⟩=some (.bool false)/\W.cell? ⟨x,1,none⟩=some (.slice (some ⟨g0,o0,none⟩) gx.length d.length)/\W.cell? ⟨y,1,none⟩=some (.slice al gy.length ak))
                (first | with_reducible exact q1 | with_reducible exact q2 | with_reducible exact q3 | with_reducible exact q4 | with_reducible exact q5 | fail)
                (first
                  | (go_at_call 25;(with_reducible refine (PX.out o.drew a4.out).mono ?_);rintro e C ⟨u1,rfl,ad,a,_⟩
                     have m:Fr No o C:=a4.out.trans0 a;have q2:=HQ.out _ m;have HA:=H_ m;have aE:=H_ ad;clear m a ad)
                  | (go_at_call 25;(with_reducible refine (PY.out C HA.out).mono ?_);rintro e wb ⟨u2,rfl,ae,Q,_⟩
                     have m:Fr No o wb:=HA.out.trans0 Q;have q3:=HQ.out _ m;have c:=H_ m;have aF:=H_ ae;have a6:=H_ (aE.out.fr0 Q);clear m Q ae)
                  | (go_at_call 26;(with_reducible refine (bE.out wb _ _ a6.out aF.out).mono ?_);rintro e wc ⟨rfl,a9⟩
                     have m:Fr No o wc:=c.out.trans0 a9;have q4:=HQ.out _ m;have f:=H_ m;clear m a9)
                  | (go_at_call 10;(refine (Y.out wc).mono ?_);rintro e wd ⟨rfl,E⟩
                     have m:Fr No o wd:=f.out.trans0 E;have q5:=HQ.out _ m;have HD:=H_ m;clear m E)
                  | fail)
               all_goals
                go_wp2;go_ret;exact ⟨rfl,bt.out.trans0 HD.out⟩
             have bg:d.length<A:=bM
             have dN:¬ A=d.length:=(by omega);have dL:¬ A-d.length=0:=(by omega);have dM:(d.length:Int)<=(A:Int):=(by omega)
             as_aux_lemma =>
             have PX:Hid (∀ W,Fr No o W->Calls Tryz.prog 25 #[(.slice (some ⟨g0,o0+d.length * 13,none⟩) (gx.length-d.length) (A-d.length)),.int .i64 mn] W fun e w'=>∃ v',e=.returned v'/\SlF w' 72 13 evC v' (upto mn gy)/\Fr No W w'/\(∀ b,v'.ownBlock=some b->W.heap.size<=b)):=H_ fun W hW=>by
              have K:=zfd W (.slice (some ⟨g0,o0+d.length * 13,none⟩) (gx.length-d.length) (A-d.length)) (gx.drop d.length) mn (a8.fr0 (br.out.trans0 hW)) (by rw [List.length_drop];omega);rw [ax.out] at K;exact K
             have HQ:Hid (∀ W,Fr No o W->W.cell? ⟨x,4,none⟩=some (.bool false)/\W.cell? ⟨y,4,none⟩=some (.bool false)/\W.cell? ⟨x,1,none⟩=some (.slice (some ⟨g0,o0,none⟩) gx.length A)/\W.cell? ⟨y,1,none⟩=some (.slice al gy.length ak)):=H_ fun W hW=>⟨cellAt (O.out.fr0 hW).obj 4 rfl,cellAt (I.out.fr0 hW).obj 4 rfl,cellAt (O.out.fr0 hW).obj 1 rfl,cellAt (I.out.fr0 hW).obj 1 rfl⟩;have P:Fr No o o.drew:=(Fr.refl No o).drew;have q1:=HQ.out o.drew P;have a4:=H_ P;clear a8 P bQ ax;go_upto_region 46 with fail
             go_region_held3 (fun W=>W.cell? ⟨x,4,none⟩=some (.bool false)/\W.cell? ⟨y,4,none⟩=some (.bool false)/\W.cell? ⟨x,1,none⟩=some (.slice (some ⟨g0,o0,none⟩) gx.length A)/\W.cell? ⟨y,1,none⟩=some (.slice al gy.length ak))
              (first | with_reducible exact q1 | with_reducible exact q2 | with_reducible exact q3 | with_reducible exact q4 | with_reducible exact q5 | fail)
              (first
                | (go_at_call 25;(with_reducible refine (PX.out o.drew a4.out).mono ?_);rintro e C ⟨u1,rfl,ad,a,_⟩
                   have m:Fr No o C:=a4.out.trans0 a;have q2:=HQ.out _ m;have HA:=H_ m;have aE:=H_ ad;clear m a ad)
                | (go_at_call 25;(with_reducible refine (PY.out C HA.out).mono ?_);rintro e wb ⟨u2,rfl,ae,Q,_⟩
                   have m:Fr No o wb:=HA.out.trans0 Q;have q3:=HQ.out _ m;have c:=H_ m;have aF:=H_ ae;have a6:=H_ (aE.out.fr0 Q);clear m Q ae)
                | (go_at_call 26;(with_reducible refine (bE.out wb _ _ a6.out aF.out).mono ?_);rintro e wc ⟨rfl,a9⟩
                   have m:Fr No o wc:=c.out.trans0 a9;have q4:=HQ.out _ m;have f:=H_ m;clear m a9)
                | (go_at_call 10;(refine (Y.out wc).mono ?_);rintro e wd ⟨rfl,E⟩
                   have m:Fr No o wd:=f.out.trans0 E;have q5:=HQ.out _ m;have HD:=H_ m;clear m E)
                | fail)
             all_goals
              go_wp2;go_ret;exact ⟨rfl,bt.out.trans0 HD.out⟩
         rw [if_neg hoe,if_neg hoe] at ay
         have aT:=H_ ay;clear ay;generalize openE t=oe at *
         go_wp2_with (first
          | (with_reducible show wpList _ _ _ ({ dst:=some 74,op:=_,type:=_,pos:=_,after:=_,guard:=_ } :: _) _ _
             refine zan rfl 29 _ rfl l 0 rfl (wtC t) (zbc N.out.wb 0 6) row29 (info29l t) ?_)
          | (go_at_call 12;(with_reducible refine aT.out.mono ?_);rintro e w6 ⟨rfl,B6,bK,b5,bS⟩)
          | (go_at_call 10;refine (Y.out _).mono ?_;rintro e G ⟨rfl,k⟩))
         go_ret;exact ⟨rfl,(N.out.fr.trans b5 fun b hb h3=>by have:=N.out.nb b h3;omega).trans0 k⟩
end Go.Proofs.YtdgkdfmfoonbpaaGreat
