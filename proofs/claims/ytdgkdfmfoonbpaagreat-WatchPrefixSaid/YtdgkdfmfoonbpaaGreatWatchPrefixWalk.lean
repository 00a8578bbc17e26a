/- The statement's function WatchPrefix, walked: it returns true, whatever its arguments are. -/
import Derived.Test.YtdgkdfmfoonbpaaGreatP30
import Derived.Test.YtdgkdfmfoonbpaaGreatP31
import Derived.Test.YtdgkdfmfoonbpaaGreatP32
import Derived.Deep.RegionHeld3
namespace Go.Proofs.YtdgkdfmfoonbpaaGreat
open Go Go.Proofs Go.RowKit
set_option maxRecDepth 100000
set_option maxHeartbeats 32000000 in
theorem zgz {TA:zai} (hT:TreeOk TA 1000000) (hTD:TreeDl TA) (w:World) (v:Value) (l:List ActQ) (t:Wt) (at0:Int) (hv:ActR w v l) (hfr:(Lit.int .i64 t.frm).wf=true) (_hat:(Lit.int .i64 at0).wf=true) :
 Calls Tryz.prog 4 #[v,wtV t,.int .i64 at0] w fun e w'=>e=.returned (.bool true)/\Fr No w w':=by
 have bv:wtV t=.agg (wtC t).toArray:=rfl;rw [bv];have CA:=H_ fun W (hW:Fr No w W)=>zkn W v l (hv.fr0 hW);have CW:Hid (∀ W,Calls Tryz.prog 18 #[.agg (wtC t).toArray] W fun e w'=>e=.returned (.bool (fewW t))/\Fr No W w'):=H_ fun W=>zjj W t;have a6:=H_ fun W=>zkq hT W;obtain ⟨va,cx,cb,cN,cO,bu⟩:=hv.sl.shape;subst cb;have HV:=H_ hv;have bS:=H_ bu;have aZ:=H_ hfr;have a7:=H_ (zae w (.cells (wtC t).toArray 29) _ rfl);have T:Hid (Fr No w (w.alloc (.cells (wtC t).toArray 29))):=H_ ((Fr.refl No w).alloc _);clear hv bu hfr bv
 cases hfl:zes l with
 | false =>
   rw [hfl] at CA;go_enter Tryz.func4,Tryz.ntmps4;go_upto_region 1 with fail;generalize w.alloc (.cells (wtC t).toArray 29)=W1 at *
   go_wp2_with (first
    | (go_at_call 9;(with_reducible refine (CA.out _ T.out).mono ?_);rintro e w1 ⟨rfl,K⟩)
    | (go_at_call 10;refine (a6.out _).mono ?_;rintro e w2 ⟨rfl,P⟩))
   go_ret;exact ⟨rfl,(T.out.trans0 K).trans0 P⟩
 | true =>
   rw [hfl] at CA
   cases hfw:fewW t with
   | false =>
     rw [hfw] at CW;go_enter Tryz.func4,Tryz.ntmps4;go_upto_region 1 with fail;generalize w.alloc (.cells (wtC t).toArray 29)=W1 at *;have lb:=zad a7.out
     go_wp2_with (first
      | (go_at_call 9;(with_reducible refine (CA.out _ T.out).mono ?_);rintro e w1 ⟨rfl,K⟩;have R:=H_ (K.heap a7.out fun h=>h);have bE:=zad R.out;have al:=H_ (T.out.trans0 K);clear K)
      | (with_reducible show wpList _ _ _ ({ dst:=some 20,op:=_,type:=_,pos:=_,after:=_,guard:=_ } :: _) _ _
         refine zbp rfl 29 _ rfl w.heap.size 0 rfl (wtC t) (zbc R.out 0 6) row29 (info29l t) ?_)
      | (go_at_call 18;(with_reducible refine (CW.out _).mono ?_);rintro e w3 ⟨rfl,ab⟩)
      | (go_at_call 10;refine (a6.out _).mono ?_;rintro e w2 ⟨rfl,P⟩))
     go_ret;exact ⟨rfl,(al.out.trans0 ab).trans0 P⟩
   | true =>
     rw [hfw] at CW;obtain ⟨cp,bj⟩:=zkm hfl;have bQ:=H_ bj
     have bl:t.key.size<=3000:=by
      unfold fewW fewKey at hfw;simp only [Bool.and_eq_true,decide_eq_true_eq] at hfw;exact hfw.1
     clear bj hfl hfw;go_enter Tryz.func4,Tryz.ntmps4;go_upto_region 1 with fail;generalize cG:w.heap.size=f at *;generalize w.alloc (.cells (wtC t).toArray 29)=W1 at *;have lb:=zad a7.out
     go_upto_region 4 with (first
      | (go_at_call 9;(with_reducible refine (CA.out _ T.out).mono ?_);rintro e w1 ⟨rfl,K⟩;have R:=H_ (K.heap a7.out fun h=>h);have bE:=zad R.out;have al:=H_ (T.out.trans0 K);clear K)
      | (with_reducible show wpList _ _ _ ({ dst:=some 20,op:=_,type:=_,pos:=_,after:=_,guard:=_ } :: _) _ _
         refine zbp rfl 29 _ rfl f 0 rfl (wtC t) (zbc R.out 0 6) row29 (info29l t) ?_)
      | (go_at_call 18;(with_reducible refine (CW.out _).mono ?_);rintro e w2 ⟨rfl,P⟩)
      | (go_at_call 19;refine (zfg hT _).mono ?_;rintro e w3 ⟨s,rfl,F0,bs,ab,bm⟩))
     have b5:=H_ bs;have aC:=H_ ((al.out.trans0 P).trans0 ab);have aE:=H_ ((P.trans0 ab).heap R.out fun h=>h);have b3:Hid (∀ b,F0 b->f<b):=H_ fun b hb=>by have o:=bm b hb;have h2:=P.size;omega
     clear bs P ab bm R al a7 T lb bE CA CW
     go_upto_region 7 with (first
      | (go_at_call 11;refine (Both.made hT Good.new b5.out (Int.le_refl 0)).mono ?_;rintro e w4 ⟨h,rfl,B0,bh,ap,bn⟩))
     have aJ:Both TA w4 h s 0 0 newS newD ⟨newS.rev,0,[]⟩ B0:=bh
     have bo:Hid (PreC TA w (w4.alloc (.cells #[.slice none 0 0,.slice none 0 0,.int .i64 0,.bool false,.bool false] 56)) h s w4.heap.size f 0 newS newD ⟨newS.rev,0,[]⟩ B0 (seenF w4.heap.size (.slice none 0 0) (.slice none 0 0)) [] [] 0 false t):=by
      have M:Fr No w4 (w4.alloc (.cells #[.slice none 0 0,.slice none 0 0,.int .i64 0,.bool false,.bool false] 56)):=(Fr.refl No w4).alloc _;have c7:=aJ.lt hT;have cR:=aC.out.size;have cS:=ap.size;have hX:∀ b,seenF w4.heap.size (.slice none 0 0) (.slice none 0 0) b->b=w4.heap.size:=fun b hb=>by rcases hb with o | o | o;exact o;all_goals simp [Value.ownBlock] at o
      have cJ:=zad aE.out;have be:∀ b,B0 b->f<b:=fun b hb=>(bn b hb).elim (b3.out b) fun o=>by omega
      exact H_ { both:=aJ.fr0 hT M,seen:=⟨_,_,⟨zae w4 _ _ rfl,SlF.nil _ _ _ _,SlF.nil _ _ _ _,by simp [Value.ownBlock],by simp [Value.ownBlock],by simp [Value.ownBlock]⟩,fun b=>Iff.rfl⟩,dis:=fun b o h2=>(by have:=hX b o;have:=c7 b h2;omega),nb:=fun b hb=>(by have:=be b hb;omega),nx:=fun b hb=>(by have:=hX b hb;omega),told:=Told.new,len:=Nat.zero_le _,fr:=(aC.out.trans0 ap).trans0 M,wb:=M.heap (ap.heap aE.out fun h=>h) fun h=>h,lw:=by omega,wB:=fun o=>(by have:=be f o;omega),wX:=fun o=>(by have:=hX f o;omega) }
     clear aJ bh ap bn b5 aC aE b3;go_upto_region 8 with fail;generalize w4.heap.size=x at *;generalize w4.alloc (.cells #[.slice none 0 0,.slice none 0 0,.int .i64 0,.bool false,.bool false] 56)=W5 at *;go_wp2_with fail
     go_loopg [11,12] l.length (fun g s11 s12 wr=>∃ (i:Nat) (id:Int),s11=.int .i64 id/\s12=.int .i64 i/\i+g=l.length/\Hid (PreL TA w wr h s x f t at0 i i id))
     case atStart=>exact ⟨0,0,rfl,rfl,by omega,H_ ⟨_,_,_,_,_,_,_,_,_,_,.inl ⟨bo.out,rfl,rfl,rfl,rfl,rfl⟩⟩⟩
     case round =>
      clear bo;obtain ⟨i,id,rfl,rfl,hi,HL⟩:=hrel
      cases gk with
      | zero =>
        have c5:¬ (i:Int)<(l.length:Int):=(by omega);obtain ⟨S,D,H,B,X,all,got,rev,n,m,N⟩:=HL.out;rcases N with ⟨y,p1,_⟩ | ⟨y,p1,p2,p3,b0,p4⟩
        · subst p1
          obtain ⟨av,gv,sr,_⟩:=y.seen;have v4:wr.cell? ⟨x,4,none⟩=some (.bool false):=cellAt sr.obj 4 rfl;have lx:=zad sr.obj;have HF:=H_ y.fr;clear y sr HL;go_wp2_with (go_at_call 10;refine (a6.out _).mono ?_;rintro e w9 ⟨rfl,ad⟩);go_ret;exact ⟨rfl,HF.out.trans0 ad⟩
        obtain ⟨g1,_⟩:=p4.got
        have co:¬ id=0:=(by omega);obtain ⟨av,gv,sr,_⟩:=y.seen;obtain ⟨aa,ac,rfl,a1,a2,_⟩:=sr.sa.shape;obtain ⟨F,gc,rfl,b1,b2,_⟩:=sr.sg.shape;have cq:=y.len;have HF:=H_ y.fr;have bT:=H_ y.wb;have a9:=H_ sr;have cF:all.length<=300000000:=(by omega);have ca:(upto rev all).length<=400000000:=Nat.le_trans (List.length_filter_le _ _) (by omega)
        have c3:got.length<=1099511627:=by
         rw [g1];exact Nat.le_trans (zcd _ _) (by omega)
        have ba:Hid (∀ W,Calls Tryz.prog 24 #[.agg #[.string m.key,.string m.end_,.int .i64 m.frm,.bool m.np,.bool m.nd,.bool m.prev]] W fun e w'=>e=.returned (.agg #[.string m.key,.string m.end_,.int .i64 m.frm,.bool m.np,.bool m.nd,.bool m.prev])/\Fr No W w'):=H_ fun W=>zln W m;have bb:Hid (∀ W,Fr No wr W->_):=H_ fun W hW=>zpp W (.slice aa all.length ac) all rev ((sr.fr0 hW).sa.toR zaa) (by omega);have b9:Hid (∀ W u,SlF W 72 13 evC u (upto rev all)->Calls Tryz.prog 23 #[.agg #[.string m.key,.string m.end_,.int .i64 m.frm,.bool m.np,.bool m.nd,.bool m.prev],u] W fun e w'=>∃ v',e=.returned v'/\SlF w' 72 13 evC v' (wantsW m (upto rev all))/\Fr No W w'/\(∀ b,v'.ownBlock=some b->W.heap.size<=b)):=H_ fun W u hu=>ziv W m u (upto rev all) (hu.toR zaa) ca
        have bR:Hid (∀ W u,Fr No wr W->SlF W 72 13 evC u got->Calls Tryz.prog 26 #[.slice F got.length gc,u] W fun e w'=>e=.returned (.bool true)/\Fr No W w'):=H_ fun W u hW hu=>zha W (.slice F got.length gc) u got (sr.fr0 hW).sg hu c3;rw [<-g1] at b9
        have HQ:Hid (∀ W,Fr No wr W->W.cell? ⟨f,0,none⟩=some (.string m.key)/\W.cell? ⟨f,1,none⟩=some (.string m.end_)/\W.cell? ⟨f,2,none⟩=some (.int .i64 m.frm)/\W.cell? ⟨f,3,none⟩=some (.bool m.np)/\W.cell? ⟨f,4,none⟩=some (.bool m.nd)/\W.cell? ⟨f,5,none⟩=some (.bool m.prev)/\W.cell? ⟨x,0,none⟩=some (.slice aa all.length ac)/\W.cell? ⟨x,2,none⟩=some (.int .i64 rev)):=H_ fun W hW=>by
         have o:=hW.heap bT.out fun h=>h;have h2:=(a9.out.fr0 hW).obj;exact ⟨cellAt o 0 rfl,cellAt o 1 rfl,cellAt o 2 rfl,cellAt o 3 rfl,cellAt o 4 rfl,cellAt o 5 rfl,cellAt h2 0 rfl,cellAt h2 2 rfl⟩
        have q1:=HQ.out wr (Fr.refl No wr);have q2:=HQ.out wr.drew (Fr.refl No wr).drew;have lx:x<wr.heap.size:=zad sr.obj;have lw:f<wr.heap.size:=zad y.wb;clear y sr HL p4 g1;go_upto_region 25 with fail
        go_region_held3 (fun W=>W.cell? ⟨f,0,none⟩=some (.string m.key)/\W.cell? ⟨f,1,none⟩=some (.string m.end_)/\W.cell? ⟨f,2,none⟩=some (.int .i64 m.frm)/\W.cell? ⟨f,3,none⟩=some (.bool m.np)/\W.cell? ⟨f,4,none⟩=some (.bool m.nd)/\W.cell? ⟨f,5,none⟩=some (.bool m.prev)/\W.cell? ⟨x,0,none⟩=some (.slice aa all.length ac)/\W.cell? ⟨x,2,none⟩=some (.int .i64 rev))
         (first | with_reducible exact q1 | with_reducible exact q2 | with_reducible exact q3 | with_reducible exact q4 | with_reducible exact q5 | fail)
         (first
           | (go_at_call 24;(with_reducible refine (ba.out wr.drew).mono ?_);rintro e wa ⟨rfl,M⟩
              have J:Fr No wr wa:=(Fr.refl No wr).drew.trans0 M;have q3:=HQ.out _ J;have HA:=H_ J;clear J M)
           | (go_at_call 25;(with_reducible refine (bb.out wr.drew (Fr.refl No wr).drew).mono ?_);rintro e wa ⟨uv,rfl,ah,M,_⟩
              have J:Fr No wr wa:=(Fr.refl No wr).drew.trans0 M;have q3:=HQ.out _ J;have HA:=H_ J;have HU:=H_ ah;clear J M ah)
           | (go_at_call 25;(with_reducible refine (bb.out wa HA.out).mono ?_);rintro e wb ⟨uv,rfl,ah,a3,_⟩
              have J:Fr No wr wb:=HA.out.trans0 a3;have q4:=HQ.out _ J;have HB:=H_ J;have b7:=H_ ah;clear J a3 ah)
           | (go_at_call 24;(with_reducible refine (ba.out wa).mono ?_);rintro e wb ⟨rfl,a3⟩
              have J:Fr No wr wb:=HA.out.trans0 a3;have q4:=HQ.out _ J;have HB:=H_ J;have b7:=H_ (HU.out.fr0 a3);clear J a3)
           | (go_at_call 23;(with_reducible refine (b9.out wb _ b7.out).mono ?_);rintro e wc ⟨wv,rfl,bx,bi,_⟩
              have J:Fr No wr wc:=HB.out.trans0 bi;have q5:=HQ.out _ J;have HC:=H_ J;have bU:=H_ bx;clear J bi bx))
        all_goals
         have v1:wc.cell? ⟨x,1,none⟩=some (.slice F got.length gc):=cellAt (a9.out.fr0 HC.out).obj 1 rfl;have v4:wc.cell? ⟨x,4,none⟩=some (.bool false):=cellAt (a9.out.fr0 HC.out).obj 4 rfl;have cU:x<wc.heap.size:=Nat.lt_of_lt_of_le lx HC.out.size;clear q1 q2 q3 q4 q5
         go_wp2_with (first
          | (go_at_call 26;(with_reducible refine (bR.out wc _ HC.out bU.out).mono ?_);rintro e w8 ⟨rfl,U⟩)
          | (go_at_call 10;refine (a6.out _).mono ?_;rintro e w9 ⟨rfl,ad⟩))
         go_ret;exact ⟨rfl,((HF.out.trans0 HC.out).trans0 U).trans0 ad⟩
      | succ g =>
        have c5:(i:Int)<(l.length:Int):=(by omega);have cP:IntKind.i64.wrap ((i:Int)+1)=i+1:=(by rw [IntKind.wrap_i64];omega);obtain ⟨F,go,rfl⟩:=bS.out (by omega);obtain ⟨q,hx⟩:∃ q,l[i]?=some q:=⟨_,List.getElem?_eq_getElem (by omega)⟩;obtain ⟨bp,bq,_⟩:=bQ.out q (List.mem_of_getElem? hx);have RG:Hid (∀ W,Fr No w W->W.rangeAt F (go+i * 20) (actC q)):=H_ fun W hW=>(HV.out.sl.fr0 hW).rangeAt zaq i hx;have lg:F<w.heap.size:=World.block_lt_of_cell? _ _ (HV.out.sl.cell0 zaq i hx rfl)
        have ST:Hid (∀ (W:World) (k:Nat) (S:St) (D:Doc) (H:Hb) (B X:Nat->Prop) (all got:List Ev) (rev:Int) (n:Bool) (m:Wt) (a:PreC TA w W h s x f k S D H B X all got rev n m) (hk:k<=69),_):=H_ fun W k S D H B X all got rev n m a hk=>a.step hT hTD hk bp bq (HV.out.frm i q hx) (HV.out.ops i q hx) (HV.out.keys i q hx);have cH:=zfk q.kind;have I:=H_ fun W=>zgt W q;generalize kindN q.kind=kk at *;clear hx bp bq;go_upto_if 47 with fail
        go_cut [11] (fun s11 wx=>∃ id':Int,s11=.int .i64 id'/\Hid (PreL TA w wx h s x f t at0 i (i+1) id'))
        case first =>
         by_cases hat:(i:Int)=at0
         · subst hat
           obtain ⟨S,D,H,B,X,all,got,rev,n,m,N⟩:=HL.out;rcases N with ⟨y,cd,ce,cf,cg,bH⟩ | ⟨_,_,_,h3,_⟩
           · subst cd ce cf cg
             rw [bH] at y;clear bH HL ST;have a4:Calls Tryz.prog 12 #[.pointer (some ⟨h,0,none⟩),.agg (wtC t).toArray] wr _:=y.both.open hT (by omega) (by omega) t bl aZ.out;have d:=H_ y;have bF:=zad y.wb;clear y;by_cases hoe:openE t=0
             · rw [if_pos hoe,if_pos hoe,hoe] at a4
               have an:=H_ a4
               have bk:0<=t.frm:=by
                unfold openE at hoe
                split at hoe
                · rename_i o;exact absurd hoe o
                split at hoe
                · cases hoe
                omega
               clear a4
               go_upto_region 17 with (first
                | (with_reducible show wpList _ _ _ ({ dst:=some 50,op:=_,type:=_,pos:=_,after:=_,guard:=_ } :: _) _ _
                   refine zam rfl 29 _ rfl f 0 rfl (wtC t) (zbc d.out.wb 0 6) row29 (info29l t) ?_)
                | (go_at_call 12;(with_reducible refine an.out.mono ?_);rintro e E ⟨rfl,B6,aI,c,af⟩))
               have bz:=d.out.seen.fr c d.out.dis;have ay:=c.heap d.out.wb d.out.wB;have aX:=H_ (aI.mono (Nat.le_succ i) (Nat.le_refl (i+1)))
               have V:Hid (PreC TA w E h s x f (i+1) S D (openH H t) B6 X all [] 0 false t):=by
                have hz:=d.out.fr.size;have c9:=d.out.seen.lt
                exact H_ { both:=aX.out,seen:=bz,dis:=fun b o h2=>(af b h2).elim (d.out.dis b o) fun h3=>by have:=c9 b o;omega,nb:=fun b hb=>(af b hb).elim (d.out.nb b) fun h3=>by omega,nx:=d.out.nx,told:=d.out.told,len:=Nat.le_trans d.out.len (Nat.mul_le_mul_right _ (Nat.le_succ i)),fr:=d.out.fr.trans c fun b hb h3=>by have:=d.out.nb b h3;omega,wb:=ay,lw:=d.out.lw,wB:=fun h3=>(af _ h3).elim d.out.wB fun h4=>(by omega),wX:=d.out.wX }
               have c6:=d.out.both.p.last;have cI:=d.out.both.ok.last;have c2:=d.out.both.p.q.f0;have cL:=(d.out.both.p.sizes (by omega)).2.2.2;have c4:=d.out.both.ok.none (i:=H.last+1) (.inl (by omega));clear aI c af bz ay aX an d;have bG:=zad V.out.wb;have t2:E.cell? ⟨f,2,none⟩=some (.int .i64 t.frm):=cellAt V.out.wb 2 rfl;have f2:E.frozen? ⟨f,2,none⟩=false:=(by unfold World.frozen?;rw [V.out.wb];simp);have cs:IntKind.i64.wrap (H.fed+1)=H.fed+1:=(by rw [IntKind.wrap_i64];omega);go_upto_if 64 with fail
               go_cut [13] (fun s13 wx=>s13=.int .i64 (H.last+1)/\Hid (PreC TA w wx h s x f (i+1) S D (openH H t) B6 X all [] 0 false (if t.frm=0 then fromW t (H.fed+1) else t)))
               case first =>
                as_aux_lemma =>
                by_cases hz:t.frm=0
                · have ar:Hid (Calls Tryz.prog 16 #[.pointer (some ⟨h,0,none⟩)] E fun e w'=>e=.returned (.int .i64 H.fed)/\E=w'):=H_ V.out.both.fedC
                  have az:(E.setCell ⟨f,2,none⟩ (.int .i64 (H.fed+1))).heap[f]?=some (.cells (wtC (fromW t (H.fed+1))).toArray 29 (0,0)):=by
                   rw [zab V.out.wb 2 _]
                   rfl
                  have G:Fr (fun b=>b=f) E (E.setCell ⟨f,2,none⟩ (.int .i64 (H.fed+1))):=Fr.setCell (p:=⟨f,2,none⟩) (Fr.refl (fun b=>b=f) E) (.inl rfl) _
                  have j:Hid (PreC TA w (E.setCell ⟨f,2,none⟩ (.int .i64 (H.fed+1))) h s x f (i+1) S D (openH H t) B6 X all [] 0 false (if t.frm=0 then fromW t (H.fed+1) else t)):=by
                   rw [if_pos hz];exact H_ { V.out with both:=V.out.both.fr hT G fun b hb e=>(by have e':b=f:=e;rw [e'] at hb;exact V.out.wB hb),seen:=V.out.seen.fr G fun b hb e=>(by have e':b=f:=e;rw [e'] at hb;exact V.out.wX hb),fr:=V.out.fr.trans G fun b hb e=>(by have e':b=f:=e;have:=V.out.lw;omega),wb:=az }
                  have cc:(t.frm==0)=true:=(by simpa using hz);clear az G;go_wp2_with (go_at_call 16;refine ar.out.mono ?_;rintro e r ⟨rfl,rfl⟩);go_meet
                  case rel=>exact ⟨rfl,j⟩
                have j:Hid (PreC TA w E h s x f (i+1) S D (openH H t) B6 X all [] 0 false (if t.frm=0 then fromW t (H.fed+1) else t)):=by
                 rw [if_neg hz];exact V
                have cc:(t.frm==0)=false:=(by simpa using hz);go_wp2;go_meet
                case rel=>exact ⟨rfl,j⟩
               case rest =>
               obtain ⟨rfl,j⟩:=hcut;clear t2 f2 bG V;generalize wc=r at *;obtain ⟨A,aK⟩:∃ A,(if t.frm=0 then fromW t (H.fed+1) else t)=A:=⟨_,rfl⟩;have Y:=SnInv.openW (all:=all) bk c2
               have cM:A.frm<=9223372036854775807:=by
                have o:=zrj aZ.out;rw [<-aK]
                split
                · show H.fed+1<=_
                  omega
                omega
               rw [aK] at j Y;clear aK
               have cK:1<=A.frm:=by
                have o:=Y.lb0;omega
               obtain ⟨av,gv,ag,aH⟩:=j.out.seen;have a9:=H_ ag;have b8:=H_ aH;have b4:=H_ Y;have aL:=j.out.wb;have t2:r.cell? ⟨f,2,none⟩=some (.int .i64 A.frm):=cellAt aL 2 rfl;have q1:r.drew.cell? ⟨f,2,none⟩=some (.int .i64 A.frm):=t2;have bF:f<r.heap.size:=zad aL;have cT:f<r.drew.heap.size:=bF;have x2:r.drew.cell? ⟨x,2,none⟩=some (.int .i64 0):=cellAt (ag.fr0 (Fr.refl No r).drew).obj 2 rfl
               have f2:r.drew.frozen? ⟨x,2,none⟩=false:=by
                have:=(ag.fr0 (Fr.refl No r).drew).obj;unfold World.frozen?;rw [this];simp
               have cV:x<r.drew.heap.size:=zad ag.obj;have bC:f≠x:=fun e=>j.out.wX ((aH f).2 (.inl e));have U:Fr (fun b=>b=x) r.drew (r.drew.setCell ⟨x,2,none⟩ (.int .i64 (min (A.frm-1) H.fed))):=Fr.setCell (p:=⟨x,2,none⟩) (Fr.refl (fun b=>b=x) r.drew) (.inl rfl) _;have q2:(r.drew.setCell ⟨x,2,none⟩ (.int .i64 (min (A.frm-1) H.fed))).cell? ⟨f,2,none⟩=some (.int .i64 A.frm):=U.cell q1 bC;have q3:(r.setCell ⟨x,2,none⟩ (.int .i64 (min (A.frm-1) H.fed))).drew.cell? ⟨f,2,none⟩=some (.int .i64 A.frm):=q2;have ar:Hid (Calls Tryz.prog 16 #[.pointer (some ⟨h,0,none⟩)] r.drew fun e w'=>e=.returned (.int .i64 H.fed)/\r.drew=w'):=H_ (j.out.both.fr0 hT (Fr.refl No r).drew).fedC;have cQ:IntKind.i64.wrap (A.frm-1)=A.frm-1:=(by rw [IntKind.wrap_i64];omega);clear ag aH Y aL
               go_upto_region 19 with fail
               go_region_held3 (fun W=>W.cell? ⟨f,2,none⟩=some (.int .i64 A.frm))
                (first | with_reducible exact t2 | with_reducible exact q1 | with_reducible exact q2 | with_reducible exact q3 | fail)
                (first | (go_at_call 16;(with_reducible refine ar.out.mono ?_);rintro e w8 ⟨rfl,rfl⟩))
               all_goals
                have bB:X x:=(b8.out x).2 (.inl rfl);have c8:¬ B6 x:=j.out.dis x bB;have Q:Fr No r r.drew:=(Fr.refl No r).drew;have br:=((a9.out.fr0 Q).put 2 (.int .i64 (min (A.frm-1) H.fed)) (rev':=min (A.frm-1) H.fed) (ended':=false) rfl).1
                have bg:PreC TA w (r.setCell ⟨x,2,none⟩ (.int .i64 (min (A.frm-1) H.fed))).drew h s x f (i+1) S D (openH H t) B6 X all [] (min (A.frm-1) H.fed) false A :=
                 { both:=(j.out.both.fr0 hT Q).fr hT U fun b hb e=>(by have e':b=x:=e;rw [e'] at hb;exact c8 hb),seen:=⟨av,gv,br,b8.out⟩,dis:=j.out.dis,nb:=j.out.nb,nx:=j.out.nx,told:=j.out.told,len:=j.out.len,fr:=(j.out.fr.trans0 Q).trans U fun b hb e=>(by have e':b=x:=e;have:=j.out.nx x bB;omega),wb:=U.heap (Q.heap j.out.wb fun h=>h) bC,lw:=j.out.lw,wB:=j.out.wB,wX:=j.out.wX }
                have bt:SnW A (min (A.frm-1) H.fed) all (openH H t) (H.last+1) (min (A.frm-1) H.fed) [] false:=.inl ⟨rfl,openS H t,by
                 show getH (H.L++[(H.last+1,openS H t)]) (H.last+1)=some (openS H t)
                 rw [zki c4,if_pos rfl],b4.out⟩
                have C:Hid (PreL TA w (r.setCell ⟨x,2,none⟩ (.int .i64 (min (A.frm-1) H.fed))).drew h s x f t i i (i+1) (H.last+1)):=H_ ⟨_,_,_,_,_,_,_,_,_,_,.inr ⟨bg,by omega,by omega,by omega,_,bt⟩⟩;clear bg bt br q1 q2 q3 U t2 x2 f2 ar Q;generalize (r.setCell ⟨x,2,none⟩ (.int .i64 (min (A.frm-1) H.fed))).drew=w8 at *;go_wp2;go_meet
                case rel=>exact ⟨H.last+1,rfl,C⟩
             rw [if_neg hoe,if_neg hoe] at a4
             have an:=H_ a4;clear a4;generalize openE t=oe at *
             go_wp2_with (first
              | (with_reducible show wpList _ _ _ ({ dst:=some 50,op:=_,type:=_,pos:=_,after:=_,guard:=_ } :: _) _ _
                 refine zam rfl 29 _ rfl f 0 rfl (wtC t) (zbc d.out.wb 0 6) row29 (info29l t) ?_)
              | (go_at_call 12;(with_reducible refine an.out.mono ?_);rintro e E ⟨rfl,B6,aI,c,af⟩)
              | (go_at_call 10;refine (a6.out _).mono ?_;rintro e w9 ⟨rfl,ad⟩))
             go_ret;exact ⟨rfl,(d.out.fr.trans c fun b hb h3=>by have:=d.out.nb b h3;omega).trans0 ad⟩
           omega
         have bf:PreL TA w wr h s x f t at0 i (i+1) id:=by
          obtain ⟨S,D,H,B,X,all,got,rev,n,m,N⟩:=HL.out;refine ⟨S,D,H,B,X,all,got,rev,n,m,N.imp (fun o=>o) fun ⟨o,h2,h3,h4,h5⟩=>⟨o,h2,h3,by omega,h5⟩⟩
         have C:=H_ bf;clear bf HL ST;go_wp2;go_meet
         case rel=>exact ⟨id,rfl,C⟩
        case rest =>
        obtain ⟨z,rfl,C⟩:=hcut;clear HL;generalize wc=w5 at *;have aq:=C.out.fr;have a0:=H_ (RG.out _ aq);have au:F<w5.heap.size:=Nat.lt_of_lt_of_le lg aq.size;have am:=H_ aq;clear aq;go_upto_region 20 with fail
        go_cut [95] (fun s95 wx=>s95=.bool ((decide (kk=5)||decide (kk=6))&&decide (0<z))/\Hid (PreL TA w wx h s x f t at0 i (i+1) z))
        case first =>
         as_aux_lemma =>
         by_cases k5:kk=5
         · subst k5
           by_cases hi2:0<z
           · have ae:z > 0:=hi2
             go_wp2_with (first
              | (with_reducible show wpList _ _ _ ({ dst:=some 81,op:=_,type:=_,pos:=_,after:=_,guard:=_ } :: _) _ _
                 refine zam rfl 31 _ rfl F (go+i * 20) rfl (actC q) a0.out row31 (info31l q) ?_)
              | (go_at_call 20;(with_reducible refine (I.out _).mono ?_);rintro e E ⟨rfl,c⟩))
             go_meet
             case rel=>exact ⟨by rw [decide_eq_true hi2];rfl,H_ (C.out.fr0 hT c)⟩
           have ae:¬ z > 0:=hi2
           go_wp2_with (first
            | (with_reducible show wpList _ _ _ ({ dst:=some 81,op:=_,type:=_,pos:=_,after:=_,guard:=_ } :: _) _ _
               refine zam rfl 31 _ rfl F (go+i * 20) rfl (actC q) a0.out row31 (info31l q) ?_)
            | (go_at_call 20;(with_reducible refine (I.out _).mono ?_);rintro e E ⟨rfl,c⟩))
           go_meet
           case rel=>exact ⟨by simp,H_ (C.out.fr0 hT c)⟩
         by_cases k6:kk=6
         · subst k6
           by_cases hi2:0<z
           · have ae:z > 0:=hi2
             go_wp2_with (first
              | (with_reducible show wpList _ _ _ ({ dst:=some 81,op:=_,type:=_,pos:=_,after:=_,guard:=_ } :: _) _ _
                 refine zam rfl 31 _ rfl F (go+i * 20) rfl (actC q) a0.out row31 (info31l q) ?_)
              | (with_reducible show wpList _ _ _ ({ dst:=some 88,op:=_,type:=_,pos:=_,after:=_,guard:=_ } :: _) _ _
                 refine zbp (by go_simp) 31 _ rfl F (go+i * 20) (by go_simp) (actC q) O.out row31 (info31l q) ?_)
              | (go_at_call 20;(with_reducible refine (I.out w5).mono ?_);rintro e E ⟨rfl,c⟩
                 have O:=H_ (RG.out _ (am.out.trans0 c));have aN:F<E.heap.size:=Nat.lt_of_lt_of_le au c.size;have a8:=H_ c;clear c)
              | (go_at_call 20;(with_reducible refine (I.out _).mono ?_);rintro e r ⟨rfl,G⟩))
             go_meet
             case rel=>exact ⟨by rw [decide_eq_true hi2];rfl,H_ (C.out.fr0 hT (a8.out.trans0 G))⟩
           have ae:¬ z > 0:=hi2
           go_wp2_with (first
            | (with_reducible show wpList _ _ _ ({ dst:=some 81,op:=_,type:=_,pos:=_,after:=_,guard:=_ } :: _) _ _
               refine zam rfl 31 _ rfl F (go+i * 20) rfl (actC q) a0.out row31 (info31l q) ?_)
            | (with_reducible show wpList _ _ _ ({ dst:=some 88,op:=_,type:=_,pos:=_,after:=_,guard:=_ } :: _) _ _
               refine zbp (by go_simp) 31 _ rfl F (go+i * 20) (by go_simp) (actC q) O.out row31 (info31l q) ?_)
            | (go_at_call 20;(with_reducible refine (I.out w5).mono ?_);rintro e E ⟨rfl,c⟩
               have O:=H_ (RG.out _ (am.out.trans0 c));have aN:F<E.heap.size:=Nat.lt_of_lt_of_le au c.size;have a8:=H_ c;clear c)
            | (go_at_call 20;(with_reducible refine (I.out _).mono ?_);rintro e r ⟨rfl,G⟩))
           go_meet
           case rel=>exact ⟨by simp,H_ (C.out.fr0 hT (a8.out.trans0 G))⟩
         go_wp2_with (first
          | (with_reducible show wpList _ _ _ ({ dst:=some 81,op:=_,type:=_,pos:=_,after:=_,guard:=_ } :: _) _ _
             refine zam rfl 31 _ rfl F (go+i * 20) rfl (actC q) a0.out row31 (info31l q) ?_)
          | (with_reducible show wpList _ _ _ ({ dst:=some 88,op:=_,type:=_,pos:=_,after:=_,guard:=_ } :: _) _ _
             refine zbp (by go_simp) 31 _ rfl F (go+i * 20) (by go_simp) (actC q) O.out row31 (info31l q) ?_)
          | (go_at_call 20;(with_reducible refine (I.out w5).mono ?_);rintro e E ⟨rfl,c⟩
             have O:=H_ (RG.out _ (am.out.trans0 c));have aN:F<E.heap.size:=Nat.lt_of_lt_of_le au c.size;have a8:=H_ c;clear c)
          | (go_at_call 20;(with_reducible refine (I.out _).mono ?_);rintro e r ⟨rfl,G⟩))
         go_meet
         case rel=>exact ⟨by rw [decide_eq_false k5,decide_eq_false k6];rfl,H_ (C.out.fr0 hT (a8.out.trans0 G))⟩
        case rest =>
        obtain ⟨rfl,Z⟩:=hcut;generalize wc=E at *;have c:=Z.out.fr;have O:=H_ (RG.out _ c);have aN:F<E.heap.size:=Nat.lt_of_lt_of_le lg c.size;clear c a0 au am C I RG
        cases hb:(decide (kk=5)||decide (kk=6))&&decide (0<z) with
        | true =>
          have cr:0<z:=by
           rw [Bool.and_eq_true,decide_eq_true_eq] at hb;exact hb.2
          obtain ⟨S,D,H,B,X,all,got,rev,n,m,N⟩:=Z.out;rcases N with ⟨_,h0,_⟩ | ⟨y,p1,p2,p3,b0,p4⟩
          · omega
          have TK:=H_ (y.take hT (by omega) (wf64 (by omega) (by omega)) p4)
          clear y p4 Z ST;go_wp2_with (go_at_call 21;(with_reducible refine TK.out.mono ?_);rintro e r ⟨rfl,H7,B7,X7,cn,cw,bM,ai,_,aO⟩);go_roundg g
          case rel=>exact ⟨i+1,z,rfl,by go_num,by omega,H_ ⟨_,_,_,_,_,_,_,_,_,_,.inr ⟨ai,p1,p2,by omega,b0,aO⟩⟩⟩
          case measure=>omega
        | false =>
          obtain ⟨S,D,H,B,X,all,got,rev,n,m,N⟩:=Z.out;rcases N with ⟨y,p1,p2,p3,p4,p5⟩ | ⟨y,p1,p2,p3,b0,p4⟩
          · subst p1 p2 p3 p4
            have TK:=H_ (ST.out _ _ _ _ _ _ _ _ _ _ _ _ y (by omega));clear y Z ST
            go_wp2_with (first
             | (with_reducible show wpList _ _ _ ({ dst:=some 107,op:=_,type:=_,pos:=_,after:=_,guard:=_ } :: _) _ _
                refine zam rfl 31 _ rfl F (go+i * 20) rfl (actC q) O.out row31 (info31l q) ?_)
             | (go_at_call 22;(with_reducible refine TK.out.mono ?_);rintro e r ⟨rfl,S7,D7,H7,B7,X7,bd,ai,_,_⟩))
            go_roundg g
            case rel=>exact ⟨i+1,0,rfl,by go_num,by omega,H_ ⟨_,_,_,_,_,_,_,_,_,_,.inl ⟨ai,rfl,rfl,rfl,rfl,p5⟩⟩⟩
            case measure=>omega
          have TK:=H_ (ST.out _ _ _ _ _ _ _ _ _ _ _ _ y (by omega))
          clear y Z ST
          go_wp2_with (first
           | (with_reducible show wpList _ _ _ ({ dst:=some 107,op:=_,type:=_,pos:=_,after:=_,guard:=_ } :: _) _ _
              refine zam rfl 31 _ rfl F (go+i * 20) rfl (actC q) O.out row31 (info31l q) ?_)
           | (go_at_call 22;(with_reducible refine TK.out.mono ?_);rintro e r ⟨rfl,S7,D7,H7,B7,X7,bd,ai,_,aO⟩))
          go_roundg g
          case rel=>exact ⟨i+1,z,rfl,by go_num,by omega,H_ ⟨_,_,_,_,_,_,_,_,_,_,.inr ⟨ai,p1,p2,by omega,b0,aO _ _ _ p4⟩⟩⟩
          case measure=>omega
end Go.Proofs.YtdgkdfmfoonbpaaGreat
