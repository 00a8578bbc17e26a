/- The statement ImageBack's function returns true, whatever its arguments are. -/
import Derived.Test.YthljnnjpmdgkoaaGreatI38
import Derived.Test.YthljnnjpmdgkoaaGreatI37
import Derived.Deep.RegionHeld3
import Derived.Deep.DeepCutAuto
namespace Go.Proofs.YthljnnjpmdgkoaaGreat
open Go Go.Proofs Go.RowKit
set_option maxRecDepth 100000
set_option maxHeartbeats 16000000 in
theorem zly {TA:zao} (hT:TreeOk TA 1000000) (hTD:TreeDl TA) (w:World) (v v2:Value) (l m:List CalQ) (hv:CalR w v l) (hlq:∀ q∈l,LeaQ q) (hv2:CalR w v2 m) :
 Calls Tryz.prog 11 #[v,v2] w fun e w'=>e=.returned (.bool true)/\Fr No w w':=by
 have x:=zcl w v l hv;have y:=zcl w v2 m hv2
 cases hfl:zba l with
 | false =>
   rw [hfl] at x;obtain ⟨va,af,O,_,_,_⟩:=hv.sl.shape;clear hv hv2 y;subst O;have CA:=H_ x;clear x;go_enter Tryz.func11,Tryz.ntmps11
   go_wp2_with (first
    | (go_at_call 15;with_reducible refine CA.out.mono ?_;rintro e w1 ⟨rfl,rfl⟩)
    | (go_at_call 39;refine (zax hT _).mono ?_;rintro e w2 ⟨rfl,B⟩))
   go_ret;exact ⟨rfl,B⟩
 | true =>
   rw [hfl] at x
   cases hfl2:zba m with
   | false =>
     rw [hfl2] at y;obtain ⟨va,af,O,_,_,_⟩:=hv.sl.shape;obtain ⟨vb,az,ay,_,_,_⟩:=hv2.sl.shape;clear hv hv2;subst O ay;have CA:=H_ x;have CB:=H_ y;clear x y;go_enter Tryz.func11,Tryz.ntmps11
     go_wp2_with (first
      | (go_at_call 15;(with_reducible refine CA.out.mono ?_);rintro e w1 ⟨rfl,rfl⟩)
      | (go_at_call 15;(with_reducible refine CB.out.mono ?_);rintro e w1 ⟨rfl,rfl⟩)
      | (go_at_call 39;refine (zax hT _).mono ?_;rintro e w2 ⟨rfl,B⟩))
     go_ret;exact ⟨rfl,B⟩
   | true =>
     rw [hfl2] at y;have bQ:=(zar hfl).1;have bR:=(zar hfl2).1;have aZ:=(zar hfl2).2;have ap:=zdi hT hTD w v l hv hfl;have hG:=zbe hfl l.length (Nat.le_refl _);have hI:=zdu hfl hlq;have ao:=zuz hfl;obtain ⟨va,af,O,_,_,_⟩:=hv.sl.shape;obtain ⟨vb,az,ay,bT,bU,be⟩:=hv2.sl.shape;clear hv;subst O ay;generalize donesT l l.length=SD at *;obtain ⟨S,D⟩:=SD;dsimp only at hG ap hI ao;have bS:=hG.rev1;have aV:=fun W s F hS=>zbl hT hG (by omega) (Nat.le_trans hI.len (by decide)) (Nat.le_of_lt hI.n64.len) W s F hS;have b3:=fun W=>zdl hT hI W;have CA:=H_ x;have CB:=H_ y;have br:=H_ ap;have bq:=H_ aV;have bu:=H_ b3;have HG:=H_ hG;have bp:=H_ ao;have am:=H_ hv2;have bv:=H_ be;have bs:=H_ aZ;have C:=H_ hfl2;clear x y ap aV b3 hG hI ao hv2 be aZ hlq
     go_enter Tryz.func11,Tryz.ntmps11
     go_upto_region 4 with (first
      | (go_at_call 15;(with_reducible refine CA.out.mono ?_);rintro e w1 ⟨rfl,rfl⟩)
      | (go_at_call 15;(with_reducible refine CB.out.mono ?_);rintro e w1 ⟨rfl,rfl⟩)
      | (go_at_call 40;(with_reducible refine br.out.mono ?_);rintro e w2 ⟨s,rfl,F,ba,B,b5⟩))
     have Q:=H_ ba;have ah:=H_ B;have aG:=H_ b5;clear ba B b5
     go_upto_region 5 with (first
      | (go_at_call 42;(with_reducible refine (bq.out _ _ _ Q.out).mono ?_);rintro e w3 ⟨rfl,G⟩)
      | (go_at_call 45;(with_reducible refine (bu.out w3).mono ?_)
         intro e w4 bJ;obtain ⟨t,S2,F4,rfl,bd,b4,aw,aq⟩:=bJ))
     have aU:zaj TA w4 s S F:=(Q.out.fr0 hT G).fr0 hT aq;have ab:∀ b,F b->w.heap.size<=b/\¬ F4 b:=fun b c=>⟨aG.out b c,fun h=>by have:=aw b h;have:=Q.out.lt hT b c;have:=G.size;omega⟩;have ae:∀ b,F4 b->w.heap.size<=b:=fun b c=>by have:=aw b c;have:=ah.out.size;have:=G.size;omega
     have aS:=b4.good HG.out (by omega);have ai:Hid (∀ i≤ m.length,Good (l.length+i) (dTs S m i) (dDs D m i)):=H_ (HG.out.goes (by omega) C.out);have aj:Hid (∀ i≤ m.length,Good (l.length+1+i) (dTs S2 m i) (dDs D m i)):=H_ (aS.goes (by omega) C.out);have aF:Hid (∀ i≤ m.length,(docB (dDs D m i)).length<=140737488355328/\(dDs D m i).kvs.length+(dDs D m i).events.length<=1000000):=H_ (zzs HG.out (by omega) C.out bp.out);have aK:=H_ aU;have aM:=H_ bd;have a7:=H_ ab;have aH:=H_ ae;have aE:=H_ ((ah.out.trans0 G).trans0 aq);clear aU bd ab ae aw aq G b4 aS Q ah aG;go_wp2_with fail
     go_loopg [8] m.length (fun g s8 wr=>∃ (i:Nat) (F1 F3:Nat->Prop),s8=.int .i64 i/\i+g=m.length/\Hid (zaj TA wr s (dTs S m i) F1)/\Hid (zaj TA wr t (dTs S2 m i) F3)/\Hid (∀ b,F1 b->w.heap.size<=b/\¬ F3 b)/\Hid (∀ b,F3 b->w.heap.size<=b)/\Hid (Fr No w wr))
     case atStart=>exact ⟨0,F,F4,rfl,by simp,aK,aM,a7,aH,aE⟩
     case round =>
      clear aK aM a7 aH aE;obtain ⟨i,F1,F3,rfl,hi,aJ,R,A,ak,HF⟩:=hrel
      cases gk with
      | zero =>
        have bI:¬ (i:Int)<(m.length:Int):=(by omega);have bH:i=m.length:=(by omega);subst bH;obtain ⟨d,p⟩:=aF.out m.length (Nat.le_refl _);have hA:=fun W hS=>zfr W (some ⟨s,0,none⟩) (docB (dDs D m m.length)) d (zbl hT (ai.out m.length (Nat.le_refl _)) (by omega) d p W s F1 hS);have hB:=fun W hS=>zfr W (some ⟨t,0,none⟩) (docB (dDs D m m.length)) d (zbl hT (aj.out m.length (Nat.le_refl _)) (by omega) d p W t F3 hS);generalize sumL (docB (dDs D m m.length))=sm at *;have HA:=H_ hA;have HB:=H_ hB;clear hA hB d p
        go_wp2_with (first
         | (go_at_call 43;(with_reducible refine (HA.out wr aJ.out).mono ?_);rintro e w7 ⟨rfl,aY⟩)
         | (go_at_call 43;(with_reducible refine (HB.out w7 (R.out.fr0 hT aY)).mono ?_);rintro e w8 ⟨rfl,bE⟩)
         | (go_at_call 39;refine (zax hT _).mono ?_;rintro e w9 ⟨rfl,bF⟩))
        go_ret;exact ⟨rfl,((HF.out.trans0 aY).trans0 bE).trans0 bF⟩
      | succ g =>
        obtain ⟨o,go,rfl⟩:=bv.out (by omega);obtain ⟨q,u⟩:∃ q,m[i]?=some q:=⟨_,List.getElem?_eq_getElem (by omega)⟩;have bI:(i:Int)<(m.length:Int):=(by omega);have hq:=bs.out q (List.mem_of_getElem? u);have r:=am.out.ops i q u;have n:=am.out.keys i q u;have ax:=am.out.sl;have ca:o<w.heap.size:=World.block_lt_of_cell? _ _ (ax.cell0 zal i u rfl);obtain ⟨oa,k,b8,_,_,_⟩:=r.shape;obtain ⟨ka,f,b0,_,_,_⟩:=n.shape;have M:=znx S m u;have N:=znx S2 m u;have au:=ai.out i (by omega);have av:=aj.out i (by omega);have aW:=(au.doDoc (by omega) hq).1;have aX:=(av.doDoc (by omega) hq).1;have J:=ai.out (i+1) (by omega);have K:=aj.out (i+1) (by omega);obtain ⟨d,p⟩:=aF.out (i+1) (by omega);generalize dDs D m (i+1)=D' at *;rw [M] at J
        rw [N] at K;obtain ⟨⟨p1,p2,⟨T,U,V,X,Y,g6,g7⟩,p3,p4,p5⟩,ops,a⟩:=q;dsimp only at b8 b0;subst b8 b0
        have HQ:Hid (∀ W,Fr (fun b=>w.heap.size<=b) w W->W.cell? ⟨o,go+i * 12,none⟩=some (.int .i64 p1)/\W.cell? ⟨o,go+i * 12+1,none⟩=some (.slice oa ops.length k)/\W.cell? ⟨o,go+i * 12+2,none⟩=some (.string T)/\W.cell? ⟨o,go+i * 12+3,none⟩=some (.string U)/\W.cell? ⟨o,go+i * 12+4,none⟩=some (.int .i64 V)/\W.cell? ⟨o,go+i * 12+5,none⟩=some (.int .i64 X)/\W.cell? ⟨o,go+i * 12+6,none⟩=some (.bool Y)/\W.cell? ⟨o,go+i * 12+7,none⟩=some (.bool g6)/\W.cell? ⟨o,go+i * 12+8,none⟩=some (.bool g7)/\W.cell? ⟨o,go+i * 12+9,none⟩=some (.int .i64 p3)/\W.cell? ⟨o,go+i * 12+10,none⟩=some (.int .i64 p4)/\W.cell? ⟨o,go+i * 12+11,none⟩=some (.slice ka a.length f)):=H_ (fun W hW=>by
         have h:=ax.frB zal (by decide) hW;exact ⟨h.cell0 zal i u rfl,h.cell zal i 1 u rfl,h.cell zal i 2 u rfl,h.cell zal i 3 u rfl,h.cell zal i 4 u rfl,h.cell zal i 5 u rfl,h.cell zal i 6 u rfl,h.cell zal i 7 u rfl,h.cell zal i 8 u rfl,h.cell zal i 9 u rfl,h.cell zal i 10 u rfl,h.cell zal i 11 u rfl⟩)
        generalize bD:dE (dDs D m i) (⟨⟨p1,.slice oa ops.length k,⟨T,U,V,X,Y,g6,g7⟩,p3,p4,.slice ka a.length f⟩,ops,a⟩:CalQ)=ee at *
        have bi:Hid (∀ W (F:Nat->Prop),Fr (fun b=>w.heap.size<=b) w W->zaj TA W s (dTs S m i) F->(∀ b,F b->w.heap.size<=b)->Calls Tryz.prog 27 #[.pointer (some ⟨s,0,none⟩),.agg #[.int .i64 p1,.slice oa ops.length k,.string T,.string U,.int .i64 V,.int .i64 X,.bool Y,.bool g6,.bool g7,.int .i64 p3,.int .i64 p4,.slice ka a.length f]] W fun e w'=>e=.returned (.int .i64 ee)/\∃ F',zaj TA w' s (doT (dTs S m i) (⟨⟨p1,.slice oa ops.length k,⟨T,U,V,X,Y,g6,g7⟩,p3,p4,.slice ka a.length f⟩,ops,a⟩:CalQ)) F'/\Fr F W w'/\(∀ b,F' b->F b\/W.heap.size<=b)):=H_ (fun W F hW hs hF=>by
         have h:=zoe hT hTD au (by omega) W s F hs (⟨⟨p1,.slice oa ops.length k,⟨T,U,V,X,Y,g6,g7⟩,p3,p4,.slice ka a.length f⟩,ops,a⟩:CalQ) hq (r.frB zaf (by decide) hW) (n.frB zbq (by decide) hW) (fun hp b c hF2=>by have:=r.lt zaf (by decide) hp b c;have:=hF b hF2;omega) (fun hp b c hF2=>by have:=n.lt zbq (by decide) hp b c;have:=hF b hF2;omega);rw [aW] at h;exact h)
        have bj:Hid (∀ W (F:Nat->Prop),Fr (fun b=>w.heap.size<=b) w W->zaj TA W t (dTs S2 m i) F->(∀ b,F b->w.heap.size<=b)->Calls Tryz.prog 27 #[.pointer (some ⟨t,0,none⟩),.agg #[.int .i64 p1,.slice oa ops.length k,.string T,.string U,.int .i64 V,.int .i64 X,.bool Y,.bool g6,.bool g7,.int .i64 p3,.int .i64 p4,.slice ka a.length f]] W fun e w'=>e=.returned (.int .i64 ee)/\∃ F',zaj TA w' t (doT (dTs S2 m i) (⟨⟨p1,.slice oa ops.length k,⟨T,U,V,X,Y,g6,g7⟩,p3,p4,.slice ka a.length f⟩,ops,a⟩:CalQ)) F'/\Fr F W w'/\(∀ b,F' b->F b\/W.heap.size<=b)):=H_ (fun W F hW hs hF=>by
         have h:=zoe hT hTD av (by omega) W t F hs (⟨⟨p1,.slice oa ops.length k,⟨T,U,V,X,Y,g6,g7⟩,p3,p4,.slice ka a.length f⟩,ops,a⟩:CalQ) hq (r.frB zaf (by decide) hW) (n.frB zbq (by decide) hW) (fun hp b c hF2=>by have:=r.lt zaf (by decide) hp b c;have:=hF b hF2;omega) (fun hp b c hF2=>by have:=n.lt zbq (by decide) hp b c;have:=hF b hF2;omega);rw [aX] at h;exact h)
        have bm:=H_ (fun W F hS=>zbl hT J (by omega) d p W s F hS);have bn:=H_ (fun W F hS=>zbl hT K (by omega) d p W t F hS);generalize (⟨(docB D').toArray⟩:ByteArray)=Z at *;have aN:=H_ M;have aO:=H_ N;have P:Fr (fun b=>w.heap.size<=b) w wr:=HF.out.mono fun _ _ h=>h.elim;have q1:=HQ.out _ P;have q2:=HQ.out _ P.drew;have C1:=H_ (bi.out wr.drew F1 P.drew (aJ.out.fr0 hT (Fr.refl No wr).drew) (fun b c=>(A.out b c).1));have bz:=H_ P;have cb:o<wr.heap.size:=(by have:=HF.out.size;omega);clear u hq r n ax M N au av aW aX J K d p P bD;go_wp2_with fail
        go_region_held3 (fun W=>W.cell? ⟨o,go+i * 12,none⟩=some (.int .i64 p1)/\W.cell? ⟨o,go+i * 12+1,none⟩=some (.slice oa ops.length k)/\W.cell? ⟨o,go+i * 12+2,none⟩=some (.string T)/\W.cell? ⟨o,go+i * 12+3,none⟩=some (.string U)/\W.cell? ⟨o,go+i * 12+4,none⟩=some (.int .i64 V)/\W.cell? ⟨o,go+i * 12+5,none⟩=some (.int .i64 X)/\W.cell? ⟨o,go+i * 12+6,none⟩=some (.bool Y)/\W.cell? ⟨o,go+i * 12+7,none⟩=some (.bool g6)/\W.cell? ⟨o,go+i * 12+8,none⟩=some (.bool g7)/\W.cell? ⟨o,go+i * 12+9,none⟩=some (.int .i64 p3)/\W.cell? ⟨o,go+i * 12+10,none⟩=some (.int .i64 p4)/\W.cell? ⟨o,go+i * 12+11,none⟩=some (.slice ka a.length f))
         (first | with_reducible exact q1 | with_reducible exact q2 | with_reducible exact qa | with_reducible exact qb | with_reducible exact qc | with_reducible exact qd | with_reducible exact qe | with_reducible exact qf | with_reducible exact qg | fail)
         (first
           | (go_at_call 27;(with_reducible refine C1.out.mono ?_);rintro e wa ⟨rfl,Fa,bb,H,b6⟩
              have ha:Fr (fun b=>w.heap.size<=b) w wa:=bz.out.drew.trans H fun j _ h=>(A.out j h).1;have qa:=HQ.out _ ha;have la:=H.size;have C2:=H_ (bj.out wa F3 ha ((R.out.fr0 hT (Fr.refl No wr).drew).fr hT H (fun b c h=>(A.out b h).2 c)) ak.out);have aP:=H_ ha;have a8:=H_ bb;have bL:=H_ H;have al:=H_ b6;clear ha bb H b6)
           | (go_at_call 27;(with_reducible refine C2.out.mono ?_);rintro e wb ⟨rfl,Fb,bc,I,b7⟩
              have ad:=R.out.lt hT
              have aa:∀ b,Fa b->¬ F3 b:=fun b c h=>by
               rcases al.out b c with h2 | h2
               · exact (A.out b h2).2 h
               have:=ad b h
               have c8:wr.heap.size<=b:=h2;omega
              have c:Fr (fun b=>w.heap.size<=b) w wb:=aP.out.trans I fun j _ h=>ak.out j h;have qb:=HQ.out _ c;have lb:=I.size;have L:=a8.out.fr hT I aa;have C3:=H_ (bm.out wb Fa L);have bw:=H_ c;have aL:=H_ L;have a9:=H_ bc;have bM:=H_ I;have aI:=H_ b7;clear c bc I b7 L aa ad)
           | (go_at_call 42;(with_reducible refine C3.out.mono ?_);rintro e wc ⟨rfl,z⟩
              have hc:Fr (fun b=>w.heap.size<=b) w wc:=bw.out.trans z fun _ _ h=>h.elim;have qc:=HQ.out _ hc;have C4:=H_ (bn.out wc Fb (a9.out.fr0 hT z));have bx:=H_ hc;have bo:=H_ z;clear hc z)
           | (go_at_call 42;(with_reducible refine C4.out.mono ?_);rintro e wg ⟨rfl,ar⟩
              have hg:Fr (fun b=>w.heap.size<=b) w wg:=bx.out.trans ar fun _ _ h=>h.elim;have qg:=HQ.out _ hg;have E:=H_ hg;have aD:=H_ (bo.out.trans0 ar);clear hg ar))
        all_goals
         go_wp2;go_roundg g
         case rel =>
          have hz:=HF.out.size;refine ⟨i+1,Fa,Fb,by go_num,by omega,H_ (by rw [aN.out];exact aL.out.fr0 hT aD.out),H_ (by rw [aO.out];exact a9.out.fr0 hT aD.out),H_ (fun b c=>?_),H_ (fun b c=>?_),H_ ⟨E.out.os,E.out.tape,E.out.output,E.out.size,fun b c _=>E.out.block b c (by omega)⟩⟩
          · have h0:w.heap.size<=b:=by
             rcases al.out b c with h | h
             · exact (A.out b h).1
             have h':wr.heap.size<=b:=h
             omega
            refine ⟨h0,fun h=>?_⟩;rcases aI.out b h with h2 | h2
            · rcases al.out b c with h3 | h3
              · exact (A.out b h3).2 h2
              have:=R.out.lt hT b h2
              have c9:wr.heap.size<=b:=h3;omega
            have:=a8.out.lt hT b c
            omega
          rcases aI.out b c with h | h
          · exact ak.out b h
          have:=aP.out.size
          omega
         case measure=>omega
end Go.Proofs.YthljnnjpmdgkoaaGreat
