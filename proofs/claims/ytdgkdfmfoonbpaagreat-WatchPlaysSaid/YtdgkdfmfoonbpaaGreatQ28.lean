/- Own lemmas. -/
import Derived.Test.YtdgkdfmfoonbpaaGreatQ27
import Derived.Shelf.SortG.Plain
import Derived.Shelf.SortG.SortNone
namespace Go.Proofs.YtdgkdfmfoonbpaaGreat
open Go Go.Proofs Go.RowKit
set_option maxRecDepth 100000
set_option maxHeartbeats 16000000
theorem zug {w:World} {h st:Nat} {H:Hb} {F:Nat->Prop} (hH:HubAt w h st H F) (t:Wt) (hk:t.key.size<=1099511627776) (hf0:0<=H.fed) (hf1:H.fed<=1000000) (hl1:H.last<=1000000) (_hfr:(Lit.int .i64 t.frm).wf=true) :
 Calls Tryz.prog 12 #[.pointer (some ⟨h,0,none⟩),wtV t] w fun e w'=>e=.returned (.tuple #[.int .i64 (if openE t=0 then H.last+1 else 0),.int .i64 (openE t)])/\∃ F',HubAt w' h st (if openE t=0 then openH H t else H) F'/\Fr F w w'/\∀ b,F' b->F b\/w.heap.size<=b:=by
 have ag:=fun W=>zec W ⟨t.key,t.end_,0,0,false,false,false⟩ hk;have aB:=hH;obtain ⟨m,hp,FL,a,hF⟩:=hH;have D:=a.obj.cell 1 rfl;have R:=a.obj.cell 2 rfl;have c3:=a.obj.cell 3 rfl;have lh:=a.obj.lt;have b3:=a.ok.last;unfold openE;generalize b0:askE ⟨t.key,t.end_,0,0,false,false,false⟩=ae at *;unfold rgV at ag;dsimp only at ag;have af:=H_ ag;have HA:=H_ a;have Q:=H_ hF;clear ag hF;have aC:=zad w (Obj.cells #[.string t.key,.string t.end_,.int .i64 t.frm,.bool t.np,.bool t.nd,.bool t.prev] 29) _ rfl;have hf:=(Fr.refl No w).alloc (Obj.cells #[.string t.key,.string t.end_,.int .i64 t.frm,.bool t.np,.bool t.nd,.bool t.prev] 29);have am:=H_ aC;have HF:=H_ hf;clear aC hf;by_cases h1:ae≠0
 · rw [if_pos h1,if_neg h1,if_neg h1]
   have aj:(ae != 0)=true:=(by simpa using h1);have aW:(ae==0)=false:=(by simpa using h1);clear a D R c3;unfold wtV;go_enter Tryz.func12,Tryz.ntmps12;go_wp2_with (go_at_call 41;(with_reducible refine (af.out _).mono ?_);rintro e w1 ⟨rfl,hf1⟩)
   go_ret2
   exact ⟨rfl,F,aB.fr0 (HF.out.trans0 hf1),(HF.out.trans0 hf1).mono fun _ _ h=>h.elim,fun b hb=>.inl hb⟩
 rw [if_neg h1]
 have aj:ae=0:=(by omega);clear h1;subst aj;by_cases h2:t.frm<0
 · rw [if_pos h2,if_neg (by decide),if_neg (by decide)]
   clear a D R c3;unfold wtV;go_enter Tryz.func12,Tryz.ntmps12;go_wp2_with (go_at_call 41;(with_reducible refine (af.out _).mono ?_);rintro e w1 ⟨rfl,hf1⟩;have n:=hf1.heap am.out id;have N:w1.cell? ⟨w.heap.size,2,none⟩=some (.int .i64 t.frm):=cellAt n 2 rfl;have ln:=zab n)
   go_ret2
   exact ⟨rfl,F,aB.fr0 (HF.out.trans0 hf1),(HF.out.trans0 hf1).mono fun _ _ h=>h.elim,fun b hb=>.inl hb⟩
 rw [if_neg h2,if_pos rfl,if_pos rfl]
 clear a D R c3;unfold wtV;go_enter Tryz.func12,Tryz.ntmps12;go_upto_region 8 with (go_at_call 41;(with_reducible refine (af.out _).mono ?_);rintro e w1 ⟨rfl,ar⟩;have n:=ar.heap am.out id;have N:w1.cell? ⟨w.heap.size,2,none⟩=some (.int .i64 t.frm):=cellAt n 2 rfl;have ln:=zab n);have ai:=HF.out.trans0 ar;have a1:=HA.out.fr ai fun _ _ x=>x;have D:=a1.obj.cell 1 rfl;have aF:=a1.obj.lt;have n0:w1.cell? ⟨w.heap.size,0,none⟩=some (.string t.key):=cellAt n 0 rfl;have n1:w1.cell? ⟨w.heap.size,1,none⟩=some (.string t.end_):=cellAt n 1 rfl;have n3:w1.cell? ⟨w.heap.size,3,none⟩=some (.bool t.np):=cellAt n 3 rfl;have n4:w1.cell? ⟨w.heap.size,4,none⟩=some (.bool t.nd):=cellAt n 4 rfl;have n5:w1.cell? ⟨w.heap.size,5,none⟩=some (.bool t.prev):=cellAt n 5 rfl
 have b5:w.heap.size<=w1.heap.size:=ai.size;have ad:=H_ a1;have an:=H_ ai;have aQ:=H_ n;obtain ⟨b,aq⟩:∃ b,b=w1.heap.size:=⟨_,rfl⟩;have q:=H_ aq;clear a1 ai ar n af am HF;have b4:IntKind.i64.wrap (H.fed+1)=H.fed+1:=(by rw [IntKind.wrap_i64];omega)
 go_cut [7] (fun s7 wx=>s7=.pointer (some ⟨b,0,none⟩)/\Hid (wx.heap[b]?=some (.cells #[.string t.key,.string t.end_,.int .i64 t.frm,.bool t.np,.bool t.nd,.bool t.prev,.slice none 0 0,.int .i64 (H.fed+1)] 100 (0,0)))/\Hid (Fr No w1 wx))
 case first =>
  clear aq;have q0:w1.cell? ⟨h,1,none⟩=some (.int .i64 H.fed)/\w1.cell? ⟨w.heap.size,0,none⟩=some (.string t.key)/\w1.cell? ⟨w.heap.size,1,none⟩=some (.string t.end_)/\w1.cell? ⟨w.heap.size,2,none⟩=some (.int .i64 t.frm)/\w1.cell? ⟨w.heap.size,3,none⟩=some (.bool t.np)/\w1.cell? ⟨w.heap.size,4,none⟩=some (.bool t.nd)/\w1.cell? ⟨w.heap.size,5,none⟩=some (.bool t.prev):=⟨D,n0,n1,N,n3,n4,n5⟩
  have q1:w1.drew.cell? ⟨h,1,none⟩=some (.int .i64 H.fed)/\w1.drew.cell? ⟨w.heap.size,0,none⟩=some (.string t.key)/\w1.drew.cell? ⟨w.heap.size,1,none⟩=some (.string t.end_)/\w1.drew.cell? ⟨w.heap.size,2,none⟩=some (.int .i64 t.frm)/\w1.drew.cell? ⟨w.heap.size,3,none⟩=some (.bool t.np)/\w1.drew.cell? ⟨w.heap.size,4,none⟩=some (.bool t.nd)/\w1.drew.cell? ⟨w.heap.size,5,none⟩=some (.bool t.prev):=⟨D,n0,n1,N,n3,n4,n5⟩
  have q2:∀ o,(w1.alloc o).drew.cell? ⟨h,1,none⟩=some (.int .i64 H.fed)/\(w1.alloc o).drew.cell? ⟨w.heap.size,0,none⟩=some (.string t.key)/\(w1.alloc o).drew.cell? ⟨w.heap.size,1,none⟩=some (.string t.end_)/\(w1.alloc o).drew.cell? ⟨w.heap.size,2,none⟩=some (.int .i64 t.frm)/\(w1.alloc o).drew.cell? ⟨w.heap.size,3,none⟩=some (.bool t.np)/\(w1.alloc o).drew.cell? ⟨w.heap.size,4,none⟩=some (.bool t.nd)/\(w1.alloc o).drew.cell? ⟨w.heap.size,5,none⟩=some (.bool t.prev):=fun o=>⟨(World.cell?_alloc_lt w1 o _ aF).trans D,(World.cell?_alloc_lt w1 o _ ln).trans n0,(World.cell?_alloc_lt w1 o _ ln).trans n1,(World.cell?_alloc_lt w1 o _ ln).trans N,(World.cell?_alloc_lt w1 o _ ln).trans n3,(World.cell?_alloc_lt w1 o _ ln).trans n4,(World.cell?_alloc_lt w1 o _ ln).trans n5⟩;clear D n0 n1 N n3 n4 n5
  go_region_held3 (fun W=>W.cell? ⟨h,1,none⟩=some (.int .i64 H.fed)/\W.cell? ⟨w.heap.size,0,none⟩=some (.string t.key)/\W.cell? ⟨w.heap.size,1,none⟩=some (.string t.end_)/\W.cell? ⟨w.heap.size,2,none⟩=some (.int .i64 t.frm)/\W.cell? ⟨w.heap.size,3,none⟩=some (.bool t.np)/\W.cell? ⟨w.heap.size,4,none⟩=some (.bool t.nd)/\W.cell? ⟨w.heap.size,5,none⟩=some (.bool t.prev))
   (first | with_reducible exact q0 | with_reducible exact q1 | with_reducible exact q2 _ | fail)
   (first | fail)
  all_goals
   go_wp2;go_meet
   case rel=>exact ⟨by rw [q.out],H_ (by rw [q.out];exact zad w1 _ _ rfl),H_ (((Fr.refl No w1).alloc _).drew)⟩
 case rest =>
 obtain ⟨rfl,P,Y⟩:=hcut;generalize aT:wc=f at *;clear aT D n0 n1 N n3 n4 n5 ln aF;have S:=ad.out.fr Y.out fun _ _ x=>x;have D:=S.obj.cell 1 rfl;have R:=S.obj.cell 2 rfl;have c3:=S.obj.cell 3 rfl;have a6:=Y.out.heap aQ.out id;have N:f.cell? ⟨w.heap.size,2,none⟩=some (.int .i64 t.frm):=cellAt a6 2 rfl;have ln:=zab a6;have b8:=S.obj.lt;have b6:=zab P.out;have b7:f.cell? ⟨b,7,none⟩=some (.int .i64 (H.fed+1)):=cellAt P.out 7 rfl;have al:=H_ S;clear S a6;go_upto_region 9 with fail;have fz:f.frozen? ⟨b,7,none⟩=false:=(by unfold World.frozen?;rw [P.out];rfl);clear aq;rcases (show (1<=t.frm/\t.frm<=H.fed)\/(1<=t.frm/\¬ t.frm<=H.fed)\/¬ 1<=t.frm by omega) with ⟨U,a7⟩ | ⟨U,a7⟩ | U
 · have d1:decide (1<=t.frm)=true:=dT_ U
   have d2:decide (t.frm<=H.fed)=true:=dT_ a7;have q0:f.cell? ⟨h,1,none⟩=some (.int .i64 H.fed)/\f.cell? ⟨w.heap.size,2,none⟩=some (.int .i64 t.frm):=⟨D,N⟩;have q1:f.drew.cell? ⟨h,1,none⟩=some (.int .i64 H.fed)/\f.drew.cell? ⟨w.heap.size,2,none⟩=some (.int .i64 t.frm):=⟨D,N⟩;clear D R c3 N
   go_region_held3 (fun W=>W.cell? ⟨h,1,none⟩=some (.int .i64 H.fed)/\W.cell? ⟨w.heap.size,2,none⟩=some (.int .i64 t.frm))
    (first | with_reducible exact q0 | with_reducible exact q1 | fail)
    (first | fail)
   go_upto_region 11 with fail;have V:Hid (((f.setCell ⟨b,7,none⟩ (.int .i64 t.frm)).drew).heap[b]?=some (.cells #[.string t.key,.string t.end_,.int .i64 t.frm,.bool t.np,.bool t.nd,.bool t.prev,.slice none 0 0,.int .i64 t.frm] 100 (0,0))):=H_ (zac (w:=f) P.out 7 _);have A:Hid (Fr (fun x=>x=b) f ((f.setCell ⟨b,7,none⟩ (.int .i64 t.frm)).drew)):=H_ ((Fr.refl (fun x=>x=b) f).setCell (p:=⟨b,7,none⟩) (.inl rfl) _).drew;have a3:Hid ((openS H t).place=t.frm):=H_ (by unfold openS;exact if_pos ⟨U,a7⟩);clear fz;generalize (f.setCell ⟨b,7,none⟩ (.int .i64 t.frm)).drew=B at *
   have v:∀ x,hubF h m FL x->x≠b:=fun x hx e=>by
    have h1:=ad.out.lt x hx;have h2:=q.out;omega
   have d:=al.out.fr A.out fun x hx e=>v x hx e;have R:=d.obj.cell 2 rfl;have f2:=d.obj.free 2;have aG:=d.obj.lt;have g:=H_ d;have r:=H_ v;clear d v;have aE:IntKind.i64.wrap (H.last+1)=H.last+1:=(by rw [IntKind.wrap_i64];omega);go_upto_region 12 with fail;have l:Fr (fun x=>x=h) B (B.setCell ⟨h,2,none⟩ (.int .i64 (H.last+1))):=(Fr.refl (fun x=>x=h) B).setAt 2 _;have c:HubR (B.setCell ⟨h,2,none⟩ (.int .i64 (H.last+1))) h st m hp FL ⟨H.fed,H.last+1,H.L⟩:=g.out.setObj l (g.out.obj.set 2 (.int .i64 (H.last+1))) ⟨g.out.ok.up,fun p hp=>by have:=g.out.ok.ids p hp;dsimp only;omega,by dsimp only;omega⟩;have E:=l.heap V.out (fun e=>r.out h (.inl rfl) e.symm);generalize B.setCell ⟨h,2,none⟩ (.int .i64 (H.last+1))=O at *;have d2:=c.obj.cell 2 rfl
   have d3:=c.obj.cell 3 rfl;have aH:=c.obj.lt;have a0:=H_ (c.map.fr (Fr.refl No O).drew fun x=>x);have j:=H_ c;have X:=H_ E;have Z:=H_ l;have M:(Lit.int .i64 (H.last+1)).wf=true:=wf64 (by omega) (by omega);have a4:=H_ M;clear c E l R f2 M;refine wp_region_still_tail 9 (by kernel_rfl) (by kernel_rfl) ?_;simp only [List.take_succ_cons,List.take_zero,List.drop_succ_cons,List.drop_zero];change wpStill _ _ O.drew _ _ _
   repeat (refine wpStill_step (fun K hK=>?_);go_simp;(try go_bits);refine hK _ ?_;clear hK K)
   refine wpStill_nil ?_;change wpList _ _ _ _ _ O.drew;refine zdj rfl _ _ _ 94 rfl 3 98 Tryz.underlying94 Tryz.underlying3 m _ rfl a0.out (H.last+1) rfl a4.out (.pointer (some ⟨b,0,none⟩)) rfl ?_;intro w5 J I aD;have y:=(Fr.refl (fun x=>x=m) O).drew.trans I fun _ _ e=>e;have z:Has w5 h [.pointer (some ⟨st,0,none⟩),.int .i64 H.fed,.int .i64 (H.last+1),.map (some m)]:=j.out.obj.fr y fun e=>j.out.map.apart j.out.obj e.symm;have e2:=z.cell 2 rfl;have le:=z.lt;have a2:=H_ J;have u:=H_ y;clear J I y z d2 d3;go_wp2_with fail
   go_ret2
   have a8:getH H.L (H.last+1)=none:=HA.out.ok.none (.inl (by omega));have k:∀ x,x=h\/x=m->F x:=fun x e=>(Q.out x).2 (e.imp (fun e=>e) fun e=>.inl e)
   have G:Fr F w w5:=by
    refine ((((an.out.mono fun _ _ h=>h.elim).trans (Y.out.mono (T:=F) fun _ _ h=>h.elim) fun _ _ e=>e).trans A.out fun x hx e=>?_).trans Z.out fun x _ e=>k x (.inl e)).trans u.out fun x _ e=>k x (.inr e);have e':x=b:=e;have:=q.out;omega
   have a9:Has w5 b (smC (openS H t).w (.slice none 0 0) (openS H t).place):=by
    rw [a3.out];exact ⟨_,u.out.heap X.out fun e=>r.out m (.inr (.inl rfl)) e.symm⟩
   have a5:=j.out.addSm (id:=H.last+1) (p:=b) (s:=openS H t) a8 rfl u.out (fun x hx=>r.out x hx) a9 a2.out (HA.out.ok.open t);refine ⟨rfl,_,⟨m,_,_,a5,fun _=>Iff.rfl⟩,G,fun x hx=>?_⟩;rcases hx with e | e | ⟨i,e⟩
   · exact .inl (k x (.inl e))
   · exact .inl (k x (.inr e))
   by_cases hi:i=H.last+1
   · rw [if_pos hi] at e
     have:=q.out
     right
     omega
   rw [if_neg hi] at e
   exact .inl ((Q.out x).2 (.inr (.inr ⟨i,e⟩)))
 · have d1:decide (1<=t.frm)=true:=dT_ U
   have d2:decide (t.frm<=H.fed)=false:=dF_ a7;have q0:f.cell? ⟨h,1,none⟩=some (.int .i64 H.fed)/\f.cell? ⟨w.heap.size,2,none⟩=some (.int .i64 t.frm):=⟨D,N⟩;have q1:f.drew.cell? ⟨h,1,none⟩=some (.int .i64 H.fed)/\f.drew.cell? ⟨w.heap.size,2,none⟩=some (.int .i64 t.frm):=⟨D,N⟩;clear D R c3 N
   go_region_held3 (fun W=>W.cell? ⟨h,1,none⟩=some (.int .i64 H.fed)/\W.cell? ⟨w.heap.size,2,none⟩=some (.int .i64 t.frm))
    (first | with_reducible exact q0 | with_reducible exact q1 | fail)
    (first | fail)
   go_upto_region 11 with fail;have V:Hid ((f.drew).heap[b]?=some (.cells #[.string t.key,.string t.end_,.int .i64 t.frm,.bool t.np,.bool t.nd,.bool t.prev,.slice none 0 0,.int .i64 (H.fed+1)] 100 (0,0))):=H_ P.out;have A:Hid (Fr (fun x=>x=b) f (f.drew)):=H_ (Fr.refl (fun x=>x=b) f).drew;have a3:Hid ((openS H t).place=(H.fed+1)):=H_ (by unfold openS;exact if_neg fun h=>a7 h.2);clear fz;generalize f.drew=B at *
   have v:∀ x,hubF h m FL x->x≠b:=fun x hx e=>by
    have h1:=ad.out.lt x hx;have h2:=q.out;omega
   have d:=al.out.fr A.out fun x hx e=>v x hx e;have R:=d.obj.cell 2 rfl;have f2:=d.obj.free 2;have aG:=d.obj.lt;have g:=H_ d;have r:=H_ v;clear d v;have aE:IntKind.i64.wrap (H.last+1)=H.last+1:=(by rw [IntKind.wrap_i64];omega);go_upto_region 12 with fail;have l:Fr (fun x=>x=h) B (B.setCell ⟨h,2,none⟩ (.int .i64 (H.last+1))):=(Fr.refl (fun x=>x=h) B).setAt 2 _;have c:HubR (B.setCell ⟨h,2,none⟩ (.int .i64 (H.last+1))) h st m hp FL ⟨H.fed,H.last+1,H.L⟩:=g.out.setObj l (g.out.obj.set 2 (.int .i64 (H.last+1))) ⟨g.out.ok.up,fun p hp=>by have:=g.out.ok.ids p hp;dsimp only;omega,by dsimp only;omega⟩;have E:=l.heap V.out (fun e=>r.out h (.inl rfl) e.symm);generalize B.setCell ⟨h,2,none⟩ (.int .i64 (H.last+1))=O at *;have d2:=c.obj.cell 2 rfl
   have d3:=c.obj.cell 3 rfl;have aH:=c.obj.lt;have a0:=H_ (c.map.fr (Fr.refl No O).drew fun x=>x);have j:=H_ c;have X:=H_ E;have Z:=H_ l;have M:(Lit.int .i64 (H.last+1)).wf=true:=wf64 (by omega) (by omega);have a4:=H_ M;clear c E l R f2 M;refine wp_region_still_tail 9 (by kernel_rfl) (by kernel_rfl) ?_;simp only [List.take_succ_cons,List.take_zero,List.drop_succ_cons,List.drop_zero];change wpStill _ _ O.drew _ _ _
   repeat (refine wpStill_step (fun K hK=>?_);go_simp;(try go_bits);refine hK _ ?_;clear hK K)
   refine wpStill_nil ?_;change wpList _ _ _ _ _ O.drew;refine zdj rfl _ _ _ 94 rfl 3 98 Tryz.underlying94 Tryz.underlying3 m _ rfl a0.out (H.last+1) rfl a4.out (.pointer (some ⟨b,0,none⟩)) rfl ?_;intro w5 J I aD;have y:=(Fr.refl (fun x=>x=m) O).drew.trans I fun _ _ e=>e;have z:Has w5 h [.pointer (some ⟨st,0,none⟩),.int .i64 H.fed,.int .i64 (H.last+1),.map (some m)]:=j.out.obj.fr y fun e=>j.out.map.apart j.out.obj e.symm;have e2:=z.cell 2 rfl;have le:=z.lt;have a2:=H_ J;have u:=H_ y;clear J I y z d2 d3;go_wp2_with fail
   go_ret2
   have a8:getH H.L (H.last+1)=none:=HA.out.ok.none (.inl (by omega));have k:∀ x,x=h\/x=m->F x:=fun x e=>(Q.out x).2 (e.imp (fun e=>e) fun e=>.inl e)
   have G:Fr F w w5:=by
    refine ((((an.out.mono fun _ _ h=>h.elim).trans (Y.out.mono (T:=F) fun _ _ h=>h.elim) fun _ _ e=>e).trans A.out fun x hx e=>?_).trans Z.out fun x _ e=>k x (.inl e)).trans u.out fun x _ e=>k x (.inr e);have e':x=b:=e;have:=q.out;omega
   have a9:Has w5 b (smC (openS H t).w (.slice none 0 0) (openS H t).place):=by
    rw [a3.out];exact ⟨_,u.out.heap X.out fun e=>r.out m (.inr (.inl rfl)) e.symm⟩
   have a5:=j.out.addSm (id:=H.last+1) (p:=b) (s:=openS H t) a8 rfl u.out (fun x hx=>r.out x hx) a9 a2.out (HA.out.ok.open t);refine ⟨rfl,_,⟨m,_,_,a5,fun _=>Iff.rfl⟩,G,fun x hx=>?_⟩;rcases hx with e | e | ⟨i,e⟩
   · exact .inl (k x (.inl e))
   · exact .inl (k x (.inr e))
   by_cases hi:i=H.last+1
   · rw [if_pos hi] at e
     have:=q.out
     right
     omega
   rw [if_neg hi] at e
   exact .inl ((Q.out x).2 (.inr (.inr ⟨i,e⟩)))
 have au:t.frm=0:=by omega
 rw [au] at N;have aY:=H_ au;have q1:f.drew.cell? ⟨w.heap.size,2,none⟩=some (.int .i64 0):=N;have l1:w.heap.size<f.drew.heap.size:=ln;clear D R c3 N au;refine zak (C:=fun W=>W=f.drew) (by kernel_rfl) (by kernel_rfl) rfl ?_
 repeat (refine (wpQuiet_step (fun K hK=>?_):_)
         go_simp
         first
          | (refine hK _ ?_;clear hK K)
          | (apply Exists.intro
             refine ⟨fun W hW=>?_,hK _ ?_⟩
             (first
               | exact rfl
               | (subst hW;go_simp;exact rfl))
             clear hK K))
 refine (wpQuiet_nil ?_:_);intro w9 aS;subst aS;go_upto_region 11 with fail;have V:Hid ((f.drew).heap[b]?=some (.cells #[.string t.key,.string t.end_,.int .i64 t.frm,.bool t.np,.bool t.nd,.bool t.prev,.slice none 0 0,.int .i64 (H.fed+1)] 100 (0,0))):=H_ P.out;have A:Hid (Fr (fun x=>x=b) f (f.drew)):=H_ (Fr.refl (fun x=>x=b) f).drew;have a3:Hid ((openS H t).place=(H.fed+1)):=H_ (by unfold openS;exact if_neg fun h=>U h.1);clear fz;generalize f.drew=B at *
 have v:∀ x,hubF h m FL x->x≠b:=fun x hx e=>by
  have h1:=ad.out.lt x hx;have h2:=q.out;omega
 have d:=al.out.fr A.out fun x hx e=>v x hx e;have R:=d.obj.cell 2 rfl;have f2:=d.obj.free 2;have aG:=d.obj.lt;have g:=H_ d;have r:=H_ v;clear d v;have aE:IntKind.i64.wrap (H.last+1)=H.last+1:=(by rw [IntKind.wrap_i64];omega);go_upto_region 12 with fail;have l:Fr (fun x=>x=h) B (B.setCell ⟨h,2,none⟩ (.int .i64 (H.last+1))):=(Fr.refl (fun x=>x=h) B).setAt 2 _;have c:HubR (B.setCell ⟨h,2,none⟩ (.int .i64 (H.last+1))) h st m hp FL ⟨H.fed,H.last+1,H.L⟩:=g.out.setObj l (g.out.obj.set 2 (.int .i64 (H.last+1))) ⟨g.out.ok.up,fun p hp=>by have:=g.out.ok.ids p hp;dsimp only;omega,by dsimp only;omega⟩;have E:=l.heap V.out (fun e=>r.out h (.inl rfl) e.symm);generalize B.setCell ⟨h,2,none⟩ (.int .i64 (H.last+1))=O at *;have d2:=c.obj.cell 2 rfl
 have d3:=c.obj.cell 3 rfl;have aH:=c.obj.lt;have a0:=H_ (c.map.fr (Fr.refl No O).drew fun x=>x);have j:=H_ c;have X:=H_ E;have Z:=H_ l;have M:(Lit.int .i64 (H.last+1)).wf=true:=wf64 (by omega) (by omega);have a4:=H_ M;clear c E l R f2 M;refine wp_region_still_tail 9 (by kernel_rfl) (by kernel_rfl) ?_;simp only [List.take_succ_cons,List.take_zero,List.drop_succ_cons,List.drop_zero];change wpStill _ _ O.drew _ _ _
 repeat (refine wpStill_step (fun K hK=>?_);go_simp;(try go_bits);refine hK _ ?_;clear hK K)
 refine wpStill_nil ?_;change wpList _ _ _ _ _ O.drew;refine zdj rfl _ _ _ 94 rfl 3 98 Tryz.underlying94 Tryz.underlying3 m _ rfl a0.out (H.last+1) rfl a4.out (.pointer (some ⟨b,0,none⟩)) rfl ?_;intro w5 J I aD;have y:=(Fr.refl (fun x=>x=m) O).drew.trans I fun _ _ e=>e;have z:Has w5 h [.pointer (some ⟨st,0,none⟩),.int .i64 H.fed,.int .i64 (H.last+1),.map (some m)]:=j.out.obj.fr y fun e=>j.out.map.apart j.out.obj e.symm;have e2:=z.cell 2 rfl;have le:=z.lt;have a2:=H_ J;have u:=H_ y;clear J I y z d2 d3;go_wp2_with fail
 go_ret2
 have a8:getH H.L (H.last+1)=none:=HA.out.ok.none (.inl (by omega));have k:∀ x,x=h\/x=m->F x:=fun x e=>(Q.out x).2 (e.imp (fun e=>e) fun e=>.inl e)
 have G:Fr F w w5:=by
  refine ((((an.out.mono fun _ _ h=>h.elim).trans (Y.out.mono (T:=F) fun _ _ h=>h.elim) fun _ _ e=>e).trans A.out fun x hx e=>?_).trans Z.out fun x _ e=>k x (.inl e)).trans u.out fun x _ e=>k x (.inr e);have e':x=b:=e;have:=q.out;omega
 have a9:Has w5 b (smC (openS H t).w (.slice none 0 0) (openS H t).place):=by
  rw [a3.out];exact ⟨_,u.out.heap X.out fun e=>r.out m (.inr (.inl rfl)) e.symm⟩
 have a5:=j.out.addSm (id:=H.last+1) (p:=b) (s:=openS H t) a8 rfl u.out (fun x hx=>r.out x hx) a9 a2.out (HA.out.ok.open t);refine ⟨rfl,_,⟨m,_,_,a5,fun _=>Iff.rfl⟩,G,fun x hx=>?_⟩;rcases hx with e | e | ⟨i,e⟩
 · exact .inl (k x (.inl e))
 · exact .inl (k x (.inr e))
 by_cases hi:i=H.last+1
 · rw [if_pos hi] at e
   have:=q.out
   right
   omega
 rw [if_neg hi] at e
 exact .inl ((Q.out x).2 (.inr (.inr ⟨i,e⟩)))
open Go Go.RowKit Go.WideElems Go.ChangeMaps
theorem zzao {wr w2:World} {b:Nat} (hw2:w2=wr\/w2=wr.drew) (o:Obj):Fr (fun k=>k=b) wr (ChangeMaps.setBlock w2 b o)/\(ChangeMaps.setBlock w2 b o).heap.size=wr.heap.size:=by
 have a:(ChangeMaps.setBlock w2 b o).heap.size=wr.heap.size:=by rcases hw2 with rfl | rfl <;> simp [ChangeMaps.setBlock]
 rcases hw2 with rfl | rfl
 · exact ⟨⟨rfl,rfl,rfl,Nat.le_of_eq a.symm,fun k _ hk=>zds _ _ _ _ hk⟩,a⟩
 exact ⟨⟨rfl,rfl,rfl,Nat.le_of_eq a.symm,fun k _ hk=>zds _ _ _ _ hk⟩,a⟩
theorem zxd {es:Array MapEntry} (hnd:(es.toList.map (·.born)).Nodup) {x e:MapEntry} (hx:x∈es.toList) (he:e∈es.toList) (hb:x.born=e.born):x=e:=by
 obtain ⟨i,a⟩:=List.mem_iff_getElem?.1 hx;obtain ⟨j,c⟩:=List.mem_iff_getElem?.1 he;have b:=(gS_ a).1;have d:(es.toList.map (·.born))[i]?=(es.toList.map (·.born))[j]?:=by rw [List.getElem?_map,List.getElem?_map,a,c];simp [hb]
 have:=(List.getElem?_inj (by simpa using b) hnd).1 d;subst this;rw [a] at c;exact Option.some.inj c
theorem zyx {es:Array MapEntry} (hnd:(es.toList.map (·.key)).Nodup) {x e:MapEntry} (hx:x∈es.toList) (he:e∈es.toList) (hb:x.key=e.key):x=e:=by
 obtain ⟨i,a⟩:=List.mem_iff_getElem?.1 hx;obtain ⟨j,c⟩:=List.mem_iff_getElem?.1 he;have b:=(gS_ a).1;have d:(es.toList.map (·.key))[i]?=(es.toList.map (·.key))[j]?:=by rw [List.getElem?_map,List.getElem?_map,a,c];simp [hb]
 have:=(List.getElem?_inj (by simpa using b) hnd).1 d;subst this;rw [a] at c;exact Option.some.inj c
theorem zvh {es:Array MapEntry} {seen:Array Nat} {e x:MapEntry} (hnd:(es.toList.map (·.born)).Nodup) (he:e∈es.toList) (hx:x∈es.toList) (hc:(seen.push e.born).contains x.born=true):seen.contains x.born=true\/x=e:=by
 rw [contains_push,Bool.or_eq_true] at hc;rcases hc with hc | hc
 · exact .inl hc
 exact .inr (zxd hnd hx he (by simpa using hc))
theorem zya {seen:Array Nat} {b c:Nat} (h:seen.contains c=true):(seen.push b).contains c=true:=by rw [contains_push,h];rfl
theorem zyb {seen:Array Nat} {b:Nat}:(seen.push b).contains b=true:=by rw [contains_push];simp
open Go Go.Proofs Go.Shelf
def zpf:Go.Shelf.Ren:=⟨fun | 53=>74 | 64=>100 | 63=>99 | 78=>130 | 79=>131 | 70=>121 | 71=>122 | 72=>123 | 73=>124 | 74=>125 | 75=>126 | 59=>127 | 76=>128 | 77=>129 | 88=>148 | 89=>149 | 90=>150 | 91=>151 | 92=>152 | 68=>153 | 96=>162 | n=>n,fun | 22=>48 | 23=>3 | 3=>3 | 51=>182 | 0=>0 | 67=>216 | 69=>218 | 4=>4 | 61=>209 | 60=>208 | 44=>155 | 5=>5 | 9=>9 | 75=>232 | 79=>236 | 83=>242 | 84=>243 | n=>n,fun | n=>n⟩
theorem zwj:SlLaysN.n53 Tryz.prog zpf:={
 mixed:=by kernel_rfl,
 f53:=⟨Tryz.f74.name,by decide,Tryz.func74.trans (congrArg some (by kernel_rfl))⟩,
 f59:=⟨Tryz.f127.name,by decide,Tryz.func127.trans (congrArg some (by kernel_rfl))⟩,
 f63:=⟨Tryz.f99.name,by decide,Tryz.func99.trans (congrArg some (by kernel_rfl))⟩,
 f64:=Tryz.func100.trans (congrArg some (by kernel_rfl)),
 f68:=⟨Tryz.f153.name,by decide,Tryz.func153.trans (congrArg some (by kernel_rfl))⟩,
 f70:=⟨Tryz.f121.name,by decide,Tryz.func121.trans (congrArg some (by kernel_rfl))⟩,
 f71:=⟨Tryz.f122.name,by decide,Tryz.func122.trans (congrArg some (by kernel_rfl))⟩,
 f72:=⟨Tryz.f123.name,by decide,Tryz.func123.trans (congrArg some (by kernel_rfl))⟩,
 f73:=⟨Tryz.f124.name,by decide,Tryz.func124.trans (congrArg some (by kernel_rfl))⟩,
 f74:=⟨Tryz.f125.name,by decide,Tryz.func125.trans (congrArg some (by kernel_rfl))⟩,
 f75:=⟨Tryz.f126.name,by decide,Tryz.func126.trans (congrArg some (by kernel_rfl))⟩,
 f76:=⟨Tryz.f128.name,by decide,Tryz.func128.trans (congrArg some (by kernel_rfl))⟩,
 f77:=⟨Tryz.f129.name,by decide,Tryz.func129.trans (congrArg some (by kernel_rfl))⟩,
 f78:=Tryz.func130.trans (congrArg some (by kernel_rfl)),
 f79:=Tryz.func131.trans (congrArg some (by kernel_rfl)),
 f88:=⟨Tryz.f148.name,by decide,Tryz.func148.trans (congrArg some (by kernel_rfl))⟩,
 f89:=Tryz.func149.trans (congrArg some (by kernel_rfl)),
 f90:=Tryz.func150.trans (congrArg some (by kernel_rfl)),
 f91:=⟨Tryz.f151.name,by decide,Tryz.func151.trans (congrArg some (by kernel_rfl))⟩,
 f92:=⟨Tryz.f152.name,by decide,Tryz.func152.trans (congrArg some (by kernel_rfl))⟩,
 f96:=⟨Tryz.f162.name,by decide,Tryz.func162.trans (congrArg some (by kernel_rfl))⟩,
 t0:=Tryz.underlying0,
 a0:=Tryz.isAgg0,
 z0:=Tryz.sizeOf0,
 v0:=Tryz.zeroValue0,
 t3:=Tryz.underlying3,
 a3:=Tryz.isAgg3,
 z3:=Tryz.sizeOf3,
 v3:=Tryz.zeroValue3,
 t4:=Tryz.underlying4,
 a4:=Tryz.isAgg4,
 z4:=Tryz.sizeOf4,
 v4:=Tryz.zeroValue4,
 t5:=Tryz.underlying5,
 a5:=Tryz.isAgg5,
 z5:=Tryz.sizeOf5,
 v5:=Tryz.zeroValue5,
 t9:=Tryz.underlying9,
 a9:=Tryz.isAgg9,
 z9:=Tryz.sizeOf9,
 v9:=Tryz.zeroValue9,
 t22:=Tryz.underlying48,
 a22:=Tryz.isAgg48,
 z22:=Tryz.sizeOf48,
 v22:=Tryz.zeroValue48,
 t23:=Tryz.underlying3,
 a23:=Tryz.isAgg3,
 z23:=Tryz.sizeOf3,
 v23:=Tryz.zeroValue3,
 t44:=Tryz.underlying155,
 a44:=Tryz.isAgg155,
 z44:=Tryz.sizeOf155,
 v44:=Tryz.zeroValue155,
 t51:=Tryz.underlying182,
 a51:=Tryz.isAgg182,
 z51:=Tryz.sizeOf182,
 v51:=Tryz.zeroValue182,
 t60:=Tryz.underlying208,
 a60:=Tryz.isAgg208,
 z60:=Tryz.sizeOf208,
 v60:=Tryz.zeroValue208,
 t61:=Tryz.underlying209,
 a61:=Tryz.isAgg209,
 z61:=Tryz.sizeOf209,
 v61:=Tryz.zeroValue209,
 t67:=Tryz.underlying216,
 a67:=Tryz.isAgg216,
 z67:=Tryz.sizeOf216,
 v67:=Tryz.zeroValue216,
 t69:=Tryz.underlying218,
 a69:=Tryz.isAgg218,
 z69:=Tryz.sizeOf218,
 v69:=Tryz.zeroValue218,
 t75:=Tryz.underlying232,
 a75:=Tryz.isAgg232,
 z75:=Tryz.sizeOf232,
 v75:=Tryz.zeroValue232,
 t79:=Tryz.underlying236,
 a79:=Tryz.isAgg236,
 z79:=Tryz.sizeOf236,
 v79:=Tryz.zeroValue236,
 t83:=Tryz.underlying242,
 a83:=Tryz.isAgg242,
 z83:=Tryz.sizeOf242,
 v83:=Tryz.zeroValue242,
 t84:=Tryz.underlying243,
 a84:=Tryz.isAgg243,
 z84:=Tryz.sizeOf243,
 v84:=Tryz.zeroValue243 }
open Go Go.Proofs Go.RowKit Go.Sort
theorem row_fr (w:World) (blk off n:Nat) (F:Array Value) (os:Array Obj):Fr (fun b=>b=blk) w (grow (putRow id (Sort.ahead w n) blk off F) os):=by
 refine ⟨rfl,rfl,rfl,?_,fun k hk hn=>?_⟩
 · simp [grow,putRow,mapBlock,Sort.ahead]
 rw [heap_grow_old _ _ (by simpa using hk)]
 have:blk≠k:=fun e=>hn e.symm;simp [putRow,mapBlock,Sort.ahead,Array.getElem?_modify,this]
theorem row_sl {α:Type} {f:α->List Value} {sz e:Nat} (hf:∀ x,(f x).length=sz) {w:World} {blk off cap n:Nat} {L L':List α} {os:Array Obj} (h:SlF w e sz f (.slice (some ⟨blk,off,none⟩) L.length cap) L) (hl:L'.length=L.length) :
 SlF (grow (putRow id (Sort.ahead w n) blk off (L'.flatMap f).toArray) os) e sz f (.slice (some ⟨blk,off,none⟩) L.length cap) L':=by
 have hF:=zan hf L';rcases h.2 with ⟨m,_⟩ | ⟨g,o,d,a,l,k,i,q,u,v⟩
 · cases m
 simp only [Value.slice.injEq,Option.some.injEq,Addr.mk.injEq,and_true] at l
 obtain ⟨⟨rfl,rfl⟩,_,rfl⟩:=l;have b:=zab k
 have t:(grow (putRow id (Sort.ahead w n) blk off (L'.flatMap f).toArray) os).heap[blk]?=some (.cells (putCells id off (L'.flatMap f).toArray a) e (0,0)):=by
  rw [heap_grow_old _ _ (by simpa using b)];simp [putRow,mapBlock,Sort.ahead,Array.getElem?_modify,k,onCells]
 have s:L.length * sz<=cap * sz:=Nat.mul_le_mul_right _ i;refine ⟨by rw [hl] at *;exact hF,.inr ⟨blk,off,cap,_,by rw [hl],t,by rw [hl];exact i,q,by simp [putCells];omega,?_⟩⟩;apply List.ext_getElem?;intro j;rw [hl];by_cases hj:j<L.length * sz
 · rw [List.getElem?_take,if_pos hj,List.getElem?_drop,Array.getElem?_toList]
   have r:off+j<a.size:=(by omega);simp only [putCells,Array.getElem?_mapIdx,Array.getElem?_eq_getElem r,Option.map_some,List.size_toArray];rw [if_pos (by rw [hF,hl];omega),show off+j-off=j from by omega];have c:j<(L'.flatMap f).length:=(by rw [hF,hl];exact hj);rw [gG_ c];simp;rw [List.getElem?_eq_getElem c];rfl
 rw [List.getElem?_eq_none (by rw [List.length_take];omega),List.getElem?_eq_none (by rw [hF,hl];omega)]
theorem zkw (off:Nat) (zs:List Int) (cur:Array Value):putCells (Value.int .i64) off zs.toArray cur=putCells id off (zs.flatMap int1).toArray cur:=by
 have a:(zs.flatMap int1).length=zs.length:=by rw [zan zba];omega
 apply Array.ext_getElem?;intro k;simp only [putCells,Array.getElem?_mapIdx,List.size_toArray,a]
 cases cur[k]? with
 | none=>rfl
 | some y =>
   simp only [Option.map_some];by_cases hr:off<=k/\k<off+zs.length
   · rw [if_pos hr,if_pos hr]
     have b:k-off<zs.length:=(by omega)
     have c:(zs.flatMap int1)[k-off]?=some (.int .i64 zs[k-off]):=by
      have:=zlj zba zs (k-off) 0 (by omega);rw [Nat.mul_one,Nat.add_zero] at this;rw [this,gG_ b];rfl
     simp [b];rw [c];rfl
   rw [if_neg hr,if_neg hr]
theorem zoy (w:World) (blk off:Nat) (zs:List Int):putRow (Value.int .i64) w blk off zs.toArray=putRow id w blk off (zs.flatMap int1).toArray:=by
 unfold putRow;rw [show putCells (Value.int .i64) off zs.toArray=putCells id off (zs.flatMap int1).toArray from funext fun c=>zkw off zs c]
def sortI (zs:List Int):List Int:=zs.mergeSort fun x y=>decide (x<=y)
theorem zvb {zs:List Int} {x:Int}:x∈sortI zs↔x∈zs:=List.mem_mergeSort
theorem zsl {zs:List Int} (hn:zs.Nodup):(sortI zs).Pairwise (· < ·):=by
 have d:(sortI zs).Pairwise fun x y=>decide (x<=y)=true:=List.pairwise_mergeSort (fun a b c d e=>by simp only [decide_eq_true_eq] at *;omega) (fun a b=>by simp only [Bool.or_eq_true,decide_eq_true_eq];omega) zs;have e:(sortI zs).Nodup:=(List.mergeSort_perm zs _).nodup_iff.2 hn;exact (d.and e).imp fun {a b} ⟨h3,h4⟩=>by simp only [decide_eq_true_eq] at h3;omega
theorem zsk (w:World) (v:Value) (zs:List Int) (hv:SlF w 3 1 int1 v zs) (hl:zs.length<=1099511627) :
 Calls Tryz.prog 74 #[v] w fun e w'=>e=.returned (.tuple #[])/\SlF w' 3 1 int1 v (sortI zs)/\Fr (fun b=>v.ownBlock=some b) w w':=by
 obtain ⟨a,cap,rfl,m,q,f⟩:=hv.shape;by_cases h0:zs.length=0
 · have k:zs = []:=gN_ h0
   subst k;exact (AnyG.slices_Sort_int_none zwj a cap w).mono fun _ _ ⟨c,e2⟩=>⟨c,by subst e2;rw [show sortI [] = [] from by simp [sortI]];exact hv,by subst e2;exact Fr.refl _ _⟩
 obtain ⟨g,o,rfl⟩:=f (by omega)
 have i:Holds (Value.int .i64) w g o zs.toArray:=fun j hj=>by
  rw [List.size_toArray] at hj;refine ⟨?_,hv.free _⟩;have:=hv.cell1 zba j (gG_ hj) rfl;rw [this];simp [hj]
 refine (AnyG.slices_Sort_int zwj g o cap zs w i (hv.lt g rfl) (by omega)).mono ?_;rintro e w' ⟨c,n,l,rfl⟩;have d:(sortI zs).length=zs.length:=List.length_mergeSort zs;rw [zoy];exact ⟨c,row_sl zba hv d,(row_fr w g o n _ l).mono fun b _ e=>by rw [e];rfl⟩
theorem zvl {a b:List Int} (ha:a.Pairwise (· < ·)) (hb:b.Pairwise (· < ·)) (h:∀ x,x∈a↔x∈b):a=b:=by
 induction a generalizing b with
 | nil =>
   cases b with
   | nil=>rfl
   | cons y b=>exact absurd ((h y).2 (List.mem_cons_self ..)) (by simp)
 | cons x a ih =>
   cases b with
   | nil=>exact absurd ((h x).1 (List.mem_cons_self ..)) (by simp)
   | cons y b =>
     obtain ⟨g,i⟩:=gP_ ha;obtain ⟨b1,b2⟩:=gP_ hb
     have f:x=y:=by
      rcases List.mem_cons.1 ((h x).1 (List.mem_cons_self ..)) with e | e
      · exact e
      rcases List.mem_cons.1 ((h y).2 (List.mem_cons_self ..)) with d | d
      · exact d.symm
      have:=b1 x e;have:=g y d;omega
     subst f;rw [ih i b2 fun z=>?_];have:=h z;rw [List.mem_cons,List.mem_cons] at this
     constructor
     · intro c
       rcases this.1 (.inr c) with e | e
       · subst e;exact absurd (g z c) (Int.lt_irrefl _)
       exact e
     intro c
     rcases this.2 (.inr c) with e | e
     · subst e;exact absurd (b1 z c) (Int.lt_irrefl _)
     exact e
theorem info3i:(Tryz.prog.info? 3).map (fun i=>(i.zero,i.size,i.bytes))=some (some (.int .i64 0),1,8):=by kernel_rfl
structure RngI (L:List (Int×Sm)) (es:Array MapEntry) (seen:Array Nat) (P:List Int):Prop where
 there:∀ p∈P,p∈L.map (·.1)
 nd:P.Nodup
 all:∀ x∈es.toList,seen.contains x.born=true->∀ i,x.key=.int .i64 i->i∈P
 old:∀ p∈P,∃ x∈es.toList,seen.contains x.born=true/\x.key=.int .i64 p
theorem ziy {L:List (Int×Sm)} (h:L.Pairwise fun a b=>a.1<b.1) {i:Int}:(∃ s,getH L i=some s)↔i∈L.map (·.1):=by
 constructor
 · rintro ⟨s,e⟩
   exact List.mem_map.2 ⟨_,(zcy h).1 e,rfl⟩
 intro c
 obtain ⟨p,d,rfl⟩:=List.mem_map.1 c;exact ⟨p.2,(zcy h).2 d⟩
theorem znq {w:World} {h st m:Nat} {hp:Int->Option Nat} {FL:Int->Nat->Prop} {H:Hb} (a:HubR w h st m hp FL H) (hn:H.L.length<=1000) :
 Calls Tryz.prog 43 #[.pointer (some ⟨h,0,none⟩)] w fun e w'=>∃ v,e=.returned v/\SlF w' 3 1 int1 v (H.L.map (·.1))/\Fr No w w'/\(∀ b,v.ownBlock=some b->w.heap.size<=b):=by
 have c3:=a.obj.cell 3 rfl;have lt:=a.obj.lt
 have d:∀ i p,hp i=some p->i∈H.L.map (·.1):=fun i p hi=>by
  rw [<-ziy a.ok.up]
  cases hg:getH H.L i with
  | none=>rw [(a.gone i hg).1] at hi;cases hi
  | some s=>exact ⟨s,rfl⟩
 have r:∀ i∈H.L.map (·.1),∃ p,hp i=some p:=fun i hi=>by
  obtain ⟨s,hs⟩:=(ziy a.ok.up).2 hi;obtain ⟨p,X,_⟩:=a.sm i s hs;exact ⟨p,X⟩
 obtain ⟨o,c,g,O,N,a9⟩:=a.map;have aJ:=run_range_map (P:=Tryz.prog) w 94 3 98 m o c Tryz.underlying94 g
 have b7:o.size<=1000:=by
  have X:=by
   classical
   exact zlb (o.toList.map (·.key)) (H.L.map fun x=>Value.int .i64 x.1) O.2.2 fun x z=>by
    obtain ⟨e,he,rfl⟩:=List.mem_map.1 z;obtain ⟨i,X,_,h2⟩:=N e he;dsimp only at h2
    cases hl:hp i with
    | none=>rw [hl] at h2;cases h2
    | some p =>
      obtain ⟨q,f,e2⟩:=List.mem_map.1 (d i p hl);exact List.mem_map.2 ⟨q,f,by rw [X,e2]⟩
  simp only [List.length_map,Array.length_toList] at X;omega
 have ax:=H_ a.ok.up;have HB:=H_ g;have A:=H_ O;have ao:=H_ N;have ap:=H_ a9;have ay:=H_ d;have az:=H_ r;clear a g O N a9 d r;go_enter Tryz.func43,Tryz.ntmps43;go_wp2;clear aJ
 go_loopg [3] o.size (fun gg s3 wr=>∃ (seen:Array Nat) (k0:Nat) (v:Value) (P:List Int),s3=v/\gg=(leftOf o seen).size/\c<=k0/\P.length+gg<=o.size/\Hid (wr.heap[w.heap.size]?=some (.mapIter (some m) c seen k0)) ∧
  Hid (SlF wr 3 1 int1 v P)/\Hid (∀ b,v.ownBlock=some b->w.heap.size+1<=b)/\Hid (RngI H.L o seen P)/\Hid (Fr No w wr))
 case atStart=>exact ⟨#[],c,_,[],rfl,by rw [zro],Nat.le_refl _,by simp,H_ (heap_alloc_new _ _),H_ (SlF.nil _ _ _ _),H_ (by simp [Value.ownBlock]),H_ ⟨by simp,by simp,by simp,by simp⟩,H_ ((Fr.refl No w).alloc _)⟩
 case round =>
  obtain ⟨seen,k0,v,P,rfl,b8,aG,b9,HI,HS,S,D,HF⟩:=hrel;have G:=HF.out.heap HB.out fun h=>h;have aI:=_root_.Go.run_next_at (P:=Tryz.prog) wr 0 w.heap.size m c k0 seen o c HI.out G A.out.1 aG;rcases aI with ⟨h0,E⟩ | ⟨e,he,w2,Q,E⟩
  · have cS:=zsk wr u3 P HS.out (by omega)
    have CS:=H_ cS;clear G cS;go_wp2_with (go_at_call 74;(with_reducible refine CS.out.mono ?_);rintro e w9 ⟨rfl,h9⟩;have H9:=H_ h9;clear h9);go_ret;obtain ⟨p3,p4⟩:=H9.out
    have aE:sortI P=H.L.map (·.1):=by
     refine zvl (zsl D.out.nd) (by have:=ax.out;rwa [zcs] at this) fun x=>?_;rw [zvb];refine ⟨D.out.there x,fun z=>?_⟩;obtain ⟨p,C⟩:=az.out x z;obtain ⟨y,hy,aL,_⟩:=ap.out x (.pointer (some ⟨p,0,none⟩)) (by rw [C];rfl);exact D.out.all y hy (znj h0 y hy) x aL
    rw [aE] at p3;refine ⟨u3,rfl,p3,HF.out.trans p4 fun b g e=>?_,fun b g=>by have:=S.out b g;omega⟩;have:=S.out b e;omega
  obtain ⟨n,a3⟩:=mem_left he
  obtain ⟨i,d,aK,t⟩:=ao.out e n;have ag:=left_shrinks o seen e he;have aH:w.heap.size<wr.heap.size:=zab HI.out;have aa:w.heap.size<w2.heap.size:=(by rcases Q with rfl | rfl <;> exact aH);obtain ⟨M,F⟩:=zzao (b:=w.heap.size) Q (.mapIter (some m) c (seen.push e.born) c);have K:=zoo w2 w.heap.size (.mapIter (some m) c (seen.push e.born) c) aa
  have B:Fr No w (ChangeMaps.setBlock w2 w.heap.size (.mapIter (some m) c (seen.push e.born) c)):=HF.out.trans M fun j hj e'=>by
   have aA:j=w.heap.size:=e';omega
  have a0:=B.heap HB.out fun h=>h;have a4:=run_entry_at (P:=Tryz.prog) _ w.heap.size m c seen o c e K a0 n A.out.2.1
  have ae:SlF (ChangeMaps.setBlock w2 w.heap.size (.mapIter (some m) c (seen.push e.born) c)) 3 1 int1 u3 P:=HS.out.fr M fun b g e'=>by
   have aA:b=w.heap.size:=e';have:=S.out b g;omega
  obtain ⟨p,C⟩:∃ p,hp i=some p:=by
   cases hl:hp i with
   | none=>rw [hl] at t;cases t
   | some l=>exact ⟨l,rfl⟩
  have a8:=ay.out i p C;rw [d] at E;rw [d] at a4
  have ad:RngI H.L o (seen.push e.born) (P++[i]):=by
   refine ⟨fun q f=>?_,?_,fun x z I j hj=>?_,fun q f=>?_⟩
   · rcases gA_ f with f | f
     · exact D.out.there q f
     rw [List.mem_singleton] at f;subst f
     exact a8
   · rw [List.nodup_append]
     refine ⟨D.out.nd,by simp,fun a ha b g hab=>?_⟩;rw [List.mem_singleton] at g;obtain ⟨x,z,I,R⟩:=D.out.old a ha;have:x=e:=zyx A.out.2.2 z n (by rw [R,d,hab,g]);rw [this] at I;rw [a3] at I;cases I
   · rcases zvh A.out.2.1 n z I with h | h
     · exact List.mem_append_left _ (D.out.all x z h j hj)
     subst h
     rw [d] at hj;cases hj
     exact List.mem_append_right _ (List.mem_singleton_self _)
   rcases gA_ f with f | f
   · obtain ⟨x,z,I,R⟩:=D.out.old q f
     exact ⟨x,z,zya I,R⟩
   rw [List.mem_singleton] at f;subst f
   exact ⟨e,n,zyb,d⟩
  have bc:=nL_ lt B.size;generalize aD:ChangeMaps.setBlock w2 w.heap.size (.mapIter (some m) c (seen.push e.born) c)=V at *;generalize a6:(leftOf o (seen.push e.born)).size=gs at *;have al:=H_ a6;have am:=H_ K;have T:=H_ B;have av:=H_ ae;have au:=H_ ad;have U:=H_ ag;have b3:=H_ F;obtain ⟨i0,aF,aM,aN,aO⟩:=info_parts info3i;have ab:=zav V [.int .i64 i] 3 (0,0);have ar:=H_ ab;clear ad a6 K B ae F a0 M G t d aK C a8 he n a3 Q aa aD ag ab;go_wp2_with (at_builtin;refine zaq rfl _ _ 48 rfl 3 i0 _ 1 8 Tryz.underlying48 aF aM aN aO rfl (by decide) _ P rfl (av.out.alloc _) V.heap.size 1 i rfl ar.out rfl ?c1 (by unfold maxLen;omega) (by omega) ?_)
  case c1=>intro u hu;simp [int1] at hu;rw [hu];rfl
  intro g7 o7 W w6 af a5 a1 aU;have J:Fr (fun b=>u3.ownBlock=some b) V w6:=((Fr.refl _ V).alloc _).trans ((Fr.refl _ _).grown a5 fun k hk=>.inl hk) fun _ _ h=>h;have a7:=J.heap am.out fun h=>by have:=S.out _ h;omega
  have Y:Fr No w w6:=T.out.trans J fun b g h=>by have:=S.out b h;omega
  have Z:∀ b,(Value.slice (some ⟨g7,o7,none⟩) (P.length+1) W).ownBlock=some b->w.heap.size+1<=b:=fun b g=>by
   have e:b=g7:=(by simpa [Value.ownBlock] using g.symm);rw [e];rcases a1 with h | h
   · exact S.out _ h
   have h':g7=V.heap.size+1:=by simpa using h
   have:=T.out.size;omega
  have aw:=H_ af;have an:=H_ a7;have ak:=H_ Y;have aq:=H_ Z;clear J a7 Y Z af a5 a1;go_wp2;go_roundg gs
  case rel=>exact ⟨seen.push e.born,c,_,P++[i],rfl,al.out.symm,Nat.le_refl _,by have:=U.out;simp;omega,an,H_ (by have:=aw.out;simpa using this),aq,au,ak⟩
  case measure=>have:=U.out;omega
def midH (D:Doc) (r:Int) (L:List (Int×Sm)) (i:Nat):List (Int×Sm):=(L.take i).map (fun p=>(p.1,lookS D r p.2))++L.drop i
theorem zng (D:Doc) (r:Int) (L:List (Int×Sm)):midH D r L 0=L:=by simp [midH]
theorem zrk (D:Doc) (r:Int) (L:List (Int×Sm)) {i:Nat} (h:L.length<=i):midH D r L i=L.map fun p=>(p.1,lookS D r p.2):=by
 unfold midH;rw [List.take_of_length_le h,List.drop_eq_nil_of_le h,List.append_nil]
theorem zri (D:Doc) (r:Int) (L:List (Int×Sm)) (i:Nat):(midH D r L i).map (·.1)=L.map (·.1):=by
 unfold midH;rw [List.map_append,List.map_map];have:(L.take i).map ((fun p:Int×Sm=>p.1) ∘ fun p=>(p.1,lookS D r p.2))=(L.take i).map (·.1):=rfl;rw [this,<-List.map_append,List.take_append_drop]
theorem zzam (D:Doc) (r:Int) {L:List (Int×Sm)} (hu:L.Pairwise fun a b=>a.1<b.1) {i:Nat} {p:Int×Sm} (hp:L[i]?=some p):getH (midH D r L i) p.1=some p.2:=by
 have c:(midH D r L i).Pairwise fun a b=>a.1<b.1:=by
  rw [zcs,zri,<-zcs];exact hu
 rw [zcy c];unfold midH;refine List.mem_append_right _ ?_;obtain ⟨d,e⟩:=gS_ hp;rw [List.drop_eq_getElem_cons d,e];exact List.mem_cons_self ..
theorem zwe (D:Doc) (r:Int) {L:List (Int×Sm)} (hu:L.Pairwise fun a b=>a.1<b.1) {i:Nat} {p:Int×Sm} (hp:L[i]?=some p):setH (midH D r L i) p.1 (lookS D r p.2)=midH D r L (i+1):=by
 obtain ⟨f,e⟩:=gS_ hp
 have d:L=L.take i++p :: L.drop (i+1):=by
  rw [<-e,<-List.drop_eq_getElem_cons f,List.take_append_drop]
 have c:(L.take i++p :: L.drop (i+1)).Pairwise fun a b=>a.1<b.1:=by rw [<-d];exact hu
 rw [List.pairwise_append] at c;obtain ⟨_,g,j⟩:=c;obtain ⟨k,_⟩:=gP_ g;unfold midH setH;rw [List.drop_eq_getElem_cons f,e,List.map_append,List.map_cons,gK_,hp,List.map_append,Option.toList_some,List.map_cons,List.map_nil,List.append_assoc]
 congr 1
 · rw [List.map_map]
   refine List.map_congr_left fun q hq=>?_;have:=j q hq p (List.mem_cons_self ..)
   show (if q.1=p.1 then _ else _)=_
   rw [if_neg (by omega)]
 rw [if_pos rfl]
 show (p.1,lookS D r p.2) :: _=_
 refine congrArg _ ?_
 have:(L.drop (i+1)).map (fun q=>if q.1=p.1 then (p.1,lookS D r p.2) else q)=(L.drop (i+1)).map id:=List.map_congr_left fun q hq=>by
  have:=k q hq;rw [if_neg (by omega)]
  rfl
 rw [this,List.map_id]
 rfl
theorem zsx (D:Doc) (r:Int) {L:List (Int×Sm)} (_hu:L.Pairwise fun a b=>a.1<b.1) {i:Nat} {p:Int×Sm} (hp:L[i]?=some p) (hs:lookS D r p.2=p.2):midH D r L (i+1)=midH D r L i:=by
 obtain ⟨c,e⟩:=gS_ hp;unfold midH;rw [List.drop_eq_getElem_cons c,e,gK_,hp,List.map_append,Option.toList_some,List.map_cons,List.map_nil,List.append_assoc,hs]
 rfl
theorem zpy {k:Nat} {S:St} {D:Doc} (h:Good k S D) (r:Int):(if zfp S r r=0 then S.events.filter (insB r r) else [])=evsAt D r:=by
 obtain ⟨a,b⟩:=h.eventsDoc r r;unfold evsAt;rw [a,b]
 have:(fun e:Ev=>decide (e.kv.mod=r))=insB r r:=funext fun e=>by
  unfold insB outB;rw [Bool.eq_iff_iff];simp;omega
 rw [this]
theorem zny {k:Nat} {S:St} {D:Doc} (h:Good k S D) (r:Int):(evsAt D r).length<=S.events.length:=by
 rw [<-zpy h]
 split
 · exact List.length_filter_le _ _
 exact Nat.zero_le _
theorem zkd (D:Doc) (h:Hb) (hf:h.fed<D.rev):feedH D h=feedH D (feed1 D h):=by
 unfold feedH
 have:(D.rev-h.fed).toNat=(D.rev-(feed1 D h).fed).toNat+1:=by
  show _=(D.rev-(h.fed+1)).toNat+1
  omega
 rw [this]
 rfl
theorem zke (D:Doc) (h:Hb) (hf:¬ h.fed<D.rev):feedH D h=h:=by
 unfold feedH;rw [show (D.rev-h.fed).toNat=0 by omega]
 rfl
end Go.Proofs.YtdgkdfmfoonbpaaGreat