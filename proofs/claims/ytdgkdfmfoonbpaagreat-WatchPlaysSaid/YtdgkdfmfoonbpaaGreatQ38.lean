/- Own lemmas. -/
import Derived.Test.YtdgkdfmfoonbpaaGreatQ37
namespace Go.Proofs.YtdgkdfmfoonbpaaGreat
open Go Go.Proofs Go.RowKit
set_option maxRecDepth 100000
set_option maxHeartbeats 16000000
theorem RhR.make {w w1:World} {x:Nat} {v:Value} {P:List ((Int×Sm)×Value)} {H:Hb} {G:Nat->Prop} (h:RhR w x v P H G) (hf:Fr G w w1) {u:Value} {Q:List ((Int×Sm)×Value)} {L:List (Int×Sm)} {f l:Int}
 (ho:w1.heap[x]?=some (.cells #[.int .i64 f,.int .i64 l,u] 83 (0,0))) (hu:SlF w1 130 9 rsC u Q) (hx:u.ownBlock≠some x) (hg:∀ b,u.ownBlock=some b->growG G w w1 b) (hm:Q.map (·.1)=L)
 (hQ:∀ q∈Q,SlF w1 72 13 evC q.2 q.1.2.buf/\∀ b,q.2.ownBlock=some b->growG G w w1 b/\b≠x/\u.ownBlock≠some b):RhTo w w1 x ⟨f,l,L⟩ G :=
 ⟨⟨u,Q,ho,hu,hm,⟨.inl h.own.1,hx,hg⟩,hQ,fun b hb=>hb.elim (fun hb=>nL_ (h.lt b hb) hf.size) fun hb=>hb.2⟩,hf⟩
theorem zot {w:World} {x:Nat} {v:Value} {P:List ((Int×Sm)×Value)} {H:Hb} {G:Nat->Prop} (h:RhR w x v P H G) (hlen:P.length<=100000) (t:Wt) (hk:t.key.size<=1099511627776) (hf0:0<=H.fed) (hf1:H.fed<=1000000) (hl0:0<=H.last) (hl1:H.last<=1000000) :
 Calls Tryz.prog 32 #[.pointer (some ⟨x,0,none⟩),wtV t] w fun e w'=>e=.returned (.tuple #[.int .i64 (if openE t=0 then H.last+1 else 0),.int .i64 (openE t)])/\RhTo w w' x (if openE t=0 then openH H t else H) G:=by
 have O:=fun W=>zkt W ⟨t.key,t.end_,0,0,false,false,false⟩ hk;have l:=H_ h;unfold openE;generalize ba:askE ⟨t.key,t.end_,0,0,false,false,false⟩=ae at *;unfold rgV at O;dsimp only at O;have F:=H_ O;clear O h;have am:=zad w (Obj.cells #[.string t.key,.string t.end_,.int .i64 t.frm,.bool t.np,.bool t.nd,.bool t.prev] 61 (0,0)) _ rfl;have hf:=(Fr.refl No w).alloc (Obj.cells #[.string t.key,.string t.end_,.int .i64 t.frm,.bool t.np,.bool t.nd,.bool t.prev] 61 (0,0));have Z:=H_ am;have HF:=H_ hf;clear am hf;by_cases S:ae≠0
 · rw [if_pos S,if_neg S,if_neg S]
   have T:(ae != 0)=true:=(by simpa using S);have aZ:(ae==0)=false:=(by simpa using S);unfold wtV;go_enter Tryz.func32,Tryz.ntmps32;go_wp2_with (go_at_call 62;(with_reducible refine (F.out _).mono ?_);rintro e w1 ⟨rfl,hf1⟩)
   go_ret2
   exact ⟨rfl,l.out.to (HF.out.trans0 hf1)⟩
 rw [if_neg S]
 have T:ae=0:=(by omega);clear S;subst T;by_cases h2:t.frm<0
 · rw [if_pos h2,if_neg (by decide),if_neg (by decide)]
   unfold wtV;go_enter Tryz.func32,Tryz.ntmps32;go_wp2_with (go_at_call 62;(with_reducible refine (F.out _).mono ?_);rintro e w1 ⟨rfl,hf1⟩;have a:=hf1.heap Z.out id;have V:w1.cell? ⟨w.heap.size,2,none⟩=some (.int .i64 t.frm):=cellAt a 2 rfl;have E:=zab a)
   go_ret2
   exact ⟨rfl,l.out.to (HF.out.trans0 hf1)⟩
 rw [if_neg h2,if_pos rfl,if_pos rfl]
 unfold wtV;go_enter Tryz.func32,Tryz.ntmps32;go_upto_region 6 with (go_at_call 62;(with_reducible refine (F.out _).mono ?_);rintro e w1 ⟨rfl,a5⟩;have a:=a5.heap Z.out id;have V:w1.cell? ⟨w.heap.size,2,none⟩=some (.int .i64 t.frm):=cellAt a 2 rfl;have E:=zab a);have a6:=HF.out.trans0 a5;have a1:=l.out.fr0 a6;have c0:w1.cell? ⟨x,0,none⟩=some (.int .i64 H.fed):=cellAt a1.obj 0 rfl;have M:w1.cell? ⟨x,1,none⟩=some (.int .i64 H.last):=cellAt a1.obj 1 rfl;have U:=zab a1.obj;have n0:w1.cell? ⟨w.heap.size,0,none⟩=some (.string t.key):=cellAt a 0 rfl;have n1:w1.cell? ⟨w.heap.size,1,none⟩=some (.string t.end_):=cellAt a 1 rfl;have n3:w1.cell? ⟨w.heap.size,3,none⟩=some (.bool t.np):=cellAt a 3 rfl;have n4:w1.cell? ⟨w.heap.size,4,none⟩=some (.bool t.nd):=cellAt a 4 rfl
 have n5:w1.cell? ⟨w.heap.size,5,none⟩=some (.bool t.prev):=cellAt a 5 rfl;have a8:=H_ a1;have J:=H_ a6;have X:=H_ a;obtain ⟨b,a3⟩:∃ b,b=w1.heap.size:=⟨_,rfl⟩;have n:=H_ a3;have bf:IntKind.i64.wrap (H.fed+1)=H.fed+1:=(by rw [IntKind.wrap_i64];omega);have be:IntKind.i64.wrap (H.last+1)=H.last+1:=(by rw [IntKind.wrap_i64];omega);clear a1 a6 a5 a F Z HF
 go_cut [7] (fun s7 wx=>s7=.pointer (some ⟨b,0,none⟩)/\Hid (wx.heap[b]?=some (.cells #[.int .i64 (H.last+1),.string t.key,.string t.end_,.int .i64 t.frm,.bool t.np,.bool t.nd,.bool t.prev,.slice none 0 0,.int .i64 (H.fed+1)] 130 (0,0)))/\Hid (Fr No w1 wx))
 case first =>
  clear a3;have q0:w1.cell? ⟨x,0,none⟩=some (.int .i64 H.fed)/\w1.cell? ⟨x,1,none⟩=some (.int .i64 H.last)/\w1.cell? ⟨w.heap.size,0,none⟩=some (.string t.key)/\w1.cell? ⟨w.heap.size,1,none⟩=some (.string t.end_)/\w1.cell? ⟨w.heap.size,2,none⟩=some (.int .i64 t.frm)/\w1.cell? ⟨w.heap.size,3,none⟩=some (.bool t.np)/\w1.cell? ⟨w.heap.size,4,none⟩=some (.bool t.nd)/\w1.cell? ⟨w.heap.size,5,none⟩=some (.bool t.prev):=⟨c0,M,n0,n1,V,n3,n4,n5⟩
  have q1:w1.drew.cell? ⟨x,0,none⟩=some (.int .i64 H.fed)/\w1.drew.cell? ⟨x,1,none⟩=some (.int .i64 H.last)/\w1.drew.cell? ⟨w.heap.size,0,none⟩=some (.string t.key)/\w1.drew.cell? ⟨w.heap.size,1,none⟩=some (.string t.end_)/\w1.drew.cell? ⟨w.heap.size,2,none⟩=some (.int .i64 t.frm)/\w1.drew.cell? ⟨w.heap.size,3,none⟩=some (.bool t.np)/\w1.drew.cell? ⟨w.heap.size,4,none⟩=some (.bool t.nd)/\w1.drew.cell? ⟨w.heap.size,5,none⟩=some (.bool t.prev):=⟨c0,M,n0,n1,V,n3,n4,n5⟩
  have R:∀ o,(w1.alloc o).drew.cell? ⟨x,0,none⟩=some (.int .i64 H.fed)/\(w1.alloc o).drew.cell? ⟨x,1,none⟩=some (.int .i64 H.last)/\(w1.alloc o).drew.cell? ⟨w.heap.size,0,none⟩=some (.string t.key)/\(w1.alloc o).drew.cell? ⟨w.heap.size,1,none⟩=some (.string t.end_)/\(w1.alloc o).drew.cell? ⟨w.heap.size,2,none⟩=some (.int .i64 t.frm)/\(w1.alloc o).drew.cell? ⟨w.heap.size,3,none⟩=some (.bool t.np)/\(w1.alloc o).drew.cell? ⟨w.heap.size,4,none⟩=some (.bool t.nd)/\(w1.alloc o).drew.cell? ⟨w.heap.size,5,none⟩=some (.bool t.prev):=fun o=>⟨(World.cell?_alloc_lt w1 o _ U).trans c0,(World.cell?_alloc_lt w1 o _ U).trans M,(World.cell?_alloc_lt w1 o _ E).trans n0,(World.cell?_alloc_lt w1 o _ E).trans n1,(World.cell?_alloc_lt w1 o _ E).trans V,(World.cell?_alloc_lt w1 o _ E).trans n3,(World.cell?_alloc_lt w1 o _ E).trans n4,(World.cell?_alloc_lt w1 o _ E).trans n5⟩
  clear c0 M n0 n1 V n3 n4 n5
  go_region_held3 (fun W=>W.cell? ⟨x,0,none⟩=some (.int .i64 H.fed)/\W.cell? ⟨x,1,none⟩=some (.int .i64 H.last)/\W.cell? ⟨w.heap.size,0,none⟩=some (.string t.key)/\W.cell? ⟨w.heap.size,1,none⟩=some (.string t.end_)/\W.cell? ⟨w.heap.size,2,none⟩=some (.int .i64 t.frm)/\W.cell? ⟨w.heap.size,3,none⟩=some (.bool t.np)/\W.cell? ⟨w.heap.size,4,none⟩=some (.bool t.nd)/\W.cell? ⟨w.heap.size,5,none⟩=some (.bool t.prev))
   (first | with_reducible exact q0 | with_reducible exact q1 | with_reducible exact R _ | fail)
   (first | fail)
  all_goals
   go_wp2;go_meet
   case rel=>exact ⟨by rw [n.out],H_ (by rw [n.out];exact zad w1 _ _ rfl),H_ (((Fr.refl No w1).alloc _).drew)⟩
 case rest =>
 obtain ⟨rfl,ab,I⟩:=hcut;generalize a7:wc=s at *;clear a7 c0 M n0 n1 V n3 n4 n5 E U a3;have N:=a8.out.fr0 I.out;have c0:s.drew.cell? ⟨x,0,none⟩=some (.int .i64 H.fed):=cellAt N.obj 0 rfl;have U:x<s.drew.heap.size:=zab N.obj;have i:=I.out.heap X.out id;have V:s.drew.cell? ⟨w.heap.size,2,none⟩=some (.int .i64 t.frm):=cellAt i 2 rfl;have E:w.heap.size<s.drew.heap.size:=zab i;have a9:=H_ N;have af:=H_ i;clear N i;go_upto_region 7 with fail
 go_cut [43] (fun s43 wx=>s43=.bool (decide (1<=t.frm/\t.frm<=H.fed))/\Hid (s.drew=wx))
 case first =>
  rcases (show (1<=t.frm/\t.frm<=H.fed)\/(1<=t.frm/\¬ t.frm<=H.fed)\/¬ 1<=t.frm by omega) with ⟨a4,aP⟩ | ⟨a4,aP⟩ | a4
  all_goals
   refine zak (C:=fun W=>W=s.drew) (by kernel_rfl) (by kernel_rfl) rfl ?_
   repeat (refine (wpQuiet_step (fun K hK=>?_):_)
           go_simp
           first
            | (refine hK _ ?_;clear hK K)
            | (apply Exists.intro
               refine ⟨fun W hW=>?_,hK _ ?_⟩
               (first
                 | exact rfl
                 | (subst hW;go_simp;exact rfl))
               clear hK K))
   refine (wpQuiet_nil ?_:_);intro w9 aS;subst aS;go_wp2;go_meet
   case rel=>exact ⟨by simp [a4] <;> omega,H_ rfl⟩
 case rest =>
 obtain ⟨rfl,HX⟩:=hcut;have ax:=HX.out;rw [<-ax];clear HX ax;have aa:Hid (RhR s.drew x v P H G):=H_ (a9.out.fr0 (Fr.refl No s).drew);have j:Hid (s.drew.heap[b]?=some (.cells #[.int .i64 (H.last+1),.string t.key,.string t.end_,.int .i64 t.frm,.bool t.np,.bool t.nd,.bool t.prev,.slice none 0 0,.int .i64 (H.fed+1)] 130 (0,0))):=H_ ab.out;have aJ:Hid (Fr No w s.drew):=H_ (J.out.trans0 I.out.drew)
 have Y:Hid (∀ y,(G y\/y=w.heap.size)->y≠b):=H_ fun y c e=>by
  have S:=zab X.out;have h2:=n.out;have h3:=J.out.size;rcases c with c | c
  · have:=l.out.lt y c
    omega
  omega
 have aO:Hid (w.heap.size<=b):=H_ (by have h2:=n.out;have h3:=J.out.size;omega);clear a9 ab I a8 J X af n;generalize s.drew=W3 at *
 apply_assumption
 go_cut [7] (fun s7 wx=>s7=.pointer (some ⟨b,0,none⟩)/\Hid (wx.heap[b]?=some (.cells (rsC ((H.last+1,openS H t),.slice none 0 0)).toArray 130 (0,0)))/\Hid (Fr (fun y=>y=b) W3 wx))
 case first =>
  by_cases hc:1<=t.frm/\t.frm<=H.fed
  · have l8:=zab j.out
    have c8:W3.cell? ⟨b,8,none⟩=some (.int .i64 (H.fed+1)):=cellAt j.out 8 rfl;have fz:W3.frozen? ⟨b,8,none⟩=false:=(by unfold World.frozen?;rw [j.out];rfl);have hp:(openS H t).place=t.frm:=(by unfold openS;exact if_pos hc);have HP:=H_ hp;clear hp;go_wp2;go_meet
    case rel=>exact ⟨rfl,H_ (by have:=zac j.out 8 (.int .i64 t.frm);rw [this];unfold rsC smC;rw [HP.out];rfl),H_ ((Fr.refl (fun y=>y=b) W3).setCell (p:=⟨b,8,none⟩) (.inl rfl) _)⟩
  have hp:(openS H t).place=H.fed+1:=by unfold openS;exact if_neg hc
  have HP:=H_ hp;clear hp;go_wp2;go_meet
  case rel=>exact ⟨rfl,H_ (by rw [j.out];unfold rsC smC;rw [HP.out];rfl),H_ (Fr.refl _ W3)⟩
 case rest =>
 obtain ⟨rfl,ad,ag⟩:=hcut;generalize a7:wc=L at *;clear a7 c0 V U E;have A:=aa.out.fr ag.out fun y c e=>Y.out y (.inl c) e;have M:L.cell? ⟨x,1,none⟩=some (.int .i64 H.last):=cellAt A.obj 1 rfl;have U:=zab A.obj;have fx:L.frozen? ⟨x,1,none⟩=false:=(by unfold World.frozen?;rw [A.obj];rfl);have m:=H_ A;clear A aa j;go_upto_region 10 with fail;have a0:Hid (Fr (fun y=>y=x) L (L.setCell ⟨x,1,none⟩ (.int .i64 (H.last+1)))):=H_ ((Fr.refl (fun y=>y=x) L).setCell (p:=⟨x,1,none⟩) (.inl rfl) _);have r:Hid ((L.setCell ⟨x,1,none⟩ (.int .i64 (H.last+1))).heap[x]?=some (.cells #[.int .i64 H.fed,.int .i64 (H.last+1),v] 83 (0,0))):=H_ (zac m.out.obj 1 _)
 have ai:Hid (SlF (L.setCell ⟨x,1,none⟩ (.int .i64 (H.last+1))) 130 9 rsC v P):=H_ (m.out.sl.fr a0.out fun y c e=>m.out.own.2.1 (by rw [c];exact congrArg some e));have d:Hid ((L.setCell ⟨x,1,none⟩ (.int .i64 (H.last+1))).heap[b]?=some (.cells (rsC ((H.last+1,openS H t),.slice none 0 0)).toArray 130 (0,0))):=H_ (a0.out.heap ad.out fun e=>Y.out x (.inl m.out.own.1) e.symm);clear M fx U ad;generalize L.setCell ⟨x,1,none⟩ (.int .i64 (H.last+1))=f at *;have U:=zab r.out;have lb:=zab d.out;have M:f.cell? ⟨x,1,none⟩=some (.int .i64 (H.last+1)):=cellAt r.out 1 rfl;have c2:f.cell? ⟨x,2,none⟩=some v:=cellAt r.out 2 rfl;have f2:f.frozen? ⟨x,2,none⟩=false:=(by unfold World.frozen?;rw [r.out];rfl);obtain ⟨va,g,rfl,v1,v2,v3⟩:=ai.out.shape
 have k0:f.cell? ⟨b,0,none⟩=some (.int .i64 (H.last+1)):=cellAt d.out 0 rfl;have k1:f.cell? ⟨b,1,none⟩=some (.string t.key):=cellAt d.out 1 rfl;have k2:f.cell? ⟨b,2,none⟩=some (.string t.end_):=cellAt d.out 2 rfl;have k3:f.cell? ⟨b,3,none⟩=some (.int .i64 t.frm):=cellAt d.out 3 rfl;have k4:f.cell? ⟨b,4,none⟩=some (.bool t.np):=cellAt d.out 4 rfl;have k5:f.cell? ⟨b,5,none⟩=some (.bool t.nd):=cellAt d.out 5 rfl;have k6:f.cell? ⟨b,6,none⟩=some (.bool t.prev):=cellAt d.out 6 rfl;have k7:f.cell? ⟨b,7,none⟩=some (.slice none 0 0):=cellAt d.out 7 rfl;have k8:f.cell? ⟨b,8,none⟩=some (.int .i64 (openS H t).place):=cellAt d.out 8 rfl;obtain ⟨i0,aQ,aT,aU,aV⟩:=info_parts info130;have aq:=zav f.drew (rsC ((H.last+1,openS H t),.slice none 0 0)) 130 (0,0)
 have B:(Value.slice va P.length g).ownBlock≠some x:=m.out.own.2.1;have H1:Hid (∀ u∈rsC ((H.last+1,openS H t),Value.slice none 0 0),u.oneCell'=true):=H_ (zvz rfl);have aR:P.length<maxLen:=(by unfold maxLen;omega);clear v3;generalize au:(openS H t).place=pc at k8;have aM:=H_ au;clear au
 go_region_law (refine zeg rfl _ _ 81 rfl 130 i0 _ 9 88 Tryz.underlying81 aQ aT aU aV rfl (by decide) _ P rfl (ai.out.fr0 ((Fr.refl No f).drew.alloc _)) f.heap.size 1 ((H.last+1,openS H t),.slice none 0 0) rfl (by rw [<-aM.out];exact aq) rfl H1.out aR (by omega) ?_;intro z o' cap w6 aw ap al b3;have D:Fr (fun k=>(Value.slice va P.length g).ownBlock=some k) f w6:=((Fr.refl _ f).drew.alloc _).grown ap (fun k hk=>.inl hk);have e1:=D.cell M B;have e2:=D.cell c2 B;have ef:=D.free c2 f2 B;have le:=gB_ _ _ e1;have aN:=H_ aw;have aK:=H_ al;have ah:=H_ D;clear aw ap al D)
 all_goals
  go_wp2
  go_ret2
  have Q:z≠x/\((Value.slice va P.length g).ownBlock=some z\/f.heap.size<=z):=by
   rcases aK.out with h | h
   · exact ⟨fun e=>B (e▸h),.inl h⟩
   have h':z=f.heap.size+1:=by simpa using h
   exact ⟨by omega,.inr (by omega)⟩
  have an:Fr (fun y=>y=x\/y=b\/(Value.slice va P.length g).ownBlock=some y) w f :=
   (((aJ.out.mono fun _ _ h=>h.elim).trans (ag.out.mono fun _ _ e=>.inr (.inl e)) fun _ _ e=>e).trans (a0.out.mono fun _ _ e=>.inl e) fun _ _ e=>e)
  have ao:Fr (fun y=>y=x\/y=b\/(Value.slice va P.length g).ownBlock=some y) w (w6.setCell ⟨x,2,none⟩ (.slice (some ⟨z,o',none⟩) (P.length+1) cap)) :=
   (an.trans (ah.out.mono fun _ _ e=>.inr (.inr e)) fun _ _ e=>e).setCell (p:=⟨x,2,none⟩) (.inl (.inl rfl)) _
  have hu:SlF (w6.setCell ⟨x,2,none⟩ (.slice (some ⟨z,o',none⟩) (P.length+1) cap)) 130 9 rsC (.slice (some ⟨z,o',none⟩) (P.length+1) cap) (P++[((H.last+1,openS H t),.slice none 0 0)]) :=
   aN.out.other ⟨x,2,none⟩ _ (by simp [Value.ownBlock];exact Q.1)
  have ho:(w6.setCell ⟨x,2,none⟩ (.slice (some ⟨z,o',none⟩) (P.length+1) cap)).heap[x]?=some (.cells #[.int .i64 H.fed,.int .i64 (H.last+1),.slice (some ⟨z,o',none⟩) (P.length+1) cap] 83 (0,0)) :=
   zac (ah.out.heap r.out B) 2 _
  have bd:=an.size;refine ⟨rfl,l.out.make (ao.mono fun y c e=>?_) ho hu (by simp [Value.ownBlock];exact Q.1) (fun y c=>?_) (by rw [List.map_append,l.out.map];rfl) fun q hq=>?_⟩
  · rcases e with e | e | e
    · rw [e];exact l.out.own.1
    · have:=aO.out
      omega
    exact l.out.own.2.2 y e
  · have hl:=hu.lt y c
    obtain rfl:z=y:=by simpa [Value.ownBlock] using c
    rcases Q.2 with e | e
    · exact .inl (l.out.own.2.2 _ e)
    exact .inr ⟨by omega,hl⟩
  rcases gA_ hq with hq | hq
  · obtain ⟨q1,R⟩:=l.out.buf q hq
    refine ⟨q1.fr ao fun y c e=>?_,fun y c=>⟨.inl (R y c).1,(R y c).2.1,fun e=>?_⟩⟩
    · rcases e with e | e | e
      · exact (R y c).2.1 e
      · exact Y.out y (.inl (R y c).1) e
      exact (R y c).2.2 e
    obtain rfl:z=y:=by simpa [Value.ownBlock] using e
    rcases Q.2 with e | e
    · exact (R _ c).2.2 e
    have:=l.out.lt _ (R _ c).1
    omega
  obtain rfl:=gI_ hq
  exact ⟨SlF.nil _ _ _ _,fun y c=>by simp [Value.ownBlock] at c⟩
theorem zpn {G:Nat->Prop} {a b c:World} (h1:a.heap.size<=b.heap.size) (h2:b.heap.size<=c.heap.size) {y:Nat} (h:growG (growG G a b) b c y):growG G a c y:=by
 rcases h with (h | h) | h
 · exact .inl h
 · exact .inr ⟨h.1,by omega⟩
 exact .inr ⟨by omega,h.2⟩
theorem RhTo.trans {w w1 w2:World} {x:Nat} {H1 H2:Hb} {G:Nat->Prop} (h1:RhTo w w1 x H1 G) (h2:RhTo w1 w2 x H2 (growG G w w1)):RhTo w w2 x H2 G:=by
 obtain ⟨_,d⟩:=h1;obtain ⟨⟨v,P,a⟩,f⟩:=h2
 have g:Fr G w w2:=d.trans f fun y hy e=>by
  rcases e with e | e
  · exact e
  omega
 exact ⟨⟨v,P,a.more (fun _ hy=>zpn d.size f.size hy) fun b c=>by
  rcases c with c | c
  · have:=a.lt b (.inl (.inl c))
    exact this
  exact c.2⟩,g⟩
theorem RhR.look {w w1:World} {x ga oa cap:Nat} {P:List ((Int×Sm)×Value)} {H:Hb} {G:Nat->Prop} (h:RhR w x (.slice (some ⟨ga,oa,none⟩) P.length cap) P H G) (hf:Fr No w w1) {i:Nat} {p:(Int×Sm)×Value} (hp:P[i]?=some p)
 {u:Value} {B:List Ev} {pl:Int} (hu:SlF w1 72 13 evC u B) (hn:∀ b,u.ownBlock=some b->w.heap.size<=b) :
 RhR ((w1.setCell ⟨ga,oa+i * 9+7,none⟩ u).drew.setCell ⟨ga,oa+i * 9+8,none⟩ (.int .i64 pl)) x (.slice (some ⟨ga,oa,none⟩) P.length cap) (P.set i ((p.1.1,⟨p.1.2.w,B,pl⟩),u)) ⟨H.fed,H.last,H.L.set i (p.1.1,⟨p.1.2.w,B,pl⟩)⟩
  (growG G w ((w1.setCell ⟨ga,oa+i * 9+7,none⟩ u).drew.setCell ⟨ga,oa+i * 9+8,none⟩ (.int .i64 pl)))/\Fr G w ((w1.setCell ⟨ga,oa+i * 9+7,none⟩ u).drew.setCell ⟨ga,oa+i * 9+8,none⟩ (.int .i64 pl)):=by
 obtain ⟨s,n⟩:=gS_ hp;have k:=h.own.2.2 ga rfl;have l:ga≠x:=fun e=>h.own.2.1 (by rw [e];rfl);have f:=(h.sl.fr0 hf).set zaj i 7 (by omega) p ((p.1.1,⟨p.1.2.w,B,p.1.2.place⟩),u) u hp rfl;have a:(P.set i ((p.1.1,⟨p.1.2.w,B,p.1.2.place⟩),u)).length=P.length:=List.length_set ..;rw [<-a] at f;have g:=f.drew.set zaj i 8 (by omega) ((p.1.1,⟨p.1.2.w,B,p.1.2.place⟩),u) ((p.1.1,⟨p.1.2.w,B,pl⟩),u) (.int .i64 pl) (by rw [gT_ (by omega)]) rfl;rw [a,List.set_set] at g;have fr:Fr (fun y=>y=ga) w ((w1.setCell ⟨ga,oa+i * 9+7,none⟩ u).drew.setCell ⟨ga,oa+i * 9+8,none⟩ (.int .i64 pl)):=((hf.mono (T:=fun y=>y=ga) fun _ _ e=>e.elim).setCell (p:=⟨ga,oa+i * 9+7,none⟩) (.inl rfl) u).drew.setCell (p:=⟨ga,oa+i * 9+8,none⟩) (.inl rfl) _
 have c:u.ownBlock≠some ga:=fun e=>by
  have:=hn ga e;have:=h.lt ga k;omega
 have j:SlF ((w1.setCell ⟨ga,oa+i * 9+7,none⟩ u).drew.setCell ⟨ga,oa+i * 9+8,none⟩ (.int .i64 pl)) 72 13 evC u B:=(hu.other _ _ c).drew.other _ _ c;refine ⟨⟨fr.heap h.obj fun e=>l e.symm,g,?_,⟨.inl h.own.1,h.own.2.1,fun b hb=>.inl (h.own.2.2 b hb)⟩,fun q d=>?_,fun b hb=>hb.elim (fun hb=>nL_ (h.lt b hb) fr.size) fun hb=>hb.2⟩,fr.mono fun b _ e=>by rw [e];exact k⟩
 · rw [List.map_set,h.map]
 rcases List.mem_or_eq_of_mem_set d with d | d
 · obtain ⟨o,m⟩:=h.buf q d
   exact ⟨o.fr fr fun b hb e=>(m b hb).2.2 (by rw [e];rfl),fun b hb=>⟨.inl (m b hb).1,(m b hb).2⟩⟩
 subst d
 refine ⟨j,fun b hb=>⟨.inr ⟨hn b hb,j.lt b hb⟩,fun e=>?_,fun e=>?_⟩⟩
 · have:=hn b hb
   have:=h.lt x h.own.1;omega
 have:=hn b hb
 have r:ga=b:=(by simpa [Value.ownBlock] using e);have:=h.lt ga k;omega
theorem zrg (D:Doc) (r:Int) {L:List (Int×Sm)} {i:Nat} {p:Int×Sm} (hp:L[i]?=some p):(midH D r L i).set i (p.1,lookS D r p.2)=midH D r L (i+1):=by
 obtain ⟨a,e⟩:=gS_ hp;unfold midH;rw [List.drop_eq_getElem_cons a,e,gK_,hp,List.map_append,Option.toList_some,List.map_cons,List.map_nil,List.append_assoc];rw [List.set_append_right _ _ (by rw [List.length_map,List.length_take];omega)];have:i-((L.take i).map fun p=>(p.1,lookS D r p.2)).length=0:=by rw [List.length_map,List.length_take];omega
 rw [this]
 rfl
theorem zrj (D:Doc) (r:Int) {L:List (Int×Sm)} {i:Nat}:(midH D r L i)[i]?=L[i]?:=by
 unfold midH;by_cases hi:i<L.length
 · rw [List.getElem?_append_right (by rw [List.length_map,List.length_take];omega),List.length_map,List.length_take,List.getElem?_drop]
   congr 1
   omega
 rw [List.drop_of_length_le (by omega),List.append_nil,List.getElem?_map,List.getElem?_take,if_neg (by omega),List.getElem?_eq_none (by omega)]
 rfl
theorem zrh (D:Doc) (r:Int) (L:List (Int×Sm)) (i:Nat):(midH D r L i).length=L.length:=by
 have:=congrArg List.length (zri D r L i);simpa using this
def HbP (H:Hb):Prop:=0<=H.fed/\∀ q∈H.L,1<=q.2.place
theorem HbP.new (l:Int):HbP ⟨0,l,[]⟩:=⟨Int.le_refl 0,fun p hp=>by simp at hp⟩
theorem HbP.set {H:Hb} (h:HbP H) (i:Int) {s:Sm} (hp:1<=s.place):HbP ⟨H.fed,H.last,setH H.L i s⟩:=⟨h.1,fun p hp'=>by
 obtain ⟨q,hq,rfl⟩:=List.mem_map.1 hp'
 split
 · exact hp
 exact h.2 q hq⟩
theorem HbP.del {H:Hb} (h:HbP H) (i:Int):HbP ⟨H.fed,H.last,delH H.L i⟩:=⟨h.1,fun p hp=>h.2 p (gF_ hp).1⟩
theorem HbP.close {H:Hb} (h:HbP H) (i:Int):HbP (closeH H i):=by
 unfold closeH
 split
 · exact h
 exact h.del i
theorem HbP.open {H:Hb} (h:HbP H) (t:Wt):HbP (openH H t):=⟨h.1,fun p hp=>by
 have h0:=h.1;rcases gA_ hp with h1 | h1
 · exact h.2 p h1
 rw [gI_ h1]
 unfold openS;dsimp only
 split <;> omega⟩
theorem HbP.feed1 {H:Hb} (h:HbP H) (D:Doc):HbP (feed1 D H):=⟨by have:=h.1;show 0<=H.fed+1;omega,fun p hp=>by
 obtain ⟨q,hq,rfl⟩:=List.mem_map.1 hp;have h1:=h.2 q hq
 show 1<=(lookS D (H.fed+1) q.2).place
 unfold lookS
 split
 · dsimp only
   omega
 omega⟩
theorem HbP.feedN {H:Hb} (h:HbP H) (D:Doc):∀ n,HbP (feedN D n H):=by
 intro n
 induction n generalizing H with
 | zero=>exact h
 | succ n ih=>exact ih (h.feed1 D)
theorem HbP.feed {H:Hb} (h:HbP H) (D:Doc):HbP (feedH D H):=h.feedN D _
theorem HbP.take {H:Hb} (h:HbP H) (hk:HbOk H) (D:Doc) (i:Int):HbP (takeH D H i):=by
 unfold takeH
 split
 · exact h
 rename_i s hs
 have a:=h.2 _ ((zcy hk.up).1 hs);dsimp only at a
 split
 · exact h.set i a
 split
 · exact h.del i
 have b:=zcr D H.fed s.w (H.fed-s.place+1).toNat true s.place []
 refine h.set i ?_;unfold catchH;dsimp only;omega
theorem set_at {L:List (Int×Sm)} (hu:L.Pairwise fun a b=>a.1<b.1) {i:Nat} {p:Int×Sm} (h:L[i]?=some p) (s:Sm):setH L p.1 s=L.set i (p.1,s):=by
 induction L generalizing i with
 | nil=>simp at h
 | cons q L ih =>
   obtain ⟨c,e⟩:=gP_ hu
   cases i with
   | zero =>
     have f:q=p:=(by simpa using h);subst f;unfold setH;rw [List.map_cons,if_pos rfl,List.set_cons_zero]
     congr 1
     have:L.map (fun p=>if p.1=q.1 then (q.1,s) else p)=L.map id:=List.map_congr_left fun y hy=>by
      have:=c y hy;rw [if_neg (by omega)]
      rfl
     rw [this,List.map_id]
   | succ i =>
     have d:L[i]?=some p:=(by simpa using h);have:=c p (gM_ d);unfold setH at ih ⊢
     rw [List.map_cons,if_neg (by omega),List.set_cons_succ,<-ih e d]
theorem RhR.one {w:World} {x ga oa cap:Nat} {P:List ((Int×Sm)×Value)} {H:Hb} {G:Nat->Prop} (h:RhR w x (.slice (some ⟨ga,oa,none⟩) P.length cap) P H G) {i:Nat} {p:(Int×Sm)×Value} (hp:P[i]?=some p)
 (k:Nat) (hk:k<9) (p':(Int×Sm)×Value) (u:Value) (hset:(rsC p).set k u=rsC p') (hb:∀ W,SlF W 72 13 evC p.2 p.1.2.buf->SlF W 72 13 evC p'.2 p'.1.2.buf) (ho:∀ b,p'.2.ownBlock=some b->p.2.ownBlock=some b) :
 RhR (w.setCell ⟨ga,oa+i * 9+k,none⟩ u) x (.slice (some ⟨ga,oa,none⟩) P.length cap) (P.set i p') ⟨H.fed,H.last,H.L.set i p'.1⟩ G/\Fr (fun y=>y=ga) w (w.setCell ⟨ga,oa+i * 9+k,none⟩ u):=by
 obtain ⟨m,j⟩:=gS_ hp;have l:=h.own.2.2 ga rfl;have d:ga≠x:=fun e=>h.own.2.1 (by rw [e];rfl);have f:=h.sl.set zaj i k hk p p' u hp hset.symm;have fr:Fr (fun y=>y=ga) w (w.setCell ⟨ga,oa+i * 9+k,none⟩ u):=(Fr.refl (fun y=>y=ga) w).setCell (p:=⟨ga,oa+i * 9+k,none⟩) (.inl rfl) u;refine ⟨⟨fr.heap h.obj fun e=>d e.symm,f,by rw [List.map_set,h.map],h.own,fun q a=>?_,fun b hb=>nL_ (h.lt b hb) fr.size⟩,fr⟩;rcases List.mem_or_eq_of_mem_set a with a | a
 · obtain ⟨g,c⟩:=h.buf q a
   exact ⟨g.fr fr fun b hb e=>(c b hb).2.2 (by rw [e];rfl),c⟩
 subst a
 obtain ⟨g,c⟩:=h.buf p (gM_ hp);exact ⟨hb _ (g.fr fr fun b hb e=>(c b hb).2.2 (by rw [e];rfl)),fun b hb=>c b (ho b hb)⟩
theorem RhR.place {w:World} {x ga oa cap:Nat} {P:List ((Int×Sm)×Value)} {H:Hb} {G:Nat->Prop} (h:RhR w x (.slice (some ⟨ga,oa,none⟩) P.length cap) P H G) {i:Nat} {p:(Int×Sm)×Value} (hp:P[i]?=some p) (pl:Int) :
 RhR (w.setCell ⟨ga,oa+i * 9+8,none⟩ (.int .i64 pl)) x (.slice (some ⟨ga,oa,none⟩) P.length cap) (P.set i ((p.1.1,⟨p.1.2.w,p.1.2.buf,pl⟩),p.2)) ⟨H.fed,H.last,H.L.set i (p.1.1,⟨p.1.2.w,p.1.2.buf,pl⟩)⟩ G/\Fr (fun y=>y=ga) w (w.setCell ⟨ga,oa+i * 9+8,none⟩ (.int .i64 pl)) :=
 h.one hp 8 (by omega) ((p.1.1,⟨p.1.2.w,p.1.2.buf,pl⟩),p.2) _ rfl (fun _ a=>a) fun _ a=>a
theorem RhR.emptied {w:World} {x ga oa cap:Nat} {P:List ((Int×Sm)×Value)} {H:Hb} {G:Nat->Prop} (h:RhR w x (.slice (some ⟨ga,oa,none⟩) P.length cap) P H G) {i:Nat} {p:(Int×Sm)×Value} (hp:P[i]?=some p) :
 RhR (w.setCell ⟨ga,oa+i * 9+7,none⟩ (.slice none 0 0)) x (.slice (some ⟨ga,oa,none⟩) P.length cap) (P.set i ((p.1.1,⟨p.1.2.w,[],p.1.2.place⟩),.slice none 0 0)) ⟨H.fed,H.last,H.L.set i (p.1.1,⟨p.1.2.w,[],p.1.2.place⟩)⟩ G/\Fr (fun y=>y=ga) w (w.setCell ⟨ga,oa+i * 9+7,none⟩ (.slice none 0 0)) :=
 h.one hp 7 (by omega) ((p.1.1,⟨p.1.2.w,[],p.1.2.place⟩),.slice none 0 0) _ rfl (fun _ _=>SlF.nil _ _ _ _) fun b hb=>by simp [Value.ownBlock] at hb
theorem zpz {D:Doc} {r:Int} (h1:1<=r) (h2:r<=D.rev) (h3:D.mark<=r):zbb D r r=0:=by
 unfold zbb;rw [if_neg (by omega),if_neg (by omega),if_neg (by omega)]
theorem zxc {D:Doc} {fed:Int} {t:Wt} {n:Nat} {first:Bool} {p:Int} {O M:List Ev} (hn:n=(fed-p+1).toNat) (hp:p<=fed) (he:zbb D p p=0) (hM:wantsW t (evsAt D p)=M) (hl:first=false->¬ 64<O.length+M.length) :
 catchN D fed t n first p O=catchN D fed t (fed-(p+1)+1).toNat false (p+1) (O++M):=by
 obtain ⟨m,rfl⟩:∃ m,n=m+1:=⟨n-1,by omega⟩;have b:(fed-(p+1)+1).toNat=m:=by omega
 rw [b];subst hM;rw [catchN,if_pos hp,if_neg];rintro (h | ⟨h,a⟩)
 · exact h he
 exact hl h a
theorem zoe {D:Doc} {fed:Int} {t:Wt} {n:Nat} {p:Int} {O M:List Ev} (hn:n=(fed-p+1).toNat) (hp:p<=fed) (hM:wantsW t (evsAt D p)=M) (hl:64<O.length+M.length) :
 catchN D fed t n false p O=(p,O):=by
 obtain ⟨m,rfl⟩:∃ m,n=m+1:=⟨n-1,by omega⟩;subst hM;rw [catchN,if_pos hp,if_pos (.inr ⟨rfl,hl⟩)]
theorem ztt {D:Doc} {fed:Int} {t:Wt} {n:Nat} {first:Bool} {p:Int} {O:List Ev} (hp:¬ p<=fed):catchN D fed t n first p O=(p,O):=by
 cases n with
 | zero=>rfl
 | succ m=>rw [catchN,if_neg hp]
def sinceB (a b:Int) (e:Ev):Bool:=decide (a<=e.kv.mod)&&decide (e.kv.mod<=b)
def sinceL (D:Doc) (a b:Int):List Ev:=D.events.filter (sinceB a b)
theorem zsm {D:Doc} {a b:Int} {i:Nat} {e:Ev} (h:D.events[i]?=some e):(D.events.take (i+1)).filter (sinceB a b)=(D.events.take i).filter (sinceB a b)++if sinceB a b e=true then [e] else []:=by
 rw [gK_,h,List.filter_append]
 congr 1
 cases hs:sinceB a b e <;> simp [hs]
theorem zzh (y:Ev):∀ u∈evC y,u.oneCell'=true:=by
 intro u a;simp [evC,kvC] at a;rcases a with rfl | rfl | rfl | rfl | rfl | rfl | rfl | rfl | rfl | rfl | rfl | rfl | rfl <;> rfl
def EvsAR (E:List Ev) (w:World) (e:Ending) (w':World):Prop:=∃ a c,e=.returned (.slice a E.length c)/\SlF w' 72 13 evC (.slice a E.length c) E/\(∀ b,(Value.slice a E.length c).ownBlock=some b->w.heap.size<=b)/\Fr No w w'
theorem zjn (w:World) (D:Doc) (a1 a2:Option Addr) (n1 k1 k2:Nat) (hD:SlR w 13 evC (.slice a2 D.events.length k2) D.events) (hl:D.events.length<=100000000) (a b:Int) :
 Calls Tryz.prog 94 #[docV D (.slice a1 n1 k1) (.slice a2 D.events.length k2),.int .i64 a,.int .i64 b] w (EvsAR (sinceL D a b) w):=by
 obtain ⟨ea,t,he,an,ao,v⟩:=hD.shape;obtain ⟨rfl,rfl⟩:a2=ea/\k2=t:=by cases he;exact ⟨rfl,rfl⟩
 obtain ⟨i0,a8,ab,ad,ae⟩:=info_parts info73;have u:=zad w (Obj.cells #[.int .i64 D.rev,.int .i64 D.mark,.slice a1 n1 k1,.slice a2 D.events.length k2] 76) _ rfl;have j:Fr No w (w.alloc (Obj.cells #[.int .i64 D.rev,.int .i64 D.mark,.slice a1 n1 k1,.slice a2 D.events.length k2] 76)):=(Fr.refl No w).alloc _;have C:=hD.fr0 j;have n:=H_ u;have V:=H_ j;have a3:=H_ C;have U:=H_ v;have B:=fun i e=>@zsm D a b i e
 have z:∀ i,((D.events.take i).filter (sinceB a b)).length<=i:=fun i=>by
  have h1:=List.length_filter_le (sinceB a b) (D.events.take i);have h2:=List.length_take_le i D.events;omega
 have X:=H_ z;have a0:=H_ B;have T:Hid (sinceL D a b=(D.events.take D.events.length).filter (sinceB a b)):=H_ (by rw [List.take_length];rfl);clear u j C hD v B z;unfold docV;go_enter Tryz.func94,Tryz.ntmps94;go_upto_region 3 with fail;generalize w.alloc (Obj.cells #[.int .i64 D.rev,.int .i64 D.mark,.slice a1 n1 k1,.slice a2 D.events.length k2] 76)=s at *;have ar:w.heap.size<s.heap.size:=zab n.out
 go_loopg [7,8] D.events.length (fun g s7 s8 wr=>∃ (i:Nat) (o:Value),s7=o/\s8=.int .i64 i/\i+g=D.events.length/\Hid (SlF wr 72 13 evC o ((D.events.take i).filter (sinceB a b)))/\Hid (∀ k,o.ownBlock=some k->s.heap.size<=k)/\Hid (Fr No s wr))
 case atStart=>exact ⟨0,_,rfl,rfl,by simp,H_ (SlF.nil _ _ _ _),H_ (by simp [Value.ownBlock]),H_ (Fr.refl No s)⟩
 case round =>
  obtain ⟨i,o,rfl,rfl,hi,R,Q,m⟩:=hrel;have hb:=m.out.heap n.out id;have lb:=zab hb;have b3:=cellAt hb 3 rfl;clear hb
  cases gk with
  | zero =>
    have a9:¬ (i:Int)<(D.events.length:Int):=(by omega);have S:=R.out;rw [show i=D.events.length by omega,<-T.out] at S;obtain ⟨oa,oc,rfl,_,_,_⟩:=S.shape;have Y:=H_ S;clear S;go_wp2;go_ret;exact ⟨oa,oc,rfl,Y.out,fun k hk=>by have:=Q.out k hk;omega,V.out.trans0 m.out⟩
  | succ g =>
    have a9:(i:Int)<(D.events.length:Int):=(by omega);obtain ⟨x,hx⟩:∃ x,D.events[i]?=some x:=⟨_,gG_ (by omega)⟩;obtain ⟨ga,go,rfl⟩:=U.out (by omega);have d:=a0.out i x hx;have ap:=X.out i;obtain ⟨E,⟨F,G,H,l,I,J⟩,⟨K,L,M,N,O,P⟩⟩:=x;obtain ⟨x0,x1,x2,x3,x4,x5,x6,x7,x8,x9,af,ag,ah⟩:=(a3.out.fr0 m.out).cells13 zaa i hx rfl;have lf:=gB_ _ _ x0;have c:=H_ d;have aq:0<=(i:Int):=(by omega);dsimp only at x0 x1 x2 x3 x4 x5 x6 x7 x8 x9 af ag ah;clear d hx;by_cases h1:a<=l
    · by_cases h2:l<=b
      · have f:sinceB a b ⟨E,⟨F,G,H,l,I,J⟩,⟨K,L,M,N,O,P⟩⟩=true:=by unfold sinceB;simp [h1,h2]
        have r:=H_ f;have q:=H_ (zav wr (evC ⟨E,⟨F,G,H,l,I,J⟩,⟨K,L,M,N,O,P⟩⟩) 72 (0,0));clear f;go_wp2_with (at_builtin;(refine zbd rfl _ _ 41 rfl 72 i0 _ 13 136 Tryz.underlying41 a8 ab ad ae rfl (by decide) _ ((D.events.take i).filter (sinceB a b)) rfl (R.out.alloc _) s Q.out (m.out.alloc _) wr.heap.size 1 ⟨E,⟨F,G,H,l,I,J⟩,⟨K,L,M,N,O,P⟩⟩ rfl q.out rfl (zzh _) (by unfold maxLen;omega) (by omega) ?_));intro g1 o1 ai w5 A a7 y aj;have Z:=H_ A;have W:=H_ y;clear A y;go_wp2;go_roundg g
        case rel=>exact ⟨i+1,_,rfl,by go_num,by omega,H_ (by rw [c.out,r.out];exact Z.out),H_ (zci a7),W⟩
        case measure=>omega
      have f:sinceB a b ⟨E,⟨F,G,H,l,I,J⟩,⟨K,L,M,N,O,P⟩⟩=false:=by unfold sinceB;simp [h2]
      have r:=H_ f;clear f;go_wp2;go_roundg g
      case rel=>exact ⟨i+1,_,rfl,by go_num,by omega,H_ (by rw [c.out,r.out,if_neg (by decide),List.append_nil];exact R.out),Q,m⟩
      case measure=>omega
    have f:sinceB a b ⟨E,⟨F,G,H,l,I,J⟩,⟨K,L,M,N,O,P⟩⟩=false:=by unfold sinceB;simp [h1]
    have r:=H_ f;clear f;go_wp2;go_roundg g
    case rel=>exact ⟨i+1,_,rfl,by go_num,by omega,H_ (by rw [c.out,r.out,if_neg (by decide),List.append_nil];exact R.out),Q,m⟩
    case measure=>omega
structure Pl (TA:zao) (w wr:World) (h s x rb k:Nat) (S:St) (D:Doc) (H H2:Hb) (D2:Doc) (B G:Nat->Prop) (vk ve:Value):Prop where
 both:Both TA wr h s k k S D H B
 ref:RhAt wr x H2 G
 gb:∀ b,G b->¬ B b
 bw:∀ b,B b->w.heap.size<=b
 gw:∀ b,G b->w.heap.size<=b
 row:wr.heap[rb]?=some (.cells #[.int .i64 D2.rev,.int .i64 D2.mark,vk,ve] 76 (0,0))
 doc:DocR wr D2 vk ve
 rn:∀ b,(b=rb\/vk.ownBlock=some b\/ve.ownBlock=some b)->¬ B b/\¬ G b/\w.heap.size<=b/\b<wr.heap.size
 fr:Fr No w wr
section
variable {TA:zao} {w wr w':World} {h s x rb k:Nat} {S:St} {D:Doc} {H H2:Hb} {D2:Doc} {B G:Nat->Prop} {vk ve:Value}
theorem DocR.fr {Y:Nat->Prop} (a:DocR wr D2 vk ve) (hf:Fr Y wr w') (hn:∀ b,(vk.ownBlock=some b\/ve.ownBlock=some b)->¬ Y b):DocR w' D2 vk ve :=
 ⟨a.kvs.fr hf fun b hb=>hn b (.inl hb),a.evs.fr hf fun b hb=>hn b (.inr hb)⟩
theorem Pl.fr0 (hT:TreeOk TA 1000000) (a:Pl TA w wr h s x rb k S D H H2 D2 B G vk ve) (hf:Fr No wr w'):Pl TA w w' h s x rb k S D H H2 D2 B G vk ve where
 both:=a.both.fr0 hT hf
 ref:=a.ref.fr0 hf
 gb:=a.gb
 bw:=a.bw
 gw:=a.gw
 row:=hf.heap a.row fun h=>h
 doc:=a.doc.fr0 hf
 rn:=fun b hb=>⟨(a.rn b hb).1,(a.rn b hb).2.1,(a.rn b hb).2.2.1,nL_ (a.rn b hb).2.2.2 hf.size⟩
 fr:=a.fr.trans0 hf
theorem Pl.prog {W:World} {k':Nat} {S':St} {D':Doc} {H':Hb} {B':Nat->Prop} (a:Pl TA w wr h s x rb k S D H H2 D2 B G vk ve) (hW:Fr No wr W) (t:ActTo TA w W w' h s k' S' D' H' B B'):Pl TA w w' h s x rb k' S' D' H' H2 D2 B' G vk ve where
 both:=t.1
 ref:=(a.ref.fr0 hW).fr t.2.1 a.gb
 gb:=fun b hg hb=>by
  have h1:=a.ref.lt b hg;have h2:=hW.size;rcases t.2.2.1 b hb with h3 | h3
  · exact a.gb b hg h3
  omega
 bw:=t.2.2.2.1
 gw:=a.gw
 row:=t.2.1.heap (hW.heap a.row fun h=>h) (a.rn rb (.inl rfl)).1
 doc:=(a.doc.fr0 hW).fr t.2.1 fun b hb=>(a.rn b (.inr hb)).1
 rn:=fun b hb=>by
  obtain ⟨h1,h2,h3,h4⟩:=a.rn b hb;have h5:=hW.size;have h6:=t.2.1.size;refine ⟨fun hx=>?_,h2,h3,by omega⟩;rcases t.2.2.1 b hx with h7 | h7
  · exact h1 h7
  omega
 fr:=t.2.2.2.2
theorem Pl.refs (hT:TreeOk TA 1000000) {H3:Hb} (a:Pl TA w wr h s x rb k S D H H2 D2 B G vk ve) (t:RhTo wr w' x H3 G):Pl TA w w' h s x rb k S D H H3 D2 B (growG G wr w') vk ve where
 both:=a.both.fr hT t.2 fun b hb hg=>a.gb b hg hb
 ref:=t.1
 gb:=fun b hg hb=>by
  have h1:=a.both.lt hT b hb;rcases hg with hg | hg
  · exact a.gb b hg hb
  omega
 bw:=a.bw
 gw:=fun b hg=>by
  have h1:=a.fr.size;rcases hg with hg | hg
  · exact a.gw b hg
  omega
 row:=t.2.heap a.row (a.rn rb (.inl rfl)).2.1
 doc:=a.doc.fr t.2 fun b hb=>(a.rn b (.inr hb)).2.1
 rn:=fun b hb=>by
  obtain ⟨h1,h2,h3,h4⟩:=a.rn b hb;have h6:=t.2.size;refine ⟨h1,fun hx=>?_,h3,by omega⟩;rcases hx with hx | hx
  · exact h2 hx
  omega
 fr:=a.fr.trans t.2 fun b hb hg=>by have:=a.gw b hg;omega
theorem Pl.sets (hT:TreeOk TA 1000000) {D3:Doc} {vk' ve':Value} (a:Pl TA w wr h s x rb k S D H H2 D2 B G vk ve) (hf:Fr (fun b=>b=rb) wr w') (hr:w'.heap[rb]?=some (.cells #[.int .i64 D3.rev,.int .i64 D3.mark,vk',ve'] 76 (0,0))) (hd:DocR w' D3 vk' ve')
 (hn:∀ b,(vk'.ownBlock=some b\/ve'.ownBlock=some b)->¬ B b/\¬ G b/\w.heap.size<=b/\b<w'.heap.size):Pl TA w w' h s x rb k S D H H2 D3 B G vk' ve' where
 both:=a.both.fr hT hf fun b hb e=>(a.rn b (.inl e)).1 hb
 ref:=a.ref.fr hf fun b hb e=>(a.rn b (.inl e)).2.1 hb
 gb:=a.gb
 bw:=a.bw
 gw:=a.gw
 row:=hr
 doc:=hd
 rn:=fun b hb=>by
  rcases hb with rfl | hb
  · obtain ⟨h1,h2,h3,h4⟩:=a.rn b (.inl rfl)
    exact ⟨h1,h2,h3,nL_ h4 hf.size⟩
  exact hn b hb
 fr:=a.fr.trans hf fun b hb e=>by have:=(a.rn b (.inl e)).2.2.1;omega
end
theorem ztj (D:Doc) (r:Int):(evsAt D r).length<=D.events.length:=by
 unfold evsAt
 split
 · exact List.length_filter_le _ _
 exact Nat.zero_le _
theorem zjg (D:Doc) (fed:Int) (t:Wt):∀ (n:Nat) (p:Int) (out:List Ev),(catchN D fed t n false p out).2.length<=max out.length 64
 | 0,_,_=>Nat.le_max_left _ _
 | n+1,p,out=>by
   unfold catchN
   split
   · split
     · exact Nat.le_max_left _ _
     rename_i h
     have ih:=zjg D fed t n (p+1) (out++wantsW t (evsAt D p));rw [gL_] at ih;have h2:¬ 64<out.length+(wantsW t (evsAt D p)).length:=fun x=>h (.inr ⟨rfl,x⟩);omega
   exact Nat.le_max_left _ _
theorem ztu (D:Doc) (fed:Int) (s:Sm):(catchH D fed s).2.length<=max D.events.length 64:=by
 unfold catchH
 cases (fed-s.place+1).toNat with
 | zero=>exact Nat.zero_le _
 | succ n =>
   unfold catchN
   split
   · split
     · exact Nat.zero_le _
     have a:=zjg D fed s.w n (s.place+1) ([]++wantsW s.w (evsAt D s.place))
     rw [List.nil_append] at a ⊢
     have b:=zcf s.w (evsAt D s.place);have c:=ztj D s.place;omega
   exact Nat.zero_le _
theorem zuy {H:Hb} (h:HbQ H) (hk:HbOk H) (D:Doc) (i:Int):(takeB D H i).evs.length<=max D.events.length 64:=by
 unfold takeB
 split
 · exact Nat.zero_le _
 rename_i s hs
 have a:=(h.get hk hs).1
 split
 · dsimp only
   omega
 split
 · exact Nat.zero_le _
 exact ztu D H.fed s
def wPl (w:World):World:=(w.alloc (Obj.cells #[.int .i64 0,.int .i64 0,.slice none 0 0,.slice none 0 0] 76)).alloc (Obj.cells #[.int .i64 0,.int .i64 0,.slice none 0 0] 83)
theorem zuq (w:World):Fr No w (wPl w)/\(wPl w).heap[w.heap.size]?=some (.cells #[.int .i64 0,.int .i64 0,.slice none 0 0,.slice none 0 0] 76 (0,0))/\(wPl w).heap[w.heap.size+1]?=some (.cells #[.int .i64 0,.int .i64 0,.slice none 0 0] 83 (0,0))/\(wPl w).heap.size=w.heap.size+2 :=
 ⟨((Fr.refl No w).alloc _).alloc _,zar (zad w _ _ rfl) _,zad _ _ _ (Array.size_push ..).symm,(Array.size_push ..).trans (congrArg (· + 1) (Array.size_push ..))⟩
theorem Pl.start {TA:zao} (hT:TreeOk TA 1000000) {w w4:World} {h s:Nat} {B:Nat->Prop} (hb:Both TA w4 h s 0 0 newS newD ⟨newS.rev,0,[]⟩ B) (hn:∀ b,B b->w.heap.size<=b) (hf:Fr No w w4) :
 Pl TA w (wPl w4) h s (w4.heap.size+1) w4.heap.size 0 newS newD ⟨newS.rev,0,[]⟩ ⟨newS.rev,0,[]⟩ newD B (fun b=>b=w4.heap.size+1) (.slice none 0 0) (.slice none 0 0):=by
 obtain ⟨a,d,f,g⟩:=zuq w4;have i:=hf.size;have c:=hb.lt hT
 exact {
  both:=hb.fr0 hT a
  ref:=⟨.slice none 0 0,[],f,SlF.nil _ _ _ _,rfl,⟨rfl,by simp [Value.ownBlock],by simp [Value.ownBlock]⟩,fun p hp=>by simp at hp,fun b hb=>by rw [hb,g];omega⟩
  gb:=fun b e hb=>by have:=c b hb;omega
  bw:=hn
  gw:=fun b e=>by omega
  row:=d
  doc:=⟨(SlF.nil (wPl w4) 70 6 kvC).toR zah,(SlF.nil (wPl w4) 72 13 evC).toR zaa⟩
  rn:=fun b hb=>by
   rcases hb with e | e | e
   · subst e
     exact ⟨fun hb=>by have:=c _ hb;omega,fun e=>by omega,i,by omega⟩
   · simp [Value.ownBlock] at e
   simp [Value.ownBlock] at e
  fr:=hf.trans0 a }
theorem zzl {w X:World} {b:Nat} {a0 a1 a2 a3:Value} (hk:X.heap[b]?=some (.cells #[a0,a1,a2,a3] 76 (0,0))) (v0 v1 v2 v3:Value) :
 ∃ Z,((((X.setCell ⟨b,0,none⟩ v0).setCell ⟨b,1,none⟩ v1).setCell ⟨b,2,none⟩ v2).setCell ⟨b,3,none⟩ v3)=Z/\Z.heap[b]?=some (.cells #[v0,v1,v2,v3] 76 (0,0))/\(Fr No w X->w.heap.size<=b->Fr No w Z)/\Fr (fun j=>j=b) X Z:=by
 have a:=zac hk 0 v0;have c:=zac a 1 v1;have d:=zac c 2 v2;have e:=zac d 3 v3
 exact ⟨_,rfl,by rw [e];simp,fun hf hb=>((((hf.setCell (p:=⟨b,0,none⟩) (.inr hb) _).setCell (p:=⟨b,1,none⟩) (.inr hb) _).setCell (p:=⟨b,2,none⟩) (.inr hb) _).setCell (p:=⟨b,3,none⟩) (.inr hb) _),
  (((((Fr.refl (fun j=>j=b) X).setCell (p:=⟨b,0,none⟩) (.inl rfl) _).setCell (p:=⟨b,1,none⟩) (.inl rfl) _).setCell (p:=⟨b,2,none⟩) (.inl rfl) _).setCell (p:=⟨b,3,none⟩) (.inl rfl) _)⟩
theorem SlR.frp {α:Type} {f:α->List Value} {w w':World} {sz:Nat} {v:Value} {L:List α} {S:Nat->Prop} (h:SlR w sz f v L) (hf:Fr S w w') (hn:0<L.length->∀ k,v.ownBlock=some k->¬ S k):SlR w' sz f v L:=by
 rcases Nat.eq_zero_or_pos L.length with b | e
 · obtain rfl:=gN_ b
   obtain ⟨a,cap,rfl,c,d,_⟩:=h;exact ⟨a,cap,rfl,c,d,fun h=>by simp at h⟩
 exact h.fr hf (hn e)
def zew (E:Int) (L:List Ev) (w:World) (e:Ending) (w':World):Prop:=∃ a c,e=.returned (.tuple #[.slice a L.length c,.int .i64 E])/\SlF w' 72 13 evC (.slice a L.length c) L/\Fr No w w'
theorem zew.bad {E E':Int} {L:List Ev} {w w':World} (h:E'=E) (hL:L = []) (hf:Fr No w w'):zew E L w (.returned (.tuple #[.slice none 0 0,.int .i64 E'])) w':=by
 subst h hL;exact ⟨none,0,rfl,SlF.nil _ _ _ _,hf⟩
theorem zfg (w:World) (D:Doc) (a1 a2:Option Addr) (n1 k1 k2:Nat) (hD:SlR w 13 evC (.slice a2 D.events.length k2) D.events) (hl:D.events.length<=100000000) (a b:Int) :
 Calls Tryz.prog 61 #[docV D (.slice a1 n1 k1) (.slice a2 D.events.length k2),.int .i64 a,.int .i64 b] w (zew (zbb D a b) (if zbb D a b=0 then sinceL D a b else []) w):=by
 have u:=fun W (hW:Fr No w W)=>zjn W D a1 a2 n1 k1 k2 (hD.fr0 hW) hl a b;have i:Fr No w (w.alloc (Obj.cells #[.int .i64 D.rev,.int .i64 D.mark,.slice a1 n1 k1,.slice a2 D.events.length k2] 76)):=(Fr.refl No w).alloc _;have f:=H_ i;have c:zbb D a b=if a<1\/b<a then 1 else if D.rev<b then 33 else if a<D.mark then 32 else 0:=rfl;have j:zbb D a b=0->(if zbb D a b=0 then sinceL D a b else [])=sinceL D a b:=fun h=>if_pos h;have k:zbb D a b≠0->(if zbb D a b=0 then sinceL D a b else []) = []:=fun h=>if_neg h;generalize (if zbb D a b=0 then sinceL D a b else [])=L at *;generalize s:zbb D a b=z at *;unfold docV at *;have v:=H_ u;have m:=H_ j;have g:=H_ k;clear u i hD hl s j k;by_cases h1:a<1
 · rw [if_pos (.inl h1)] at c
   have n:decide (a<1)=true:=dT_ h1;have d:=H_ c;clear c;go_enter Tryz.func61,Tryz.ntmps61;go_wp2
   go_ret2
   exact zew.bad d.out.symm (g.out (by rw [d.out];decide)) f.out
 have n:decide (a<1)=false:=dF_ h1
 by_cases h2:b<a
 · rw [if_pos (.inr h2)] at c
   have o:decide (a > b)=true:=dT_ h2;have d:=H_ c;clear c;go_enter Tryz.func61,Tryz.ntmps61;go_wp2
   go_ret2
   exact zew.bad d.out.symm (g.out (by rw [d.out];decide)) f.out
 have o:decide (a > b)=false:=dF_ h2
 rw [if_neg (by omega)] at c;by_cases h3:D.rev<b
 · rw [if_pos h3] at c
   have q:decide (b > D.rev)=true:=dT_ h3;have d:=H_ c;clear c;go_enter Tryz.func61,Tryz.ntmps61;go_wp2
   go_ret2
   exact zew.bad d.out.symm (g.out (by rw [d.out];decide)) f.out
 have q:decide (b > D.rev)=false:=dF_ h3
 rw [if_neg h3] at c;by_cases h4:a<D.mark
 · rw [if_pos h4] at c
   have r:decide (a<D.mark)=true:=dT_ h4;have d:=H_ c;clear c;go_enter Tryz.func61,Tryz.ntmps61;go_wp2
   go_ret2
   exact zew.bad d.out.symm (g.out (by rw [d.out];decide)) f.out
 rw [if_neg h4] at c
 have r:decide (a<D.mark)=false:=dF_ h4;have d:=H_ c;clear c;go_enter Tryz.func61,Tryz.ntmps61;go_wp2_with (go_at_call 94;(with_reducible refine (v.out _ f.out).mono ?_);rintro e w1 ⟨x,y,rfl,t,_,i⟩)
 go_ret2
 have l:=m.out d.out;exact ⟨x,y,by rw [d.out,l];rfl,by rw [l];exact t,f.out.trans0 i⟩
end Go.Proofs.YtdgkdfmfoonbpaaGreat