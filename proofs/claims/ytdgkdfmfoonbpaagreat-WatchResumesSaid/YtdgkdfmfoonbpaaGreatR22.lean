/- Own lemmas. -/
import Derived.Test.YtdgkdfmfoonbpaaGreatR17
import Derived.Test.YtdgkdfmfoonbpaaGreatR21
namespace Go.Proofs.YtdgkdfmfoonbpaaGreat
open Go Go.Proofs Go.RowKit
set_option maxRecDepth 100000
theorem LayR.fr0 {TA:zai} {N:Nat} (hT:TreeOk TA N) {w w':World} {s sb vb ab:Nat} {S:St} {F:Nat->Prop} {ev:Value} {E:List Ev} {kind:Int} {kv:Value} {L:List Kv} {count:Int} {more:Bool}
 (h:LayR TA w s sb vb ab S F ev E kind kv L count more) (hf:Fr No w w'):LayR TA w' s sb vb ab S F ev E kind kv L count more :=
 { h with store:=h.store.fr0 hT hf,box:=h.box.fr hf id,evs:=h.evs.fr hf id,evl:=h.evl.fr0 hf,ans:=h.ans.fr hf id,kvl:=h.kvl.fr0 hf }
theorem ztj (rev:Int) (r:Run) (B:List Kv) {j:Nat} {x:Kv} (h:B[j]?=some x):delR rev r B (j+1)=goneR rev (delR rev r B j) x:=by
 unfold delR;rw [List.take_add_one,h,List.foldl_append]
 rfl
theorem zvl (rev:Int) (r:Run) (B:List Kv):delR rev r B B.length=B.foldl (goneR rev) (r.S,[],r.E):=by
 unfold delR;rw [List.take_length]
set_option maxHeartbeats 4000000 in
theorem ztn {TA:zai} {N:Nat} (hT:TreeOk TA N) {n:Nat} (hn:n<=1099511627) (w:World) (s:Nat) (S:St) (F:Nat->Prop) (hS:zal TA w s S F) (v:Value) (ops:List Opr) (hv:SlR w 10 opC v ops)
 (hvF:0<ops.length->∀ b,v.ownBlock=some b->¬ F b) (hl:ops.length<=1099511627) (hks:∀ o∈ops,o.rg.key.size<=1099511627776) (hr0 : -top<=S.rev) (hr:S.rev<top) (hc:checkE ops=0) (hw:zcz S ops=0)
 (hrun:∀ i o,ops[i]?=some o->StepG N n (S.rev+1) (runR (S.rev+1) ⟨S,[],[]⟩ (ops.take i)) o) :
 Calls Tryz.prog 56 #[.pointer (some ⟨s,0,none⟩),v] w fun e w'=>∃ av ev,e=.returned (.tuple #[av,ev,.int .i64 0])/\∃ F' Z,zal TA w' s (applyS S ops) F'/\AnsR w' av Z ∧
  Z.map (·.1)=(runR (S.rev+1) ⟨S,[],[]⟩ ops).A/\SlF w' 72 13 evC ev (runR (S.rev+1) ⟨S,[],[]⟩ ops).E/\Fr F w w'/\(∀ b,F' b->F b\/w.heap.size<=b) ∧
  (∀ b,ev.ownBlock=some b->w.heap.size<=b/\¬ F' b)/\(∀ b,ansF av Z b->w.heap.size<=b/\¬ F' b):=by
 have bd:=fun W hv=>ziv W v ops hv hl hks;rw [hc] at bd;obtain ⟨va,ds,rfl,dK,dL,ca⟩:=hv.shape
 have cc:∀ o∈ops,o.kind=3->whenE S o.rg.rev=0:=by
  intro o ho hk;unfold zcz at hw
  cases hf:ops.find? (fun o=>o.kind==3&&whenE S o.rg.rev != 0) with
  | none =>
    have:=List.find?_eq_none.1 hf o ho;simpa [hk] using this
  | some q =>
    rw [hf] at hw;have:=List.find?_some hf;simp at this;exact absurd hw this.2
 have HV:=H_ hv;have bI:=H_ ca;have cH:=H_ hvF;have HS:=H_ hS;have ct:=H_ bd;have cI:=H_ cc;have bH:=H_ hrun;have b9:=H_ (hS.lt hT)
 have bV:∀ W,Fr No w W->W.cell? ⟨s,3,none⟩=some (.int .i64 S.rev):=fun W hW=>by
  obtain ⟨t,p,ev,hp,FT,FH,a,hF⟩:=hS;exact hW.cell0 (a.obj.cell 3 rfl)
 have cq:=H_ bV;clear bV;have dQ:∀ (fn:Fn) (first cap:Array Value) (w:World),(Instr.makeFunc fn first cap).run Tryz.prog w=.ok (.func fn first cap) w:=fun _ _ _ _=>rfl;clear hv ca hvF hS bd cc hrun hw hc hks;go_enter Tryz.func56,Tryz.ntmps56
 go_wp2_with (first
  | (go_at_call 87;refine (ct.out _ (HV.out.alloc _)).mono ?_;rintro e w1 ⟨rfl,bX⟩
     have cV:Fr No w w1:=((Fr.refl No w).alloc _).trans0 bX;have bS:w1.heap[w.heap.size]?=some (.cells #[.pointer (some ⟨s,0,none⟩)] 52 (0,0)):=bX.heap (zae _ _ _ rfl) id;have bA:w1.cell? ⟨w.heap.size,0,none⟩=some (.pointer (some ⟨s,0,none⟩)):=cellAt bS 0 rfl))
 go_loopg [29] ops.length (fun g s29 wr=>∃ i:Nat,s29=.int .i64 i/\i+g=ops.length/\Hid (Fr No w1 wr))
 case atStart=>exact ⟨0,rfl,by simp,H_ (Fr.refl No w1)⟩
 case round =>
  obtain ⟨i,rfl,hi,HF⟩:=hrel;have aW:Fr No w wr:=cV.trans0 HF.out;have bR:=HF.out.cell0 bA;have dV:=World.block_lt_of_cell? _ _ bR
  cases gk with
  | zero =>
    have bj:¬ (i:Int)<(ops.length:Int):=(by omega);have b8:=H_ aW;clear aW;have dR:S.rev<1099511627776:=hr;have dS : -1099511627776<=S.rev:=hr0
    go_wp2_with (go_at_call 88;refine (zpx _ s S F (HS.out.fr0 hT b8.out) _ hr).mono ?_;rintro e w2 ⟨rfl,aV⟩
                 have bJ:=aV.cell0 bR;have cf:=World.block_lt_of_cell? _ _ bJ;have bL:=cq.out _ (b8.out.trans0 aV);have dq:=World.block_lt_of_cell? _ _ bL)
    have bf:Fr No w (w2.alloc (Obj.cells #[.slice none 0 0] 41)):=(b8.out.trans0 aV).alloc _;have c9:w.heap.size<w2.heap.size:=cf;have cb:=zae w2 (Obj.cells #[.slice none 0 0] 41) _ rfl;have aH:(w2.alloc (Obj.cells #[.slice none 0 0] 41)).heap[w.heap.size]?=some (.cells #[.pointer (some ⟨s,0,none⟩)] 52 (0,0)):=((HF.out.trans0 aV).alloc _).heap bS id
    have aI:LoopR TA w (w2.alloc (Obj.cells #[.slice none 0 0] 41)) s w.heap.size w2.heap.size F (runR (S.rev+1) ⟨S,[],[]⟩ (ops.take 0)) F (.slice none 0 0) (.slice none 0 0) []:={
     fr:=bf.mono fun _ _ h=>h.elim
     store:=HS.out.fr0 hT bf
     box:=⟨52,aH⟩
     evs:=⟨41,cb⟩
     evl:=SlF.nil _ _ _ _
     ans:=AnsR.nil _
     eqs:=rfl
     new:=fun b h=>.inl h
     old:=b9.out
     sbn:=Nat.le_refl _
     vbn:=Nat.le_of_lt c9
     evn:=fun b h=>by simp [Value.ownBlock] at h
     ann:=fun b h=>by rcases h with h | ⟨_,_,h,_⟩ <;> simp [Value.ownBlock] at h
     f1:=fun h=>by have:=b9.out _ h;omega
     f2:=fun h=>by have:=b9.out _ h;omega
     f4:=fun b h=>by simp [Value.ownBlock] at h
     f5:=fun b h=>by rcases h with h | ⟨_,_,h,_⟩ <;> simp [Value.ownBlock] at h
     n1:=by omega
     e1:=by simp [Value.ownBlock]
     e2:=by simp [Value.ownBlock]
     k1:=fun h=>by rcases h with h | ⟨_,_,h,_⟩ <;> simp [Value.ownBlock] at h
     k2:=fun h=>by rcases h with h | ⟨_,_,h,_⟩ <;> simp [Value.ownBlock] at h
     ek:=fun b h=>by simp [Value.ownBlock] at h }
    have b5:=H_ aI;clear aI bf cb aH bJ bL bR bA;generalize w2.heap.size=vb at *
    go_loopg [57,12] ops.length (fun g s57 s12 wr2=>∃ (i:Nat) (bq:Value) (F1:Nat->Prop) (ev:Value) (Z:List (Ans×Value)),s57=.int .i64 i/\s12=bq/\i+g=ops.length ∧
     Hid (LoopR TA w wr2 s w.heap.size vb F (runR (S.rev+1) ⟨S,[],[]⟩ (ops.take i)) F1 ev bq Z))
    case atStart=>exact ⟨0,_,F,_,[],rfl,rfl,by simp,b5⟩
    case round =>
     obtain ⟨i,bq,F1,ev,Z,rfl,rfl,hi,c⟩:=hrel
     cases gk with
     | zero =>
       have bj:¬ (i:Int)<(ops.length:Int):=(by omega);have d7:ops.take i=ops:=List.take_of_length_le (by omega);rw [d7] at c;have bQ:applyS S ops=if (runR (S.rev+1) ⟨S,[],[]⟩ ops).E = [] then (runR (S.rev+1) ⟨S,[],[]⟩ ops).S else { (runR (S.rev+1) ⟨S,[],[]⟩ ops).S with rev:=S.rev+1 }:=rfl;generalize hR:runR (S.rev+1) ⟨S,[],[]⟩ ops=r at *;have HR:=H_ hR;clear hR;obtain ⟨ea,bM,rfl,dM,dN,cT⟩:=c.out.evl.shape;have v0:=c.out.evs.cell 0 rfl;have b0:=c.out.box.cell 0 rfl;have lv:=c.out.evs.lt;have lb:=c.out.box.lt;obtain ⟨t1,U,cP,d0,ck,cj,a1,bO⟩:=c.out.store;have c3:=a1.obj.cell 3 rfl;have f3:=a1.obj.free 3;have ls:=a1.obj.lt;have bt:=H_ a1;have bz:=H_ bO;have bu:=H_ bQ;clear a1 bO bQ cT;by_cases hE:r.E.length=0
       · have cS:¬ (0:Int)<(r.E.length:Int):=by omega
         have b6:=H_ (List.eq_nil_of_length_eq_zero hE);have dA:=H_ hE;clear hE;go_wp2_with fail
         go_quiet (fail)
         have hq:=Fr.drewN No wr nq;generalize wr.drewN nq=WQ at hq ⊢
         go_wp2;go_ret3
         refine ⟨_,_,rfl,F1,Z,by rw [bu.out,if_pos b6.out];exact c.out.store.fr0 hT hq,c.out.ans.fr hq fun _ _ s=>s,by rw [HR.out];exact c.out.eqs,by rw [HR.out];exact c.out.evl.fr0 hq,c.out.fr.trans0 hq,c.out.new,
          fun b hb=>⟨c.out.evn b hb,c.out.f4 b hb⟩,fun b hb=>⟨c.out.ann b hb,c.out.f5 b hb⟩⟩
       have cS:(0:Int)<(r.E.length:Int):=by omega
       have b6:Hid (¬ r.E = []):=H_ (fun h=>hE (by rw [h];rfl));have an:F1 s:=(bz.out s).2 (.inl rfl);have c7:s≠vb:=fun e=>c.out.f2 (e▸an);clear hE;go_wp2_with fail;have v1:(wr.setCell ⟨s,3,none⟩ (.int .i64 (S.rev+1))).cell? ⟨vb,0,none⟩=some (.slice ea r.E.length bM):=((Fr.refl (fun b=>b=s) wr).setAt 3 _).cell v0 (fun e=>c7 e.symm);have ab:Fr (fun b=>b=s) wr (wr.setCell ⟨s,3,none⟩ (.int .i64 (S.rev+1))):=(Fr.refl _ wr).setAt 3 _;have ho:=bt.out.obj.set 3 (.int .i64 (S.rev+1));have bN:=bt.out.setObj hT ab r.S.next (S.rev+1) r.S.mark ho;have dp:=ab.size;generalize wr.setCell ⟨s,3,none⟩ (.int .i64 (S.rev+1))=W1 at *;have dX:vb<W1.heap.size:=(by omega);have cl:=H_ bN;have cy:=H_ ab;clear bN ab ho v0 b0 c3 f3
       go_quiet (fail)
       have hq:=Fr.drewN No W1 nq;generalize W1.drewN nq=WQ at hq ⊢
       go_wp2;go_ret3;have bg:Fr (fun b=>b=s) wr WQ:=cy.out.trans0 hq;have d6:zal TA WQ s { r.S with rev:=S.rev+1 } F1:=zal.fr0 hT ⟨t1,U,cP,d0,ck,cj,cl.out,bz.out⟩ hq
       refine ⟨_,_,rfl,F1,Z,by rw [bu.out,if_neg b6.out];exact d6,c.out.ans.fr bg fun b hb e=>c.out.f5 b hb (by have e':b=s:=e;rw [e'];exact an),by rw [HR.out];exact c.out.eqs,
        by rw [HR.out];exact c.out.evl.fr bg fun b hb e=>c.out.f4 b hb (by have e':b=s:=e;rw [e'];exact an),c.out.fr.trans bg fun b hb e=>?_,c.out.new,
        fun b hb=>⟨c.out.evn b hb,c.out.f4 b hb⟩,fun b hb=>⟨c.out.ann b hb,c.out.f5 b hb⟩⟩
       have e':b=s:=e;subst e';rcases c.out.new b an with h | h
       · exact h
       omega
     | succ g =>
       obtain ⟨gb,go,rfl⟩:=bI.out (by omega);obtain ⟨p,H⟩:∃ p,ops[i]?=some p:=⟨_,List.getElem?_eq_getElem (by omega)⟩;have D:=HV.out.fr c.out.fr (cH.out (by omega));have x0:=D.cell0 zaf i H rfl;have x1:=D.cell zaf i 1 H rfl;have x2:=D.cell zaf i 2 H rfl;have x3:=D.cell zaf i 3 H rfl;have x4:=D.cell zaf i 4 H rfl;have x5:=D.cell zaf i 5 H rfl;have x6:=D.cell zaf i 6 H rfl;have x7:=D.cell zaf i 7 H rfl;have x8:=D.cell zaf i 8 H rfl;have x9:=D.cell zaf i 9 H rfl;have bj:(i:Int)<(ops.length:Int):=(by omega)
       have aP:runR (S.rev+1) ⟨S,[],[]⟩ (ops.take (i+1))=stepR (S.rev+1) (runR (S.rev+1) ⟨S,[],[]⟩ (ops.take i)) p:=by
        unfold runR;rw [List.take_add_one,H,List.foldl_append]
        rfl
       have c8:=bH.out i p H;have aT:=H_ aP;have O:=H_ c8;generalize runR (S.rev+1) ⟨S,[],[]⟩ (ops.take i)=r at *;have b0:=c.out.box.cell 0 rfl;have lb:=c.out.box.lt;have lv:=c.out.evs.lt;clear H D aP c8;obtain ⟨U,⟨d,f,l,m,y,z,C⟩,p2,p3⟩:=p;by_cases h1:U=1
       · subst h1
         have aM:=O.out.put rfl;have bl:=fun W hW=>zka hT hn W s r.S F1 hW O.out.st ⟨1,⟨d,f,l,m,y,z,C⟩,p2,p3⟩ (S.rev+1) aM.1 aM.2.1;unfold opV at bl;have cD:=H_ bl;clear bl;obtain ⟨i0,ar,au,aw,ax⟩:=info_parts info90
         have c4:Z.length<=1099511627:=by
          have:=congrArg List.length c.out.eqs;rw [List.length_map] at this;rw [this];exact O.out.ans
         go_wp2_with (first
          | (go_at_call 90;refine (cD.out _ ((c.out.store.fr0 hT ((Fr.refl No wr).alloc _)).fr0 hT ((Fr.refl No _).alloc _))).mono ?_;rintro e w4 ⟨rfl,T⟩
             have J:Fr No wr w4:=(((Fr.refl No wr).alloc _).alloc _).trans0 T;have Y:w4.heap[wr.heap.size+1]?=some (.cells #[.int .i64 1,.slice none 0 0,.int .i64 0,.bool false] 165 (0,0)):=T.heap (zae _ _ _ (by simp)) id
             have ag:LayR TA w4 s w.heap.size vb (wr.heap.size+1) r.S F1 ev r.E 1 (.slice none 0 0) [] 0 false:={
              store:=c.out.store.fr0 hT J
              box:=c.out.box.fr J id
              evs:=c.out.evs.fr J id
              evl:=c.out.evl.fr0 J
              ans:=⟨165,Y⟩
              kvl:=SlF.nil _ _ _ _
              f1:=c.out.f1
              f2:=c.out.f2
              f3:=fun h=>by have:=c.out.store.lt hT _ h;omega
              f4:=c.out.f4
              f5:=fun b h=>by simp [Value.ownBlock] at h
              n1:=c.out.n1
              n2:=by omega
              n3:=by omega
              e1:=c.out.e1
              e2:=c.out.e2
              e3:=fun h=>by have:=c.out.evl.lt _ h;omega
              k1:=by simp [Value.ownBlock]
              k2:=by simp [Value.ownBlock]
              k3:=by simp [Value.ownBlock]
              ek:=fun b _=>by simp [Value.ownBlock] }
             have aF:=H_ ag;have ai:=H_ J;clear ag Y T J)
          | (go_at_call 89;refine (zma hT hn w4 s w.heap.size vb (wr.heap.size+1) r.S F1 ev r.E 1 (.slice none 0 0) [] 0 false aF.out O.out.st (zaw r.S ⟨1,⟨d,f,l,m,y,z,C⟩,p2,p3⟩ (S.rev+1)) aM.2.2 O.out.evs (by simp) (by omega) (by unfold top;omega)).mono ?_
             rintro e w5 ⟨⟨rv,rfl⟩,F2,ae,L,G,a5,af,Q,R⟩;have a0:=G.ans.cell 0 rfl;have a1:=G.ans.cell 1 rfl;have a2:=G.ans.cell 2 rfl;have a3:=G.ans.cell 3 rfl;have aR:=G.ans.lt;have I:=H_ G;have aD:=H_ a5;have b7:=H_ af;have aC:=H_ Q;have aE:=H_ R
             have aO:SlF w5 165 4 ansC _ Z:=(c.out.ans.sl.fr0 ai.out).fr a5 (fun b hb h=>by
              rcases h with h | h | h | h | h
              · exact c.out.f5 b (.inl hb) h
              · exact c.out.k2 (.inl (h▸hb))
              · have:=c.out.ans.lt b (.inl hb);omega
              · exact c.out.ek b h (.inl hb)
              simp [Value.ownBlock] at h)
             have aj:=H_ aO;have a6:=zav w5 (ansC (⟨1,told (zaw r.S ⟨1,⟨d,f,l,m,y,z,C⟩,p2,p3⟩ (S.rev+1)),(told (zaw r.S ⟨1,⟨d,f,l,m,y,z,C⟩,p2,p3⟩ (S.rev+1))).length,false⟩,L)) 165 (0,0)
             have aK:L.oneCell'=true:=by
              obtain ⟨ka,kc,bk,_⟩:=G.kvl.shape;rw [bk];rfl
             clear G a5 af Q R aO)
          | (at_builtin;refine zao rfl _ _ 118 rfl 165 i0 _ 4 48 Tryz.underlying118 ar au aw ax rfl (by decide) _ Z rfl (aj.out.alloc _) w5.heap.size 1 (⟨1,told (zaw r.S ⟨1,⟨d,f,l,m,y,z,C⟩,p2,p3⟩ (S.rev+1)),(told (zaw r.S ⟨1,⟨d,f,l,m,y,z,C⟩,p2,p3⟩ (S.rev+1))).length,false⟩,L) rfl a6 rfl ?c1 ?c2 ?c3 ?_))
         case c1=>intro u hu;simp [ansC] at hu;rcases hu with rfl | rfl | rfl | rfl <;> first | exact aK | rfl
         case c2=>unfold maxLen;omega
         case c3=>omega
         intro V o7 aG w6 am al ak aL;go_wp2;go_roundg g
         case rel =>
          have bn:=ai.out.size;have d5:=aD.out.size;refine ⟨i+1,_,F2,ae,Z++[(⟨1,told (zaw r.S ⟨1,⟨d,f,l,m,y,z,C⟩,p2,p3⟩ (S.rev+1)),(told (zaw r.S ⟨1,⟨d,f,l,m,y,z,C⟩,p2,p3⟩ (S.rev+1))).length,false⟩,L)],by go_num,rfl,by omega,H_ ?_⟩;have aN:stepR (S.rev+1) r ⟨1,⟨d,f,l,m,y,z,C⟩,p2,p3⟩=⟨doS r.S (zaw r.S ⟨1,⟨d,f,l,m,y,z,C⟩,p2,p3⟩ (S.rev+1)),r.A++[⟨1,told (zaw r.S ⟨1,⟨d,f,l,m,y,z,C⟩,p2,p3⟩ (S.rev+1)),(told (zaw r.S ⟨1,⟨d,f,l,m,y,z,C⟩,p2,p3⟩ (S.rev+1))).length,false⟩],r.E++[(zaw r.S ⟨1,⟨d,f,l,m,y,z,C⟩,p2,p3⟩ (S.rev+1))]⟩:=(by unfold stepR;rw [if_pos rfl]);rw [aT.out,aN]
          refine LoopR.next hT c.out (w5:=w5) (kv:=L) (X:=fun b=>F1 b\/b=vb\/b=wr.heap.size+1\/ev.ownBlock=some b) (a:=⟨1,told (zaw r.S ⟨1,⟨d,f,l,m,y,z,C⟩,p2,p3⟩ (S.rev+1)),(told (zaw r.S ⟨1,⟨d,f,l,m,y,z,C⟩,p2,p3⟩ (S.rev+1))).length,false⟩)
           I.out.store I.out.box I.out.evs I.out.evl (by simpa using I.out.kvl) ((ai.out.mono fun _ _ h=>h.elim).trans aD.out fun b hb h=>?_) (fun b hb h=>?_)
           (fun b hb=>?_) (fun b hb=>?_) (fun b hb=>?_) I.out.f4 I.out.f5 I.out.ek (((Fr.refl _ w5).alloc _).grown al fun k hk=>.inl hk) am (fun b hb=>?_)
          · rcases h with h | h | h | h | h
            · exact .inl h
            · exact .inr (.inl h)
            · exact .inr (.inr (.inl h))
            · exact .inr (.inr (.inr h))
            simp [Value.ownBlock] at h
          · rcases h with h | h | h | h
            · exact .inl h
            · exact .inr (.inl h)
            · omega
            exact .inr (.inr h)
          · rcases b7.out b hb with h | h
            · exact .inl h
            exact .inr (by omega)
          · rcases aC.out b hb with h | h
            · exact .inl h
            exact .inr (by omega)
          · rcases aE.out b hb with h | h
            · simp [Value.ownBlock] at h
            omega
          obtain rfl:V=b:=by simpa [Value.ownBlock] using hb
          rcases ak with h | h
          · exact .inl h
          right
          have h':V=w5.heap.size+1:=(by simpa using h);omega
         case measure=>omega
       have dF:(U==1)=false:=by simpa using h1
       by_cases hdel:U=2
       · subst hdel
         obtain ⟨wo,d8⟩:∃ wo,wo=wr:=⟨_,rfl⟩;subst d8;obtain ⟨i0,ar,au,aw,ax⟩:=info_parts info90
         have c4:Z.length<=1099511627:=by
          have:=congrArg List.length c.out.eqs;rw [List.length_map] at this;rw [this];exact O.out.ans
         have cU:=O.out.dlen;have be:=O.out.del rfl;have bU:=fun W hW=>zgl hT hn W s r.S F1 hW O.out.st O.out.tree d f (S.rev+1) O.out.key
         have bm:stepR (S.rev+1) r ⟨2,⟨d,f,l,m,y,z,C⟩,p2,p3⟩=⟨((zaz r.S d f (S.rev+1)).foldl (goneR (S.rev+1)) (r.S,[],r.E)).1,r.A++[⟨2,((zaz r.S d f (S.rev+1)).foldl (goneR (S.rev+1)) (r.S,[],r.E)).2.1,((zaz r.S d f (S.rev+1)).foldl (goneR (S.rev+1)) (r.S,[],r.E)).2.1.length,false⟩],((zaz r.S d f (S.rev+1)).foldl (goneR (S.rev+1)) (r.S,[],r.E)).2.2⟩:=by
          unfold stepR;rw [if_neg (show ¬ (2:Int)=1 by decide),if_pos rfl]
         rw [<-zvl] at bm;dsimp only at cU be;generalize zaz r.S d f (S.rev+1)=B at *;have co:=H_ bU;have cu:=H_ be;have cF:=H_ bm;clear bU be bm
         go_wp2_with (go_at_call 91;refine (co.out _ ((c.out.store.fr0 hT ((Fr.refl No wo).alloc _)).fr0 hT ((Fr.refl No _).alloc _))).mono ?_;rintro e w4 ⟨bv,rfl,bc,T,bT⟩
                      obtain ⟨ba,bK,rfl,dI,dJ,aH⟩:=bc.shape;have J:Fr No wo w4:=(((Fr.refl No wo).alloc _).alloc _).trans0 T;have Y:w4.heap[wo.heap.size+1]?=some (.cells #[.int .i64 2,.slice none 0 0,.int .i64 0,.bool false] 165 (0,0)):=T.heap (zae _ _ _ (by simp)) id;have dm:wo.heap.size+2<=w4.heap.size:=(by have:=T.size;simp at this;omega);have aZ:∀ b,(Value.slice ba B.length bK).ownBlock=some b->wo.heap.size+2<=b:=fun b hb=>by have:=bT b hb;simp at this;omega
                      have ag:LayR TA w4 s w.heap.size vb (wo.heap.size+1) (delR (S.rev+1) r B 0).1 F1 ev (delR (S.rev+1) r B 0).2.2 2 (.slice none 0 0) (delR (S.rev+1) r B 0).2.1 ((delR (S.rev+1) r B 0).2.1.length:Nat) false:={
                       store:=c.out.store.fr0 hT J
                       box:=c.out.box.fr J id
                       evs:=c.out.evs.fr J id
                       evl:=c.out.evl.fr0 J
                       ans:=⟨165,Y⟩
                       kvl:=SlF.nil _ _ _ _
                       f1:=c.out.f1
                       f2:=c.out.f2
                       f3:=fun h=>by have:=c.out.store.lt hT _ h;omega
                       f4:=c.out.f4
                       f5:=fun b h=>by simp [Value.ownBlock] at h
                       n1:=c.out.n1
                       n2:=by omega
                       n3:=by omega
                       e1:=c.out.e1
                       e2:=c.out.e2
                       e3:=fun h=>by have:=c.out.evl.lt _ h;omega
                       k1:=by simp [Value.ownBlock]
                       k2:=by simp [Value.ownBlock]
                       k3:=by simp [Value.ownBlock]
                       ek:=fun b _=>by simp [Value.ownBlock] }
                      have aF:=H_ ag;have ai:=H_ J;have cp:=H_ bc;have cn:=H_ aZ;have cm:=H_ aH;clear ag Y T J bc bT aZ aH)
         go_loopg [86] B.length (fun g2' s86 wr=>∃ j:Nat,s86=.int .i64 j/\j+g2'=B.length/\Hid (∃ F2 ae L,LayR TA wr s w.heap.size vb (wo.heap.size+1) (delR (S.rev+1) r B j).1 F2 ae (delR (S.rev+1) r B j).2.2 2 L (delR (S.rev+1) r B j).2.1 ((delR (S.rev+1) r B j).2.1.length:Nat) false ∧
          Fr (fun b=>F1 b\/b=vb\/b=wo.heap.size+1\/ev.ownBlock=some b) w4 wr/\(∀ b,F2 b->F1 b\/w4.heap.size<=b)/\(∀ b,ae.ownBlock=some b->ev.ownBlock=some b\/w4.heap.size<=b)/\(∀ b,L.ownBlock=some b->w4.heap.size<=b)))
         case atStart=>exact ⟨0,rfl,by simp,H_ ⟨F1,ev,_,aF.out,Fr.refl _ _,fun b h=>.inl h,fun b h=>.inl h,fun b h=>by simp [Value.ownBlock] at h⟩⟩
         case round =>
          obtain ⟨j,rfl,hj,HQ⟩:=hrel
          cases gk with
          | zero =>
            have cZ:¬ (j:Int)<(B.length:Int):=(by omega);have cY:j=B.length:=(by omega);subst cY;obtain ⟨F2,ae,L,G,a5,af,Q,R⟩:=HQ.out;generalize delR (S.rev+1) r B B.length=q at *;have a0:=G.ans.cell 0 rfl;have a1:=G.ans.cell 1 rfl;have a2:=G.ans.cell 2 rfl;have a3:=G.ans.cell 3 rfl;have aR:=G.ans.lt;have c6:=c.out.ans.lt
            have aO:SlF wr 165 4 ansC _ Z:=(c.out.ans.sl.fr0 ai.out).fr a5 (fun b hb h=>by
             rcases h with h | h | h | h
             · exact c.out.f5 b (.inl hb) h
             · exact c.out.k2 (.inl (h▸hb))
             · have:=c6 b (.inl hb);omega
             exact c.out.ek b h (.inl hb))
            have aj:=H_ aO;have a6:=zav wr (ansC (⟨2,q.2.1,q.2.1.length,false⟩,L)) 165 (0,0)
            have aK:L.oneCell'=true:=by
             obtain ⟨ka,kc,bk,_⟩:=G.kvl.shape;rw [bk];rfl
            have I:=H_ G;have aD:=H_ a5;have b7:=H_ af;have aC:=H_ Q;have aE:=H_ R;clear G a5 af Q R aO;go_wp2_with (at_builtin;refine zao rfl _ _ 118 rfl 165 i0 _ 4 48 Tryz.underlying118 ar au aw ax rfl (by decide) _ Z rfl (aj.out.alloc _) wr.heap.size 1 (⟨2,q.2.1,q.2.1.length,false⟩,L) rfl a6 rfl ?c1 ?c2 ?c3 ?_)
            case c1=>intro u hu;simp [ansC] at hu;rcases hu with rfl | rfl | rfl | rfl <;> first | exact aK | rfl
            case c2=>unfold maxLen;omega
            case c3=>omega
            intro V o7 aG w6 am al ak aL;go_wp2;go_roundg g
            case rel =>
             have bn:=ai.out.size;have d5:=aD.out.size;refine ⟨i+1,_,F2,ae,Z++[(⟨2,q.2.1,q.2.1.length,false⟩,L)],by go_num,rfl,by omega,H_ ?_⟩;rw [aT.out,cF.out]
             refine LoopR.next hT c.out (w5:=wr) (kv:=L) (X:=fun b=>F1 b\/b=vb\/b=wo.heap.size+1\/ev.ownBlock=some b) (a:=⟨2,q.2.1,q.2.1.length,false⟩)
              I.out.store I.out.box I.out.evs I.out.evl I.out.kvl ((ai.out.mono fun _ _ h=>h.elim).trans aD.out fun b hb h=>h) (fun b hb h=>?_)
              (fun b hb=>?_) (fun b hb=>?_) (fun b hb=>?_) I.out.f4 I.out.f5 I.out.ek (((Fr.refl _ wr).alloc _).grown al fun k hk=>.inl hk) am (fun b hb=>?_)
             · rcases h with h | h | h | h
               · exact .inl h
               · exact .inr (.inl h)
               · omega
               exact .inr (.inr h)
             · rcases b7.out b hb with h | h
               · exact .inl h
               exact .inr (by omega)
             · rcases aC.out b hb with h | h
               · exact .inl h
               exact .inr (by omega)
             · have:=aE.out b hb
               omega
             obtain rfl:V=b:=by simpa [Value.ownBlock] using hb
             rcases ak with h | h
             · exact .inl h
             right
             have h':V=wr.heap.size+1:=(by simpa using h);omega
            case measure=>omega
          | succ g2' =>
            have cZ:(j:Int)<(B.length:Int):=(by omega);obtain ⟨bb,bo,rfl⟩:=cm.out (by omega);obtain ⟨x,H⟩:∃ x,B[j]?=some x:=⟨_,List.getElem?_eq_getElem (by omega)⟩;obtain ⟨F2,ae,L,G,a5,af,Q,R⟩:=HQ.out;obtain ⟨d1,d2,d3,d4⟩:=cu.out j x H;have bW:=ztj (S.rev+1) r B H;generalize delR (S.rev+1) r B j=q at *;have az:=c.out.store.lt hT;have ay:=c.out.evl.lt
            have a4:=cp.out.fr a5 (fun b hb h=>by
             have h1:=cn.out b hb;rcases h with h | h | h | h
             · have:=az b h;omega
             · omega
             · omega
             have:=ay b h;omega)
            have y0:=a4.cell0 zar j H rfl;have y1:=a4.cell zar j 1 H rfl;have y2:=a4.cell zar j 2 H rfl;have y3:=a4.cell zar j 3 H rfl;have y4:=a4.cell zar j 4 H rfl;have y5:=a4.cell zar j 5 H rfl;have c5:=fun W (h:Fr No wr W)=>zma hT hn W s w.heap.size vb (wo.heap.size+1) q.1 F2 ae q.2.2 2 L q.2.1 (q.2.1.length:Nat) false (G.fr0 hT h) d1 (goneE x (S.rev+1)) d2 d4 d3 (by omega) (by unfold top;omega);have aJ:((q.2.1.length:Nat):Int)+((told (goneE x (S.rev+1))).length:Nat)=((q.2.1++told (goneE x (S.rev+1))).length:Nat):=(by rw [List.length_append];omega);have cC:=H_ c5;have bD:=H_ a5;have bF:=H_ af;have bE:=H_ Q;have bG:=H_ R;have cv:=H_ bW;have cr:=H_ aJ;clear c5 G a5 af Q R bW aJ H d1 d2 d3 d4 a4;obtain ⟨x1,x2,x3,x4,x5,x6⟩:=x
            dsimp only at y0 y1 y2 y3 y4 y5
            go_wp2_with (go_at_call 89;refine (cC.out _ ((Fr.refl No wr).alloc _)).mono ?_
                         rintro e w5 ⟨⟨rv,rfl⟩,F3,cQ,d9,c0,bY,bP,b3,b4⟩;have cB:=H_ c0;have cx:=H_ bY;have cw:=H_ bP;have bw:=H_ b3;have bC:=H_ b4;clear c0 bY bP b3 b4)
            go_roundg g2'
            case rel =>
             have dn:=bD.out.size;refine ⟨j+1,by go_num,by omega,H_ ⟨F3,cQ,d9,?_,?_,fun b hb=>?_,fun b hb=>?_,fun b hb=>?_⟩⟩
             · rw [cv.out]
               have h6:=cB.out;rw [cr.out] at h6;exact h6
             · refine ((bD.out.alloc _).trans cx.out fun b hb h=>?_)
               rcases h with h | h | h | h | h
               · rcases bF.out b h with h | h
                 · exact .inl h
                 omega
               · exact .inr (.inl h)
               · exact .inr (.inr (.inl h))
               · rcases bE.out b h with h | h
                 · exact .inr (.inr (.inr h))
                 omega
               have:=bG.out b h;omega
             · rcases cw.out b hb with h | h
               · exact bF.out b h
               simp at h;exact .inr (by omega)
             · rcases bw.out b hb with h | h
               · exact bE.out b h
               simp at h;exact .inr (by omega)
             rcases bC.out b hb with h | h
             · exact bG.out b h
             simp at h;omega
            case measure=>omega
       have dG:(U==2)=false:=(by simpa using hdel);obtain ⟨i0,ar,au,aw,ax⟩:=info_parts info90
       have c4:Z.length<=1099511627:=by
        have:=congrArg List.length c.out.eqs;rw [List.length_map] at this;rw [this];exact O.out.ans
       by_cases h3:U=3
       · subst h3
         have bh:=fun W hW=>zha hT hn W s r.S F1 hW O.out.st O.out.tree ⟨d,f,l,m,y,z,C⟩ (S.rev+1) O.out.key;unfold rgV at bh;have cz:=H_ bh;clear bh
         go_upto_region 35 with (first
          | (go_at_call 78;refine (cz.out _ ((c.out.store.fr0 hT ((Fr.refl No wr).alloc _)).fr0 hT ((Fr.refl No _).alloc _))).mono ?_;rintro e w4 ⟨gv,rfl,bi,T,cX⟩
             have J:Fr No wr w4:=(((Fr.refl No wr).alloc _).alloc _).trans0 T;have Y:w4.heap[wr.heap.size+1]?=some (.cells #[.int .i64 3,.slice none 0 0,.int .i64 0,.bool false] 165 (0,0)):=T.heap (zae _ _ _ (by simp)) id;obtain ⟨q0,q1,q2,q3⟩:=cells4 Y;have qf:∀ i,w4.frozen? ⟨wr.heap.size+1,i,none⟩=false:=fun i=>by simp [World.frozen?,Y]
             have lq:=zac Y;obtain ⟨ga,M,rfl,dk,dl,bZ⟩:=bi.shape;have bB:=H_ bi;clear bi bZ))
         have K:Has (((w4.setCell ⟨wr.heap.size+1,1,none⟩ (.slice ga (getL r.S ⟨d,f,l,m,y,z,C⟩ (S.rev+1)).length M)).setCell ⟨wr.heap.size+1,2,none⟩ (.int .i64 (allL r.S ⟨d,f,l,m,y,z,C⟩ (S.rev+1)).length)).setCell ⟨wr.heap.size+1,3,none⟩ (.bool (moreB r.S ⟨d,f,l,m,y,z,C⟩ (S.rev+1)))) (wr.heap.size+1) [.int .i64 3,.slice ga (getL r.S ⟨d,f,l,m,y,z,C⟩ (S.rev+1)).length M,.int .i64 (allL r.S ⟨d,f,l,m,y,z,C⟩ (S.rev+1)).length,.bool (moreB r.S ⟨d,f,l,m,y,z,C⟩ (S.rev+1))] :=
          ((Has.set (cs:=[.int .i64 3,.slice none 0 0,.int .i64 0,.bool false]) ⟨165,Y⟩ 1 (.slice ga (getL r.S ⟨d,f,l,m,y,z,C⟩ (S.rev+1)).length M)).set 2 (.int .i64 (allL r.S ⟨d,f,l,m,y,z,C⟩ (S.rev+1)).length)).set 3 (.bool (moreB r.S ⟨d,f,l,m,y,z,C⟩ (S.rev+1)))
         have ab:Fr (fun b=>b=wr.heap.size+1) w4 (((w4.setCell ⟨wr.heap.size+1,1,none⟩ (.slice ga (getL r.S ⟨d,f,l,m,y,z,C⟩ (S.rev+1)).length M)).setCell ⟨wr.heap.size+1,2,none⟩ (.int .i64 (allL r.S ⟨d,f,l,m,y,z,C⟩ (S.rev+1)).length)).setCell ⟨wr.heap.size+1,3,none⟩ (.bool (moreB r.S ⟨d,f,l,m,y,z,C⟩ (S.rev+1)))):=(((Fr.refl _ w4).setAt 1 _).setAt 2 _).setAt 3 _;generalize (((w4.setCell ⟨wr.heap.size+1,1,none⟩ (.slice ga (getL r.S ⟨d,f,l,m,y,z,C⟩ (S.rev+1)).length M)).setCell ⟨wr.heap.size+1,2,none⟩ (.int .i64 (allL r.S ⟨d,f,l,m,y,z,C⟩ (S.rev+1)).length)).setCell ⟨wr.heap.size+1,3,none⟩ (.bool (moreB r.S ⟨d,f,l,m,y,z,C⟩ (S.rev+1))))=W5 at K ab ⊢
         have az:=c.out.store.lt hT;have bp:=c.out.ans.lt;have ay:=c.out.evl.lt;have cW:=bB.out.lt;have ah:Fr (fun b=>b=wr.heap.size+1) wr W5:=(J.mono fun _ _ h=>h.elim).trans ab fun _ _ h=>h;have ao:∀ b,(Value.slice ga (getL r.S ⟨d,f,l,m,y,z,C⟩ (S.rev+1)).length M).ownBlock=some b->wr.heap.size+2<=b:=fun b hb=>by have:=cX b hb;simp at this;omega
         have a0:=K.cell 0 rfl;have a1:=K.cell 1 rfl;have a2:=K.cell 2 rfl;have a3:=K.cell 3 rfl;have aR:=K.lt;have aj:=H_ (c.out.ans.sl.fr ah fun b hb e=>by have e':b=wr.heap.size+1:=e;have:=bp b (.inl hb);omega);have a6:=zav W5 (ansC (⟨3,(getL r.S ⟨d,f,l,m,y,z,C⟩ (S.rev+1)),(allL r.S ⟨d,f,l,m,y,z,C⟩ (S.rev+1)).length,(moreB r.S ⟨d,f,l,m,y,z,C⟩ (S.rev+1))⟩,.slice ga (getL r.S ⟨d,f,l,m,y,z,C⟩ (S.rev+1)).length M)) 165 (0,0);have P:=H_ ah;have dB:=H_ K;have cA:=H_ (bB.out.fr ab fun b hb e=>by have e':b=wr.heap.size+1:=e;have:=ao b hb;omega);clear ab K ah q0 q1 q2 q3 qf Y J T cW
         go_wp2_with (at_builtin;refine zao rfl _ _ 118 rfl 165 i0 _ 4 48 Tryz.underlying118 ar au aw ax rfl (by decide) _ Z rfl (aj.out.alloc _) W5.heap.size 1 (⟨3,(getL r.S ⟨d,f,l,m,y,z,C⟩ (S.rev+1)),(allL r.S ⟨d,f,l,m,y,z,C⟩ (S.rev+1)).length,(moreB r.S ⟨d,f,l,m,y,z,C⟩ (S.rev+1))⟩,.slice ga (getL r.S ⟨d,f,l,m,y,z,C⟩ (S.rev+1)).length M) rfl a6 rfl ?c1 ?c2 ?c3 ?_)
         case c1=>intro u hu;simp [ansC] at hu;rcases hu with rfl | rfl | rfl | rfl <;> rfl
         case c2=>unfold maxLen;omega
         case c3=>omega
         intro V o7 aG w6 am al ak aL;go_wp2;go_roundg g
         case rel =>
          have bn:=P.out.size;refine ⟨i+1,_,F1,ev,Z++[(⟨3,(getL r.S ⟨d,f,l,m,y,z,C⟩ (S.rev+1)),(allL r.S ⟨d,f,l,m,y,z,C⟩ (S.rev+1)).length,(moreB r.S ⟨d,f,l,m,y,z,C⟩ (S.rev+1))⟩,.slice ga (getL r.S ⟨d,f,l,m,y,z,C⟩ (S.rev+1)).length M)],by go_num,rfl,by omega,H_ ?_⟩;have aN:stepR (S.rev+1) r ⟨3,⟨d,f,l,m,y,z,C⟩,p2,p3⟩=⟨r.S,r.A++[⟨3,(getL r.S ⟨d,f,l,m,y,z,C⟩ (S.rev+1)),(allL r.S ⟨d,f,l,m,y,z,C⟩ (S.rev+1)).length,(moreB r.S ⟨d,f,l,m,y,z,C⟩ (S.rev+1))⟩],r.E⟩:=(by unfold stepR;rw [if_neg (show ¬ (3:Int)=1 by decide),if_neg (show ¬ (3:Int)=2 by decide),if_pos rfl]);rw [aT.out,aN]
          refine LoopR.next hT c.out (w5:=W5) (kv:=.slice ga (getL r.S ⟨d,f,l,m,y,z,C⟩ (S.rev+1)).length M) (X:=fun b=>b=wr.heap.size+1) (a:=⟨3,(getL r.S ⟨d,f,l,m,y,z,C⟩ (S.rev+1)),(allL r.S ⟨d,f,l,m,y,z,C⟩ (S.rev+1)).length,(moreB r.S ⟨d,f,l,m,y,z,C⟩ (S.rev+1))⟩)
           (c.out.store.fr hT P.out fun b hb e=>?_) (c.out.box.fr P.out fun e=>?_) (c.out.evs.fr P.out fun e=>?_) (c.out.evl.fr P.out fun b hb e=>?_) cA.out P.out (fun b hb h=>?_)
           (fun b hb=>.inl hb) (fun b hb=>.inl hb) (fun b hb=>by have:=ao b hb;omega) c.out.f4 (fun b hb h=>by have:=ao b hb;have:=az b h;omega) (fun b hb h=>by have:=ao b h;have:=ay b hb;omega) (((Fr.refl _ W5).alloc _).grown al fun k hk=>.inl hk) am (fun b hb=>?_)
          · have:=az b hb
            have e':b=wr.heap.size+1:=e;omega
          · have e':w.heap.size=wr.heap.size+1:=e
            omega
          · have e':vb=wr.heap.size+1:=e
            omega
          · have:=ay b hb
            have e':b=wr.heap.size+1:=e;omega
          · have e':b=wr.heap.size+1:=h
            omega
          obtain rfl:V=b:=by simpa [Value.ownBlock] using hb
          rcases ak with h | h
          · exact .inl h
          right
          have h':V=W5.heap.size+1:=(by simpa using h);omega
         case measure=>omega
       have dH:(U==3)=false:=by simpa using h3
       go_upto_region 35 with fail
       have K:Has ((wr.alloc (Obj.cells #[.int .i64 U,.string d,.string f,.int .i64 l,.int .i64 m,.bool y,.bool z,.bool C,.string p2,.int .i64 p3] 139)).alloc (Obj.cells #[.int .i64 U,.slice none 0 0,.int .i64 0,.bool false] 165)) (wr.heap.size+1) [.int .i64 U,.slice none 0 0,.int .i64 0,.bool false]:=⟨165,zae _ _ _ (by simp)⟩;have ah:Fr (fun b=>b=wr.heap.size+1) wr ((wr.alloc (Obj.cells #[.int .i64 U,.string d,.string f,.int .i64 l,.int .i64 m,.bool y,.bool z,.bool C,.string p2,.int .i64 p3] 139)).alloc (Obj.cells #[.int .i64 U,.slice none 0 0,.int .i64 0,.bool false] 165)):=((Fr.refl _ wr).alloc _).alloc _
       generalize (wr.alloc (Obj.cells #[.int .i64 U,.string d,.string f,.int .i64 l,.int .i64 m,.bool y,.bool z,.bool C,.string p2,.int .i64 p3] 139)).alloc (Obj.cells #[.int .i64 U,.slice none 0 0,.int .i64 0,.bool false] 165)=W5 at K ah ⊢
       have az:=c.out.store.lt hT;have bp:=c.out.ans.lt;have ay:=c.out.evl.lt;have a0:=K.cell 0 rfl;have a1:=K.cell 1 rfl;have a2:=K.cell 2 rfl;have a3:=K.cell 3 rfl;have aR:=K.lt;have aj:=H_ (c.out.ans.sl.fr ah fun b hb e=>by have e':b=wr.heap.size+1:=e;have:=bp b (.inl hb);omega);have a6:=zav W5 (ansC (⟨U,[],0,false⟩,.slice none 0 0)) 165 (0,0);have P:=H_ ah;clear K ah;go_wp2_with (at_builtin;refine zao rfl _ _ 118 rfl 165 i0 _ 4 48 Tryz.underlying118 ar au aw ax rfl (by decide) _ Z rfl (aj.out.alloc _) W5.heap.size 1 (⟨U,[],0,false⟩,.slice none 0 0) rfl a6 rfl ?c1 ?c2 ?c3 ?_)
       case c1=>intro u hu;simp [ansC] at hu;rcases hu with rfl | rfl | rfl | rfl <;> rfl
       case c2=>unfold maxLen;omega
       case c3=>omega
       intro V o7 aG w6 am al ak aL;go_wp2;go_roundg g
       case rel =>
        have bn:=P.out.size;refine ⟨i+1,_,F1,ev,Z++[(⟨U,[],0,false⟩,.slice none 0 0)],by go_num,rfl,by omega,H_ ?_⟩;have aN:stepR (S.rev+1) r ⟨U,⟨d,f,l,m,y,z,C⟩,p2,p3⟩=⟨r.S,r.A++[⟨U,[],0,false⟩],r.E⟩:=(by unfold stepR;rw [if_neg h1,if_neg hdel,if_neg h3]);rw [aT.out,aN]
        refine LoopR.next hT c.out (w5:=W5) (kv:=.slice none 0 0) (X:=fun b=>b=wr.heap.size+1) (a:=⟨U,[],0,false⟩)
         (c.out.store.fr hT P.out fun b hb e=>?_) (c.out.box.fr P.out fun e=>?_) (c.out.evs.fr P.out fun e=>?_) (c.out.evl.fr P.out fun b hb e=>?_) (SlF.nil _ _ _ _) P.out (fun b hb h=>?_)
         (fun b hb=>.inl hb) (fun b hb=>.inl hb) (fun b hb=>by simp [Value.ownBlock] at hb) c.out.f4 (fun b hb h=>by simp [Value.ownBlock] at hb) (fun b hb h=>by simp [Value.ownBlock] at h) (((Fr.refl _ W5).alloc _).grown al fun k hk=>.inl hk) am (fun b hb=>?_)
        · have:=az b hb
          have e':b=wr.heap.size+1:=e;omega
        · have e':w.heap.size=wr.heap.size+1:=e
          omega
        · have e':vb=wr.heap.size+1:=e
          omega
        · have:=ay b hb
          have e':b=wr.heap.size+1:=e;omega
        · have e':b=wr.heap.size+1:=h
          omega
        obtain rfl:V=b:=by simpa [Value.ownBlock] using hb
        rcases ak with h | h
        · exact .inl h
        right
        have h':V=W5.heap.size+1:=(by simpa using h);omega
       case measure=>omega
  | succ g =>
    obtain ⟨gb,go,rfl⟩:=bI.out (by omega);obtain ⟨p,H⟩:∃ p,ops[i]?=some p:=⟨_,List.getElem?_eq_getElem (by omega)⟩;have D:=HV.out.fr0 aW;have x0:=D.cell0 zaf i H rfl;have x1:=D.cell zaf i 1 H rfl;have x2:=D.cell zaf i 2 H rfl;have x3:=D.cell zaf i 3 H rfl;have x4:=D.cell zaf i 4 H rfl;have x5:=D.cell zaf i 5 H rfl;have x6:=D.cell zaf i 6 H rfl;have x7:=D.cell zaf i 7 H rfl;have x8:=D.cell zaf i 8 H rfl;have x9:=D.cell zaf i 9 H rfl;have bj:(i:Int)<(ops.length:Int):=(by omega);have cd:=cI.out p (List.mem_of_getElem? H);have Hx:=H_ H;clear H D;obtain ⟨U,⟨d,f,l,m,y,z,C⟩,p2,p3⟩:=p;dsimp only at cd;by_cases hk:U=3
    · have ce:=cd hk
      have HK:=H_ hk;subst hk;go_wp2_with (go_at_call 77;refine (zde _ s S F ((HS.out.fr0 hT aW).fr0 hT ((Fr.refl No wr).alloc _)) l).mono ?_;rintro e w' ⟨rfl,rfl⟩;rw [ce]);go_roundg g
      case rel=>exact ⟨i+1,by go_num,by omega,H_ (HF.out.alloc _)⟩
      case measure=>omega
    have dP:(U==3)=false:=by simpa using hk
    go_wp2;go_roundg g
    case rel=>exact ⟨i+1,by go_num,by omega,H_ (HF.out.alloc _)⟩
    case measure=>omega
structure Good (k:Nat) (S:St) (D:Doc):Prop where
 cpl:Cpl S D
 doc:DocOk (52000 * k) D
 ok:StOk (52000 * k) S
 size:S.T.length<=16 * k
 srt:Sorted S.T
 more:SMore (52000 * k) S
 rev:S.rev=D.rev
 rev1:D.rev<=k
theorem Good.mono {k m:Nat} {S:St} {D:Doc} (h:Good k S D) (hm:k<=m):Good m S D :=
 { h with doc:=h.doc.mono (by omega),ok:=h.ok.mono (by omega),size:=by have:=h.size;omega,more:=h.more.mono (by omega),rev1:=by have:=h.rev1;omega }
def newS:St:=⟨[],fun _=>none,0,0,0,[]⟩
def newD:Doc:=⟨0,0,[],[]⟩
theorem Good.new:Good 0 newS newD where
 cpl:={
  mark:=rfl
  events:=rfl
  inv:=⟨fun k _ h=>by simp [newS,getT] at h,fun k h=>by simp [newS,getT] at h,fun i H h=>by simp [newS] at h⟩
  ks:=List.Pairwise.nil
  m0:=⟨Int.le_refl 0,Int.le_refl 0⟩
  lives:=fun k r _=>rfl }
 doc:={
  es:=List.Pairwise.nil
  lo:=fun e he=>by simp [newD] at he
  full:=fun r a _ c=>by have c':r<=0:=c;omega
  uniq:=List.Pairwise.nil
  prev:=fun A e B h=>by simp [newD] at h
  kind:=fun e he=>by simp [newD] at he
  ver0:=fun e he=>by simp [newD] at he
  ver:=fun e he=>by simp [newD] at he }
 ok:={
  pos:=Int.le_refl 0
  next:=Int.le_refl 0
  id:=fun p hp=>by simp [newS] at hp
  ids:=fun i H h=>by simp [newS] at h
  hist:=fun i H h=>by simp [newS] at h
  rev0:=by show -top<=0;unfold top;omega
  rev1:=by show 0<=top;unfold top;omega
  mark0:=Int.le_refl 0
  ev:=Nat.le_refl 0 }
 size:=Nat.le_refl 0
 srt:=List.Pairwise.nil
 more:=fun i H h=>by simp [newS] at h
 rev:=rfl
 rev1:=Int.le_refl 0
theorem zit {ops:List Opr} (h:checkE ops=0):ops.length<=16/\(∀ o∈ops,oneE o=0)/\∀ i o,ops[i]?=some o->Apart (ops.take i) o:=by
 unfold checkE at h
 split at h
 · cases h
 rename_i hl
 split at h
 · rename_i o ho
   have:=List.find?_some ho;rw [h] at this;simp at this
 rename_i hn
 split at h
 · cases h
 rename_i ht
 refine ⟨by omega,fun o ho=>by simpa using List.find?_eq_none.1 hn o ho,fun i o hi=>?_⟩
 have c:∀ j p,ops[j]?=some p->p.kind=1->(∀ q∈ops.take j,clash p q=false)/\∀ q∈ops.drop (j+1),clash p q=false:=fun j p a hp=>by
  have e:=(List.getElem?_eq_some_iff.1 a).1;unfold twice at ht;rw [Bool.not_eq_true,List.any_eq_false] at ht;have b:=ht j (List.mem_range.2 e);unfold zen at b;rw [a] at b;simp only [hp,beq_self_eq_true,Bool.true_and,Bool.or_eq_true,not_or,Bool.not_eq_true,List.any_eq_false] at b;exact ⟨fun q hq=>by simpa using b.1 q hq,fun q hq=>by simpa using b.2 q hq⟩
 refine ⟨fun ho p hp=>(c i o hi ho).1 p hp,fun ho p hp hp1=>?_⟩;obtain ⟨j,a⟩:=List.mem_iff_getElem?.1 hp
 have d:j<i:=by
  have:=(List.getElem?_eq_some_iff.1 a).1;simp at this;omega
 rw [List.getElem?_take,if_pos d] at a;refine (c j p a hp1).2 o (List.mem_iff_getElem?.2 ⟨i-(j+1),?_⟩);rw [List.getElem?_drop,show j+1+(i-(j+1))=i by omega];exact hi
theorem StepG.mono {N n m:Nat} {rev:Int} {r:Run} {o:Opr} (h:StepG N n rev r o) (hm:n<=m):StepG N m rev r o :=
 { h with st:=h.st.mono hm,del:=fun hk j x hx=>⟨(h.del hk j x hx).1.mono hm,(h.del hk j x hx).2⟩ }
theorem zsd (rev:Int) (r:Run) (ops:List Opr) {i:Nat} {o:Opr} (h:ops[i]?=some o):runR rev r (ops.take (i+1))=stepR rev (runR rev r (ops.take i)) o:=by
 unfold runR;rw [List.take_add_one,h,List.foldl_append]
 rfl
theorem zvy (rev:Int) (r:Run) (o:Opr):(stepR rev r o).A.length=r.A.length+1:=by
 unfold stepR
 split
 · simp
 split
 · simp
 split <;> simp
theorem Good.begin {k:Nat} {S:St} {D:Doc} (h:Good k S D):RunOk (16 * k) (52000 * k) D [] S [] where
 cpl:=h.cpl
 doc:=h.doc
 ok:=h.ok
 size:=h.size
 srt:=h.srt
 more:=h.more
 srev:=h.rev
 mods:=fun e he=>by simp at he
 old:=fun e he=>(h.doc.lo e he).2.2
 last:=fun k _ H hH=>.inl (h.cpl.inv.hist _ _ hH).1.2
 by1:=fun e he=>by simp at he
theorem Good.runs {k:Nat} {S:St} {D:Doc} (h:Good k S D) (hk:k<=200) {ops:List Opr} (hc:checkE ops=0) (hks:∀ o∈ops,o.rg.key.size<=1099511627776) :
 ∀ i≤ ops.length,(RunOk (16 * k+i) (52000 * k+i * (16 * k+17)) D (ops.take i) (runR (D.rev+1) ⟨S,[],[]⟩ (ops.take i)).S (runR (D.rev+1) ⟨S,[],[]⟩ (ops.take i)).E/\(runR (D.rev+1) ⟨S,[],[]⟩ (ops.take i)).A.length=i) ∧
  ∀ o,ops[i]?=some o->StepG 1000000 (52000 * k+52000) (D.rev+1) (runR (D.rev+1) ⟨S,[],[]⟩ (ops.take i)) o:=by
 obtain ⟨t,_,e⟩:=zit hc;have g:=h.cpl.m0;have q:=h.rev1;have d:D.rev+1<=top:=by unfold top;omega
 have key:∀ i≤ ops.length,RunOk (16 * k+i) (52000 * k+i * (16 * k+17)) D (ops.take i) (runR (D.rev+1) ⟨S,[],[]⟩ (ops.take i)).S (runR (D.rev+1) ⟨S,[],[]⟩ (ops.take i)).E/\(runR (D.rev+1) ⟨S,[],[]⟩ (ops.take i)).A.length=i:=by
  intro i
  induction i with
  | zero=>intro _;exact ⟨h.begin.mono (by omega) (by omega) fun _ h=>h,rfl⟩
  | succ i ih =>
    intro l;obtain ⟨a,b⟩:=ih (by omega);obtain ⟨o,c⟩:∃ o,ops[i]?=some o:=⟨_,List.getElem?_eq_getElem (by omega)⟩;have f:i<=15:=(by omega);have j:i * (16 * k+17)<=15 * (16 * k+17):=Nat.mul_le_mul_right _ f;have r:=a.step (N:=1000000) o (by omega) d g.2 (by omega) (e i o c) (by omega) (by omega) (hks o (List.mem_of_getElem? c));rw [zsd _ _ _ c];refine ⟨?_,by rw [zvy,b]⟩;have m:=r.2;have s:(i+1) * (16 * k+17)=i * (16 * k+17)+(16 * k+17):=(by rw [Nat.succ_mul]);rw [List.take_add_one,c];exact m.mono (by omega) (by omega) fun _ h=>h
 intro i l;refine ⟨key i l,fun o c=>?_⟩;obtain ⟨a,b⟩:=key i l;have n:=(List.getElem?_eq_some_iff.1 c).1;have j:i * (16 * k+17)<=15 * (16 * k+17):=Nat.mul_le_mul_right _ (by omega);exact (a.step (N:=1000000) o (by omega) d g.2 (by omega) (e i o c) (by omega) (by omega) (hks o (List.mem_of_getElem? c))).1.mono (by omega)
theorem Cpl.setRev {S:St} {D:Doc} (h:Cpl S D) (r:Int):Cpl { S with rev:=r } D :=
 ⟨h.mark,h.events,⟨h.inv.inj,h.inv.has,h.inv.hist⟩,h.ks,h.m0,h.lives⟩
def applyD (S:St) (D:Doc) (ops:List Opr):Doc:=D.adds (runR (D.rev+1) ⟨S,[],[]⟩ ops).E
theorem Good.apply {k:Nat} {S:St} {D:Doc} (h:Good k S D) (hk:k<=200) {ops:List Opr} (hc:checkE ops=0) (hks:∀ o∈ops,o.rg.key.size<=1099511627776):Good (k+1) (applyS S ops) (applyD S D ops):=by
 have e:=(zit hc).1;obtain ⟨⟨a,b⟩,_⟩:=h.runs hk hc hks ops.length (Nat.le_refl _);rw [List.take_length] at a;have d:ops.length * (16 * k+17)<=16 * (16 * k+17):=Nat.mul_le_mul_right _ e;have c:=Doc.adds_rev D (runR (D.rev+1) ⟨S,[],[]⟩ ops).E _ a.mods;have g:=h.rev;have j:=h.rev1;unfold applyS applyD;rw [g];dsimp only;by_cases hE:(runR (D.rev+1) ⟨S,[],[]⟩ ops).E = []
 · rw [if_pos hE]
   rw [if_pos hE] at c;exact { cpl:=a.cpl,doc:=a.doc.mono (by omega),ok:=a.ok.mono (by omega),size:=by have:=a.size;omega,srt:=a.srt,more:=a.more.mono (by omega),rev:=by rw [a.srev,c],rev1:=by rw [c];omega }
 rw [if_neg hE]
 rw [if_neg hE] at c;have f:=h.cpl.m0;exact { cpl:=a.cpl.setRev _,doc:=a.doc.mono (by omega),ok:=(a.ok.mono (by omega)).setRev _ (by unfold top;omega) (by unfold top;omega),size:=by have:=a.size;dsimp only;omega,srt:=a.srt,more:=fun i H hi=>a.more.mono (by omega) i H hi,rev:=c.symm,rev1:=by rw [c];omega }
theorem Doc.adds_at_old (D:Doc) (E:List Ev) {r:Int} (hE:∀ e∈E,r<e.kv.mod):(D.adds E).at r=D.at r:=by
 obtain ⟨a,b,c⟩:=Doc.adds_parts D E
 unfold Doc.at;rw [a,b,c,List.filter_append];have:(E.filter fun e=>decide (D.mark<e.kv.mod)&&decide (e.kv.mod<=r)) = []:=List.filter_eq_nil_iff.2 fun e he=>by have:=hE e he;simp;omega
 rw [this,List.append_nil]
end Go.Proofs.YtdgkdfmfoonbpaaGreat