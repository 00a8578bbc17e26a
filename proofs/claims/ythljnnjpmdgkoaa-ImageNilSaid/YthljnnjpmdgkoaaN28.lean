/- The store's Apply, where it does what it is asked: puts, deletes, gets of any kind. The condition: histories are small, the tree has room. -/
import Derived.Test.YthljnnjpmdgkoaaN23
import Derived.Test.YthljnnjpmdgkoaaN27
namespace Go.Proofs.Ythljnnjpmdgkoaa
open Go Go.Proofs Go.RowKit
set_option maxRecDepth 100000
theorem LayR.fr0 {TA:zan} {N:Nat} (hT:TreeOk TA N) {w w':World} {s sb vb ab:Nat} {S:St} {F:Nat->Prop} {ev:Value} {E:List Ev} {kind:Int} {kv:Value} {L:List Kv} {count:Int} {more:Bool}
 (h:LayR TA w s sb vb ab S F ev E kind kv L count more) (hf:Fr No w w'):LayR TA w' s sb vb ab S F ev E kind kv L count more :=
 { h with store:=h.store.fr0 hT hf,box:=h.box.fr hf id,evs:=h.evs.fr hf id,evl:=h.evl.fr0 hf,ans:=h.ans.fr hf id,kvl:=h.kvl.fr0 hf }
theorem zrh (rev:Int) (r:Run) (B:List Kv) {j:Nat} {x:Kv} (h:B[j]? = some x):delR rev r B (j+1)=goneR rev (delR rev r B j) x:=by
 unfold delR;rw [List.take_add_one,h,List.foldl_append]
 rfl
theorem zst (rev:Int) (r:Run) (B:List Kv):delR rev r B B.length=B.foldl (goneR rev) (r.S,[],r.E):=by
 unfold delR;rw [List.take_length]
set_option maxHeartbeats 4000000 in
theorem zrm {TA:zan} {N:Nat} (hT:TreeOk TA N) {n:Nat} (hn:n<=1099511627) (w:World) (s:Nat) (S:St) (F:Nat->Prop) (hS:zaj TA w s S F) (v:Value) (ops:List Opr) (hv:SlR w 10 opC v ops)
 (hvF:0 < ops.length->∀ b,v.ownBlock=some b->¬ F b) (hl:ops.length<=1099511627) (hks:∀ o∈ops,o.rg.key.size<=1099511627776) (hr0 : -top<=S.rev) (hr:S.rev < top) (hc:checkE ops=0) (hw:whenAll S ops=0)
 (hrun:∀ i o,ops[i]? = some o->StepG N n (S.rev+1) (runR (S.rev+1) ⟨S,[],[]⟩ (ops.take i)) o) :
 Calls Try.prog 41 #[.pointer (some ⟨s,0,none⟩),v] w fun e w'=>∃ av ev,e = .returned (.tuple #[av,ev,.int .i64 0])/\∃ F' Z,zaj TA w' s (applyS S ops) F'/\AnsR w' av Z ∧
  Z.map (·.1)=(runR (S.rev+1) ⟨S,[],[]⟩ ops).A/\SlF w' 73 13 evC ev (runR (S.rev+1) ⟨S,[],[]⟩ ops).E/\Fr F w w'/\(∀ b,F' b->F b\/w.heap.size<=b) ∧
  (∀ b,ev.ownBlock=some b->w.heap.size<=b/\¬ F' b)/\(∀ b,ansF av Z b->w.heap.size<=b/\¬ F' b):=by
 have hch:=fun W hv=>zii W v ops hv hl hks;rw [hc] at hch;obtain ⟨va,vcap,rfl,hc1,hc2,hva⟩:=hv.shape
 have hwh:∀ o∈ops,o.kind=3->whenE S o.rg.rev=0:=by
  intro o ho hk;unfold whenAll at hw
  cases hf:ops.find? (fun o=>o.kind == 3 && whenE S o.rg.rev != 0) with
  | none =>
    have:=List.find?_eq_none.1 hf o ho;simpa [hk] using this
  | some q =>
    rw [hf] at hw;have:=List.find?_some hf;simp at this;exact absurd hw this.2
 have HV:=H_ hv;have HVA:=H_ hva;have HVF:=H_ hvF;have HS:=H_ hS;have HCH:=H_ hch;have HWH:=H_ hwh;have HRUN:=H_ hrun;have HLS:=H_ (hS.lt hT)
 have hc3:∀ W,Fr No w W->W.cell? ⟨s,3,none⟩=some (.int .i64 S.rev):=fun W hW=>by
  obtain ⟨t,p,ev,hp,FT,FH,a,hF⟩:=hS;exact hW.cell0 (a.obj.cell 3 rfl)
 have HC3:=H_ hc3;clear hc3;have hmf:∀ (fn:Fn) (first cap:Array Value) (w:World),(Instr.makeFunc fn first cap).run Try.prog w = .ok (.func fn first cap) w:=fun _ _ _ _=>rfl;clear hv hva hvF hS hch hwh hrun hw hc hks;go_enter Try.func41,Try.ntmps41
 go_wp2_with (first
  | (go_at_call 20;refine (HCH.out _ (HV.out.alloc _)).mono ?_;rintro e w1 ⟨rfl,hf1⟩
     have hfA:Fr No w w1:=((Fr.refl No w).alloc _).trans0 hf1;have hbA:w1.heap[w.heap.size]? = some (.cells #[.pointer (some ⟨s,0,none⟩)] 44 (0,0)):=hf1.heap (zac _ _ _ rfl) id;have bA:w1.cell? ⟨w.heap.size,0,none⟩=some (.pointer (some ⟨s,0,none⟩)):=cellAt hbA 0 rfl))
 go_loopg [29] ops.length (fun g s29 wr=>∃ i:Nat,s29 = .int .i64 i/\i+g=ops.length/\Hid (Fr No w1 wr))
 case atStart=>exact ⟨0,rfl,by simp,H_ (Fr.refl No w1)⟩
 case round =>
  obtain ⟨i,rfl,hi,HF⟩:=hrel;have hfr:Fr No w wr:=hfA.trans0 HF.out;have bR:=HF.out.cell0 bA;have lbR:=World.block_lt_of_cell? _ _ bR
  cases gk with
  | zero =>
    have hil:¬ (i:Int) < (ops.length:Int):=(by omega);have HFR:=H_ hfr;clear hfr;have hr2:S.rev < 1099511627776:=hr;have hr3 : -1099511627776<=S.rev:=hr0
    go_wp2_with (go_at_call 73;refine (zol _ s S F (HS.out.fr0 hT HFR.out) _ hr).mono ?_;rintro e w2 ⟨rfl,hf2⟩
                 have bR2:=hf2.cell0 bR;have lbR2:=World.block_lt_of_cell? _ _ bR2;have c3R:=HC3.out _ (HFR.out.trans0 hf2);have lsR2:=World.block_lt_of_cell? _ _ c3R)
    have hf3:Fr No w (w2.alloc (Obj.cells #[.slice none 0 0] 34)):=(HFR.out.trans0 hf2).alloc _;have hsz2:w.heap.size < w2.heap.size:=lbR2;have hvb:=zac w2 (Obj.cells #[.slice none 0 0] 34) _ rfl;have hb3:(w2.alloc (Obj.cells #[.slice none 0 0] 34)).heap[w.heap.size]? = some (.cells #[.pointer (some ⟨s,0,none⟩)] 44 (0,0)):=((HF.out.trans0 hf2).alloc _).heap hbA id
    have hbase:LoopR TA w (w2.alloc (Obj.cells #[.slice none 0 0] 34)) s w.heap.size w2.heap.size F (runR (S.rev+1) ⟨S,[],[]⟩ (ops.take 0)) F (.slice none 0 0) (.slice none 0 0) []:={
     fr:=hf3.mono fun _ _ h=>h.elim
     store:=HS.out.fr0 hT hf3
     box:=⟨44,hb3⟩
     evs:=⟨34,hvb⟩
     evl:=SlF.nil _ _ _ _
     ans:=AnsR.nil _
     eqs:=rfl
     new:=fun b h=>.inl h
     old:=HLS.out
     sbn:=Nat.le_refl _
     vbn:=Nat.le_of_lt hsz2
     evn:=fun b h=>by simp [Value.ownBlock] at h
     ann:=fun b h=>by rcases h with h | ⟨_,_,h,_⟩ <;> simp [Value.ownBlock] at h
     f1:=fun h=>by have:=HLS.out _ h;omega
     f2:=fun h=>by have:=HLS.out _ h;omega
     f4:=fun b h=>by simp [Value.ownBlock] at h
     f5:=fun b h=>by rcases h with h | ⟨_,_,h,_⟩ <;> simp [Value.ownBlock] at h
     n1:=by omega
     e1:=by simp [Value.ownBlock]
     e2:=by simp [Value.ownBlock]
     k1:=fun h=>by rcases h with h | ⟨_,_,h,_⟩ <;> simp [Value.ownBlock] at h
     k2:=fun h=>by rcases h with h | ⟨_,_,h,_⟩ <;> simp [Value.ownBlock] at h
     ek:=fun b h=>by simp [Value.ownBlock] at h }
    have HBASE:=H_ hbase;clear hbase hf3 hvb hb3 bR2 c3R bR bA;generalize w2.heap.size=vb at *
    go_loopg [57,12] ops.length (fun g s57 s12 wr2=>∃ (i:Nat) (out:Value) (F1:Nat->Prop) (ev:Value) (Z:List (Ans × Value)),s57 = .int .i64 i/\s12=out/\i+g=ops.length ∧
     Hid (LoopR TA w wr2 s w.heap.size vb F (runR (S.rev+1) ⟨S,[],[]⟩ (ops.take i)) F1 ev out Z))
    case atStart=>exact ⟨0,_,F,_,[],rfl,rfl,by simp,HBASE⟩
    case round =>
     obtain ⟨i,out,F1,ev,Z,rfl,rfl,hi,HL⟩:=hrel
     cases gk with
     | zero =>
       have hil:¬ (i:Int) < (ops.length:Int):=(by omega);have hti:ops.take i=ops:=List.take_of_length_le (by omega);rw [hti] at HL;have hap:applyS S ops=if (runR (S.rev+1) ⟨S,[],[]⟩ ops).E = [] then (runR (S.rev+1) ⟨S,[],[]⟩ ops).S else { (runR (S.rev+1) ⟨S,[],[]⟩ ops).S with rev:=S.rev+1 }:=rfl;generalize hR:runR (S.rev+1) ⟨S,[],[]⟩ ops=r at *;have HR:=H_ hR;clear hR;obtain ⟨ea,ecap,rfl,hd1,hd2,hd3⟩:=HL.out.evl.shape;have v0:=HL.out.evs.cell 0 rfl;have b0:=HL.out.box.cell 0 rfl;have lv:=HL.out.evs.lt;have lb:=HL.out.box.lt;obtain ⟨t1,p1,ev1,hp1,FT1,FH1,a1,hF1⟩:=HL.out.store;have c3:=a1.obj.cell 3 rfl;have f3:=a1.obj.free 3;have ls:=a1.obj.lt;have HA1:=H_ a1;have HF1:=H_ hF1;have HAP:=H_ hap;clear a1 hF1 hap hd3;by_cases hE:r.E.length=0
       · have hEz:¬ (0:Int) < (r.E.length:Int):=by omega
         have HEN:=H_ (List.eq_nil_of_length_eq_zero hE);have HEL:=H_ hE;clear hE;go_wp2_with fail
         go_quiet (fail)
         have hq:=Fr.drewN No wr nq;generalize wr.drewN nq=WQ at hq ⊢
         go_wp2;go_ret3
         refine ⟨_,_,rfl,F1,Z,by rw [HAP.out,if_pos HEN.out];exact HL.out.store.fr0 hT hq,HL.out.ans.fr hq fun _ _ s=>s,by rw [HR.out];exact HL.out.eqs,by rw [HR.out];exact HL.out.evl.fr0 hq,HL.out.fr.trans0 hq,HL.out.new,
          fun b hb=>⟨HL.out.evn b hb,HL.out.f4 b hb⟩,fun b hb=>⟨HL.out.ann b hb,HL.out.f5 b hb⟩⟩
       have hEz:(0:Int) < (r.E.length:Int):=by omega
       have HEN:Hid (¬ r.E = []):=H_ (fun h=>hE (by rw [h];rfl));have hF1s:F1 s:=(HF1.out s).2 (.inl rfl);have hnsv:s≠vb:=fun e=>HL.out.f2 (e ▸ hF1s);clear hE;go_wp2_with fail;have v1:(wr.setCell ⟨s,3,none⟩ (.int .i64 (S.rev+1))).cell? ⟨vb,0,none⟩=some (.slice ea r.E.length ecap):=((Fr.refl (fun b=>b=s) wr).setAt 3 _).cell v0 (fun e=>hnsv e.symm);have hfs:Fr (fun b=>b=s) wr (wr.setCell ⟨s,3,none⟩ (.int .i64 (S.rev+1))):=(Fr.refl _ wr).setAt 3 _;have ho:=HA1.out.obj.set 3 (.int .i64 (S.rev+1));have hA2:=HA1.out.setObj hT hfs r.S.next (S.rev+1) r.S.mark ho;have hszs:=hfs.size;generalize wr.setCell ⟨s,3,none⟩ (.int .i64 (S.rev+1))=W1 at *;have lv1:vb < W1.heap.size:=(by omega);have HA2:=H_ hA2;have HFS:=H_ hfs;clear hA2 hfs ho v0 b0 c3 f3
       go_quiet (fail)
       have hq:=Fr.drewN No W1 nq;generalize W1.drewN nq=WQ at hq ⊢
       go_wp2;go_ret3;have hfe:Fr (fun b=>b=s) wr WQ:=HFS.out.trans0 hq;have hst:zaj TA WQ s { r.S with rev:=S.rev+1 } F1:=zaj.fr0 hT ⟨t1,p1,ev1,hp1,FT1,FH1,HA2.out,HF1.out⟩ hq
       refine ⟨_,_,rfl,F1,Z,by rw [HAP.out,if_neg HEN.out];exact hst,HL.out.ans.fr hfe fun b hb e=>HL.out.f5 b hb (by have e':b=s:=e;rw [e'];exact hF1s),by rw [HR.out];exact HL.out.eqs,
        by rw [HR.out];exact HL.out.evl.fr hfe fun b hb e=>HL.out.f4 b hb (by have e':b=s:=e;rw [e'];exact hF1s),HL.out.fr.trans hfe fun b hb e=>?_,HL.out.new,
        fun b hb=>⟨HL.out.evn b hb,HL.out.f4 b hb⟩,fun b hb=>⟨HL.out.ann b hb,HL.out.f5 b hb⟩⟩
       have e':b=s:=e;subst e';rcases HL.out.new b hF1s with h | h
       · exact h
       omega
     | succ g =>
       obtain ⟨gb,go,rfl⟩:=HVA.out (by omega);obtain ⟨p,hx⟩:∃ p,ops[i]? = some p:=⟨_,List.getElem?_eq_getElem (by omega)⟩;have hvr:=HV.out.fr HL.out.fr (HVF.out (by omega));have x0:=hvr.cell0 zad i hx rfl;have x1:=hvr.cell zad i 1 hx rfl;have x2:=hvr.cell zad i 2 hx rfl;have x3:=hvr.cell zad i 3 hx rfl;have x4:=hvr.cell zad i 4 hx rfl;have x5:=hvr.cell zad i 5 hx rfl;have x6:=hvr.cell zad i 6 hx rfl;have x7:=hvr.cell zad i 7 hx rfl;have x8:=hvr.cell zad i 8 hx rfl;have x9:=hvr.cell zad i 9 hx rfl;have hil:(i:Int) < (ops.length:Int):=(by omega)
       have hstep:runR (S.rev+1) ⟨S,[],[]⟩ (ops.take (i+1))=stepR (S.rev+1) (runR (S.rev+1) ⟨S,[],[]⟩ (ops.take i)) p:=by
        unfold runR;rw [List.take_add_one,hx,List.foldl_append]
        rfl
       have hok:=HRUN.out i p hx;have HST:=H_ hstep;have HOK:=H_ hok;generalize runR (S.rev+1) ⟨S,[],[]⟩ (ops.take i)=r at *;have b0:=HL.out.box.cell 0 rfl;have lb:=HL.out.box.lt;have lv:=HL.out.evs.lt;clear hx hvr hstep hok;obtain ⟨p1,⟨g1,g2,g3,g4,g5,g6,g7⟩,p2,p3⟩:=p;by_cases h1:p1=1
       · subst h1
         have hput:=HOK.out.put rfl;have hpu:=fun W hW=>zjj hT hn W s r.S F1 hW HOK.out.st ⟨1,⟨g1,g2,g3,g4,g5,g6,g7⟩,p2,p3⟩ (S.rev+1) hput.1 hput.2.1;unfold opV at hpu;have HPU:=H_ hpu;clear hpu;obtain ⟨i0,hi0,hz0,hz1,hz2⟩:=info_parts info90
         have hlZ:Z.length<=1099511627:=by
          have:=congrArg List.length HL.out.eqs;rw [List.length_map] at this;rw [this];exact HOK.out.ans
         go_wp2_with (first
          | (go_at_call 76;refine (HPU.out _ ((HL.out.store.fr0 hT ((Fr.refl No wr).alloc _)).fr0 hT ((Fr.refl No _).alloc _))).mono ?_;rintro e w4 ⟨rfl,hf4⟩
             have hfw:Fr No wr w4:=(((Fr.refl No wr).alloc _).alloc _).trans0 hf4;have hab:w4.heap[wr.heap.size+1]? = some (.cells #[.int .i64 1,.slice none 0 0,.int .i64 0,.bool false] 90 (0,0)):=hf4.heap (zac _ _ _ (by simp)) id
             have hlay:LayR TA w4 s w.heap.size vb (wr.heap.size+1) r.S F1 ev r.E 1 (.slice none 0 0) [] 0 false:={
              store:=HL.out.store.fr0 hT hfw
              box:=HL.out.box.fr hfw id
              evs:=HL.out.evs.fr hfw id
              evl:=HL.out.evl.fr0 hfw
              ans:=⟨90,hab⟩
              kvl:=SlF.nil _ _ _ _
              f1:=HL.out.f1
              f2:=HL.out.f2
              f3:=fun h=>by have:=HL.out.store.lt hT _ h;omega
              f4:=HL.out.f4
              f5:=fun b h=>by simp [Value.ownBlock] at h
              n1:=HL.out.n1
              n2:=by omega
              n3:=by omega
              e1:=HL.out.e1
              e2:=HL.out.e2
              e3:=fun h=>by have:=HL.out.evl.lt _ h;omega
              k1:=by simp [Value.ownBlock]
              k2:=by simp [Value.ownBlock]
              k3:=by simp [Value.ownBlock]
              ek:=fun b _=>by simp [Value.ownBlock] }
             have HLAY:=H_ hlay;have HFW:=H_ hfw;clear hlay hab hf4 hfw)
          | (go_at_call 74;refine (zlb hT hn w4 s w.heap.size vb (wr.heap.size+1) r.S F1 ev r.E 1 (.slice none 0 0) [] 0 false HLAY.out HOK.out.st (zaq r.S ⟨1,⟨g1,g2,g3,g4,g5,g6,g7⟩,p2,p3⟩ (S.rev+1)) hput.2.2 HOK.out.evs (by simp) (by omega) (by unfold top;omega)).mono ?_
             rintro e w5 ⟨⟨rv,rfl⟩,F2,ev2,kv2,hl5,hf5,hF2,hev2,hkv2⟩;have a0:=hl5.ans.cell 0 rfl;have a1:=hl5.ans.cell 1 rfl;have a2:=hl5.ans.cell 2 rfl;have a3:=hl5.ans.cell 3 rfl;have lab5:=hl5.ans.lt;have HL5:=H_ hl5;have HF5:=H_ hf5;have HF2:=H_ hF2;have HEV2:=H_ hev2;have HKV2:=H_ hkv2
             have hso:SlF w5 90 4 ansC _ Z:=(HL.out.ans.sl.fr0 HFW.out).fr hf5 (fun b hb h=>by
              rcases h with h | h | h | h | h
              · exact HL.out.f5 b (.inl hb) h
              · exact HL.out.k2 (.inl (h ▸ hb))
              · have:=HL.out.ans.lt b (.inl hb);omega
              · exact HL.out.ek b h (.inl hb)
              simp [Value.ownBlock] at h)
             have HSO:=H_ hso;have hnew:=zas w5 (ansC (⟨1,told (zaq r.S ⟨1,⟨g1,g2,g3,g4,g5,g6,g7⟩,p2,p3⟩ (S.rev+1)),(told (zaq r.S ⟨1,⟨g1,g2,g3,g4,g5,g6,g7⟩,p2,p3⟩ (S.rev+1))).length,false⟩,kv2)) 90 (0,0)
             have hk2c:kv2.oneCell'=true:=by
              obtain ⟨ka,kc,hkk,_⟩:=hl5.kvl.shape;rw [hkk];rfl
             clear hl5 hf5 hF2 hev2 hkv2 hso)
          | (at_builtin;refine zap rfl _ _ 33 rfl 90 i0 _ 4 48 Try.underlying33 hi0 hz0 hz1 hz2 rfl (by decide) _ Z rfl (HSO.out.alloc _) w5.heap.size 1 (⟨1,told (zaq r.S ⟨1,⟨g1,g2,g3,g4,g5,g6,g7⟩,p2,p3⟩ (S.rev+1)),(told (zaq r.S ⟨1,⟨g1,g2,g3,g4,g5,g6,g7⟩,p2,p3⟩ (S.rev+1))).length,false⟩,kv2) rfl hnew rfl ?c1 ?c2 ?c3 ?_))
         case c1=>intro u hu;simp [ansC] at hu;rcases hu with rfl | rfl | rfl | rfl <;> first | exact hk2c | rfl
         case c2=>unfold maxLen;omega
         case c3=>omega
         intro g7' o7 cap7 w6 hs6 hg6 hb6 hlt6;go_wp2;go_roundg g
         case rel =>
          have hsw:=HFW.out.size;have hs5:=HF5.out.size;refine ⟨i+1,_,F2,ev2,Z++[(⟨1,told (zaq r.S ⟨1,⟨g1,g2,g3,g4,g5,g6,g7⟩,p2,p3⟩ (S.rev+1)),(told (zaq r.S ⟨1,⟨g1,g2,g3,g4,g5,g6,g7⟩,p2,p3⟩ (S.rev+1))).length,false⟩,kv2)],by go_num,rfl,by omega,H_ ?_⟩;have hs1:stepR (S.rev+1) r ⟨1,⟨g1,g2,g3,g4,g5,g6,g7⟩,p2,p3⟩=⟨doS r.S (zaq r.S ⟨1,⟨g1,g2,g3,g4,g5,g6,g7⟩,p2,p3⟩ (S.rev+1)),r.A++[⟨1,told (zaq r.S ⟨1,⟨g1,g2,g3,g4,g5,g6,g7⟩,p2,p3⟩ (S.rev+1)),(told (zaq r.S ⟨1,⟨g1,g2,g3,g4,g5,g6,g7⟩,p2,p3⟩ (S.rev+1))).length,false⟩],r.E++[(zaq r.S ⟨1,⟨g1,g2,g3,g4,g5,g6,g7⟩,p2,p3⟩ (S.rev+1))]⟩:=(by unfold stepR;rw [if_pos rfl]);rw [HST.out,hs1]
          refine LoopR.next hT HL.out (w5:=w5) (kv:=kv2) (X:=fun b=>F1 b\/b=vb\/b=wr.heap.size+1\/ev.ownBlock=some b) (a:=⟨1,told (zaq r.S ⟨1,⟨g1,g2,g3,g4,g5,g6,g7⟩,p2,p3⟩ (S.rev+1)),(told (zaq r.S ⟨1,⟨g1,g2,g3,g4,g5,g6,g7⟩,p2,p3⟩ (S.rev+1))).length,false⟩)
           HL5.out.store HL5.out.box HL5.out.evs HL5.out.evl (by simpa using HL5.out.kvl) ((HFW.out.mono fun _ _ h=>h.elim).trans HF5.out fun b hb h=>?_) (fun b hb h=>?_)
           (fun b hb=>?_) (fun b hb=>?_) (fun b hb=>?_) HL5.out.f4 HL5.out.f5 HL5.out.ek (((Fr.refl _ w5).alloc _).grown hg6 fun k hk=>.inl hk) hs6 (fun b hb=>?_)
          · rcases h with h | h | h | h | h
            · exact .inl h
            · exact .inr (.inl h)
            · exact .inr (.inr (.inl h))
            · exact .inr (.inr (.inr h))
            simp [Value.ownBlock] at h
          · rcases h with h | h | h | h
            · exact .inl h
            · exact .inr (.inl h)
            · omega
            exact .inr (.inr h)
          · rcases HF2.out b hb with h | h
            · exact .inl h
            exact .inr (by omega)
          · rcases HEV2.out b hb with h | h
            · exact .inl h
            exact .inr (by omega)
          · rcases HKV2.out b hb with h | h
            · simp [Value.ownBlock] at h
            omega
          obtain rfl:g7'=b:=by simpa [Value.ownBlock] using hb
          rcases hb6 with h | h
          · exact .inl h
          right
          have h':g7'=w5.heap.size+1:=(by simpa using h);omega
         case measure=>omega
       have h1':(p1 == 1)=false:=by simpa using h1
       by_cases hdel:p1=2
       · subst hdel
         obtain ⟨wo,hwo⟩:∃ wo,wo=wr:=⟨_,rfl⟩;subst hwo;obtain ⟨i0,hi0,hz0,hz1,hz2⟩:=info_parts info90
         have hlZ:Z.length<=1099511627:=by
          have:=congrArg List.length HL.out.eqs;rw [List.length_map] at this;rw [this];exact HOK.out.ans
         have hdl:=HOK.out.dlen;have hde:=HOK.out.del rfl;have hbt:=fun W hW=>zfh hT hn W s r.S F1 hW HOK.out.st HOK.out.tree g1 g2 (S.rev+1) HOK.out.key
         have hs2:stepR (S.rev+1) r ⟨2,⟨g1,g2,g3,g4,g5,g6,g7⟩,p2,p3⟩=⟨((zat r.S g1 g2 (S.rev+1)).foldl (goneR (S.rev+1)) (r.S,[],r.E)).1,r.A++[⟨2,((zat r.S g1 g2 (S.rev+1)).foldl (goneR (S.rev+1)) (r.S,[],r.E)).2.1,((zat r.S g1 g2 (S.rev+1)).foldl (goneR (S.rev+1)) (r.S,[],r.E)).2.1.length,false⟩],((zat r.S g1 g2 (S.rev+1)).foldl (goneR (S.rev+1)) (r.S,[],r.E)).2.2⟩:=by
          unfold stepR;rw [if_neg (show ¬ (2:Int)=1 by decide),if_pos rfl]
         rw [<-zst] at hs2;dsimp only at hdl hde;generalize zat r.S g1 g2 (S.rev+1)=B at *;have HBT:=H_ hbt;have HDE:=H_ hde;have HS2:=H_ hs2;clear hbt hde hs2
         go_wp2_with (go_at_call 77;refine (HBT.out _ ((HL.out.store.fr0 hT ((Fr.refl No wo).alloc _)).fr0 hT ((Fr.refl No _).alloc _))).mono ?_;rintro e w4 ⟨bv,rfl,hbv,hf4,hbn⟩
                      obtain ⟨ba,bcap,rfl,hb1,hb2,hb3⟩:=hbv.shape;have hfw:Fr No wo w4:=(((Fr.refl No wo).alloc _).alloc _).trans0 hf4;have hab:w4.heap[wo.heap.size+1]? = some (.cells #[.int .i64 2,.slice none 0 0,.int .i64 0,.bool false] 90 (0,0)):=hf4.heap (zac _ _ _ (by simp)) id;have hsz4:wo.heap.size+2<=w4.heap.size:=(by have:=hf4.size;simp at this;omega);have hbn':∀ b,(Value.slice ba B.length bcap).ownBlock=some b->wo.heap.size+2<=b:=fun b hb=>by have:=hbn b hb;simp at this;omega
                      have hlay:LayR TA w4 s w.heap.size vb (wo.heap.size+1) (delR (S.rev+1) r B 0).1 F1 ev (delR (S.rev+1) r B 0).2.2 2 (.slice none 0 0) (delR (S.rev+1) r B 0).2.1 ((delR (S.rev+1) r B 0).2.1.length:Nat) false:={
                       store:=HL.out.store.fr0 hT hfw
                       box:=HL.out.box.fr hfw id
                       evs:=HL.out.evs.fr hfw id
                       evl:=HL.out.evl.fr0 hfw
                       ans:=⟨90,hab⟩
                       kvl:=SlF.nil _ _ _ _
                       f1:=HL.out.f1
                       f2:=HL.out.f2
                       f3:=fun h=>by have:=HL.out.store.lt hT _ h;omega
                       f4:=HL.out.f4
                       f5:=fun b h=>by simp [Value.ownBlock] at h
                       n1:=HL.out.n1
                       n2:=by omega
                       n3:=by omega
                       e1:=HL.out.e1
                       e2:=HL.out.e2
                       e3:=fun h=>by have:=HL.out.evl.lt _ h;omega
                       k1:=by simp [Value.ownBlock]
                       k2:=by simp [Value.ownBlock]
                       k3:=by simp [Value.ownBlock]
                       ek:=fun b _=>by simp [Value.ownBlock] }
                      have HLAY:=H_ hlay;have HFW:=H_ hfw;have HBV:=H_ hbv;have HBN:=H_ hbn';have HB3:=H_ hb3;clear hlay hab hf4 hfw hbv hbn hbn' hb3)
         go_loopg [86] B.length (fun g2' s86 wr=>∃ j:Nat,s86 = .int .i64 j/\j+g2'=B.length/\Hid (∃ F2 ev2 kv2,LayR TA wr s w.heap.size vb (wo.heap.size+1) (delR (S.rev+1) r B j).1 F2 ev2 (delR (S.rev+1) r B j).2.2 2 kv2 (delR (S.rev+1) r B j).2.1 ((delR (S.rev+1) r B j).2.1.length:Nat) false ∧
          Fr (fun b=>F1 b\/b=vb\/b=wo.heap.size+1\/ev.ownBlock=some b) w4 wr/\(∀ b,F2 b->F1 b\/w4.heap.size<=b)/\(∀ b,ev2.ownBlock=some b->ev.ownBlock=some b\/w4.heap.size<=b)/\(∀ b,kv2.ownBlock=some b->w4.heap.size<=b)))
         case atStart=>exact ⟨0,rfl,by simp,H_ ⟨F1,ev,_,HLAY.out,Fr.refl _ _,fun b h=>.inl h,fun b h=>.inl h,fun b h=>by simp [Value.ownBlock] at h⟩⟩
         case round =>
          obtain ⟨j,rfl,hj,HQ⟩:=hrel
          cases gk with
          | zero =>
            have hjl:¬ (j:Int) < (B.length:Int):=(by omega);have hjB:j=B.length:=(by omega);subst hjB;obtain ⟨F2,ev2,kv2,hl5,hf5,hF2,hev2,hkv2⟩:=HQ.out;generalize delR (S.rev+1) r B B.length=q at *;have a0:=hl5.ans.cell 0 rfl;have a1:=hl5.ans.cell 1 rfl;have a2:=hl5.ans.cell 2 rfl;have a3:=hl5.ans.cell 3 rfl;have lab5:=hl5.ans.lt;have hlan:=HL.out.ans.lt
            have hso:SlF wr 90 4 ansC _ Z:=(HL.out.ans.sl.fr0 HFW.out).fr hf5 (fun b hb h=>by
             rcases h with h | h | h | h
             · exact HL.out.f5 b (.inl hb) h
             · exact HL.out.k2 (.inl (h ▸ hb))
             · have:=hlan b (.inl hb);omega
             exact HL.out.ek b h (.inl hb))
            have HSO:=H_ hso;have hnew:=zas wr (ansC (⟨2,q.2.1,q.2.1.length,false⟩,kv2)) 90 (0,0)
            have hk2c:kv2.oneCell'=true:=by
             obtain ⟨ka,kc,hkk,_⟩:=hl5.kvl.shape;rw [hkk];rfl
            have HL5:=H_ hl5;have HF5:=H_ hf5;have HF2:=H_ hF2;have HEV2:=H_ hev2;have HKV2:=H_ hkv2;clear hl5 hf5 hF2 hev2 hkv2 hso;go_wp2_with (at_builtin;refine zap rfl _ _ 33 rfl 90 i0 _ 4 48 Try.underlying33 hi0 hz0 hz1 hz2 rfl (by decide) _ Z rfl (HSO.out.alloc _) wr.heap.size 1 (⟨2,q.2.1,q.2.1.length,false⟩,kv2) rfl hnew rfl ?c1 ?c2 ?c3 ?_)
            case c1=>intro u hu;simp [ansC] at hu;rcases hu with rfl | rfl | rfl | rfl <;> first | exact hk2c | rfl
            case c2=>unfold maxLen;omega
            case c3=>omega
            intro g7' o7 cap7 w6 hs6 hg6 hb6 hlt6;go_wp2;go_roundg g
            case rel =>
             have hsw:=HFW.out.size;have hs5:=HF5.out.size;refine ⟨i+1,_,F2,ev2,Z++[(⟨2,q.2.1,q.2.1.length,false⟩,kv2)],by go_num,rfl,by omega,H_ ?_⟩;rw [HST.out,HS2.out]
             refine LoopR.next hT HL.out (w5:=wr) (kv:=kv2) (X:=fun b=>F1 b\/b=vb\/b=wo.heap.size+1\/ev.ownBlock=some b) (a:=⟨2,q.2.1,q.2.1.length,false⟩)
              HL5.out.store HL5.out.box HL5.out.evs HL5.out.evl HL5.out.kvl ((HFW.out.mono fun _ _ h=>h.elim).trans HF5.out fun b hb h=>h) (fun b hb h=>?_)
              (fun b hb=>?_) (fun b hb=>?_) (fun b hb=>?_) HL5.out.f4 HL5.out.f5 HL5.out.ek (((Fr.refl _ wr).alloc _).grown hg6 fun k hk=>.inl hk) hs6 (fun b hb=>?_)
             · rcases h with h | h | h | h
               · exact .inl h
               · exact .inr (.inl h)
               · omega
               exact .inr (.inr h)
             · rcases HF2.out b hb with h | h
               · exact .inl h
               exact .inr (by omega)
             · rcases HEV2.out b hb with h | h
               · exact .inl h
               exact .inr (by omega)
             · have:=HKV2.out b hb
               omega
             obtain rfl:g7'=b:=by simpa [Value.ownBlock] using hb
             rcases hb6 with h | h
             · exact .inl h
             right
             have h':g7'=wr.heap.size+1:=(by simpa using h);omega
            case measure=>omega
          | succ g2' =>
            have hjl:(j:Int) < (B.length:Int):=(by omega);obtain ⟨bb,bo,rfl⟩:=HB3.out (by omega);obtain ⟨x,hx⟩:∃ x,B[j]? = some x:=⟨_,List.getElem?_eq_getElem (by omega)⟩;obtain ⟨F2,ev2,kv2,hl5,hf5,hF2,hev2,hkv2⟩:=HQ.out;obtain ⟨d1,d2,d3,d4⟩:=HDE.out j x hx;have hds:=zrh (S.rev+1) r B hx;generalize delR (S.rev+1) r B j=q at *;have lst:=HL.out.store.lt hT;have lev:=HL.out.evl.lt
            have hbvq:=HBV.out.fr hf5 (fun b hb h=>by
             have h1:=HBN.out b hb;rcases h with h | h | h | h
             · have:=lst b h;omega
             · omega
             · omega
             have:=lev b h;omega)
            have y0:=hbvq.cell0 zag j hx rfl;have y1:=hbvq.cell zag j 1 hx rfl;have y2:=hbvq.cell zag j 2 hx rfl;have y3:=hbvq.cell zag j 3 hx rfl;have y4:=hbvq.cell zag j 4 hx rfl;have y5:=hbvq.cell zag j 5 hx rfl;have hla:=fun W (h:Fr No wr W)=>zlb hT hn W s w.heap.size vb (wo.heap.size+1) q.1 F2 ev2 q.2.2 2 kv2 q.2.1 (q.2.1.length:Nat) false (hl5.fr0 hT h) d1 (goneE x (S.rev+1)) d2 d4 d3 (by omega) (by unfold top;omega);have hcast:((q.2.1.length:Nat):Int)+((told (goneE x (S.rev+1))).length:Nat)=((q.2.1++told (goneE x (S.rev+1))).length:Nat):=(by rw [List.length_append];omega);have HLA:=H_ hla;have HQ5:=H_ hf5;have HQF:=H_ hF2;have HQE:=H_ hev2;have HQK:=H_ hkv2;have HDS:=H_ hds;have HCA:=H_ hcast;clear hla hl5 hf5 hF2 hev2 hkv2 hds hcast hx d1 d2 d3 d4 hbvq;obtain ⟨x1,x2,x3,x4,x5,x6⟩:=x
            dsimp only at y0 y1 y2 y3 y4 y5
            go_wp2_with (go_at_call 74;refine (HLA.out _ ((Fr.refl No wr).alloc _)).mono ?_
                         rintro e w5 ⟨⟨rv,rfl⟩,F3,ev3,kv3,hl6,hf6,hF3,hev3,hkv3⟩;have HL6:=H_ hl6;have HF6:=H_ hf6;have HF3:=H_ hF3;have HEV3:=H_ hev3;have HKV3:=H_ hkv3;clear hl6 hf6 hF3 hev3 hkv3)
            go_roundg g2'
            case rel =>
             have hszq:=HQ5.out.size;refine ⟨j+1,by go_num,by omega,H_ ⟨F3,ev3,kv3,?_,?_,fun b hb=>?_,fun b hb=>?_,fun b hb=>?_⟩⟩
             · rw [HDS.out]
               have h6:=HL6.out;rw [HCA.out] at h6;exact h6
             · refine ((HQ5.out.alloc _).trans HF6.out fun b hb h=>?_)
               rcases h with h | h | h | h | h
               · rcases HQF.out b h with h | h
                 · exact .inl h
                 omega
               · exact .inr (.inl h)
               · exact .inr (.inr (.inl h))
               · rcases HQE.out b h with h | h
                 · exact .inr (.inr (.inr h))
                 omega
               have:=HQK.out b h;omega
             · rcases HF3.out b hb with h | h
               · exact HQF.out b h
               simp at h;exact .inr (by omega)
             · rcases HEV3.out b hb with h | h
               · exact HQE.out b h
               simp at h;exact .inr (by omega)
             rcases HKV3.out b hb with h | h
             · exact HQK.out b h
             simp at h;omega
            case measure=>omega
       have h2':(p1 == 2)=false:=(by simpa using hdel);obtain ⟨i0,hi0,hz0,hz1,hz2⟩:=info_parts info90
       have hlZ:Z.length<=1099511627:=by
        have:=congrArg List.length HL.out.eqs;rw [List.length_map] at this;rw [this];exact HOK.out.ans
       by_cases h3:p1=3
       · subst h3
         have hge:=fun W hW=>zld hT hn W s r.S F1 hW HOK.out.st HOK.out.tree ⟨g1,g2,g3,g4,g5,g6,g7⟩ (S.rev+1) HOK.out.key;unfold rgV at hge;have HGE:=H_ hge;clear hge
         go_upto_region 35 with (first
          | (go_at_call 66;refine (HGE.out _ ((HL.out.store.fr0 hT ((Fr.refl No wr).alloc _)).fr0 hT ((Fr.refl No _).alloc _))).mono ?_;rintro e w4 ⟨gv,rfl,hgv,hf4,hgn⟩
             have hfw:Fr No wr w4:=(((Fr.refl No wr).alloc _).alloc _).trans0 hf4;have hab:w4.heap[wr.heap.size+1]? = some (.cells #[.int .i64 3,.slice none 0 0,.int .i64 0,.bool false] 90 (0,0)):=hf4.heap (zac _ _ _ (by simp)) id;obtain ⟨q0,q1,q2,q3⟩:=cells4 hab;have qf:∀ i,w4.frozen? ⟨wr.heap.size+1,i,none⟩=false:=fun i=>by simp [World.frozen?,hab]
             have lq:=zab hab;obtain ⟨ga,gcap,rfl,hgc1,hgc2,hgc3⟩:=hgv.shape;have HGV:=H_ hgv;clear hgv hgc3))
         have hsa:Has (((w4.setCell ⟨wr.heap.size+1,1,none⟩ (.slice ga (getL r.S ⟨g1,g2,g3,g4,g5,g6,g7⟩ (S.rev+1)).length gcap)).setCell ⟨wr.heap.size+1,2,none⟩ (.int .i64 (allL r.S ⟨g1,g2,g3,g4,g5,g6,g7⟩ (S.rev+1)).length)).setCell ⟨wr.heap.size+1,3,none⟩ (.bool (moreB r.S ⟨g1,g2,g3,g4,g5,g6,g7⟩ (S.rev+1)))) (wr.heap.size+1) [.int .i64 3,.slice ga (getL r.S ⟨g1,g2,g3,g4,g5,g6,g7⟩ (S.rev+1)).length gcap,.int .i64 (allL r.S ⟨g1,g2,g3,g4,g5,g6,g7⟩ (S.rev+1)).length,.bool (moreB r.S ⟨g1,g2,g3,g4,g5,g6,g7⟩ (S.rev+1))] :=
          ((Has.set (cs:=[.int .i64 3,.slice none 0 0,.int .i64 0,.bool false]) ⟨90,hab⟩ 1 (.slice ga (getL r.S ⟨g1,g2,g3,g4,g5,g6,g7⟩ (S.rev+1)).length gcap)).set 2 (.int .i64 (allL r.S ⟨g1,g2,g3,g4,g5,g6,g7⟩ (S.rev+1)).length)).set 3 (.bool (moreB r.S ⟨g1,g2,g3,g4,g5,g6,g7⟩ (S.rev+1)))
         have hfs:Fr (fun b=>b=wr.heap.size+1) w4 (((w4.setCell ⟨wr.heap.size+1,1,none⟩ (.slice ga (getL r.S ⟨g1,g2,g3,g4,g5,g6,g7⟩ (S.rev+1)).length gcap)).setCell ⟨wr.heap.size+1,2,none⟩ (.int .i64 (allL r.S ⟨g1,g2,g3,g4,g5,g6,g7⟩ (S.rev+1)).length)).setCell ⟨wr.heap.size+1,3,none⟩ (.bool (moreB r.S ⟨g1,g2,g3,g4,g5,g6,g7⟩ (S.rev+1)))):=(((Fr.refl _ w4).setAt 1 _).setAt 2 _).setAt 3 _;generalize (((w4.setCell ⟨wr.heap.size+1,1,none⟩ (.slice ga (getL r.S ⟨g1,g2,g3,g4,g5,g6,g7⟩ (S.rev+1)).length gcap)).setCell ⟨wr.heap.size+1,2,none⟩ (.int .i64 (allL r.S ⟨g1,g2,g3,g4,g5,g6,g7⟩ (S.rev+1)).length)).setCell ⟨wr.heap.size+1,3,none⟩ (.bool (moreB r.S ⟨g1,g2,g3,g4,g5,g6,g7⟩ (S.rev+1))))=W5 at hsa hfs ⊢
         have lst:=HL.out.store.lt hT;have lan:=HL.out.ans.lt;have lev:=HL.out.evl.lt;have hgl:=HGV.out.lt;have hw5:Fr (fun b=>b=wr.heap.size+1) wr W5:=(hfw.mono fun _ _ h=>h.elim).trans hfs fun _ _ h=>h;have hgn':∀ b,(Value.slice ga (getL r.S ⟨g1,g2,g3,g4,g5,g6,g7⟩ (S.rev+1)).length gcap).ownBlock=some b->wr.heap.size+2<=b:=fun b hb=>by have:=hgn b hb;simp at this;omega
         have a0:=hsa.cell 0 rfl;have a1:=hsa.cell 1 rfl;have a2:=hsa.cell 2 rfl;have a3:=hsa.cell 3 rfl;have lab5:=hsa.lt;have HSO:=H_ (HL.out.ans.sl.fr hw5 fun b hb e=>by have e':b=wr.heap.size+1:=e;have:=lan b (.inl hb);omega);have hnew:=zas W5 (ansC (⟨3,(getL r.S ⟨g1,g2,g3,g4,g5,g6,g7⟩ (S.rev+1)),(allL r.S ⟨g1,g2,g3,g4,g5,g6,g7⟩ (S.rev+1)).length,(moreB r.S ⟨g1,g2,g3,g4,g5,g6,g7⟩ (S.rev+1))⟩,.slice ga (getL r.S ⟨g1,g2,g3,g4,g5,g6,g7⟩ (S.rev+1)).length gcap)) 90 (0,0);have HW5:=H_ hw5;have HSA:=H_ hsa;have HKV:=H_ (HGV.out.fr hfs fun b hb e=>by have e':b=wr.heap.size+1:=e;have:=hgn' b hb;omega);clear hfs hsa hw5 q0 q1 q2 q3 qf hab hfw hf4 hgl
         go_wp2_with (at_builtin;refine zap rfl _ _ 33 rfl 90 i0 _ 4 48 Try.underlying33 hi0 hz0 hz1 hz2 rfl (by decide) _ Z rfl (HSO.out.alloc _) W5.heap.size 1 (⟨3,(getL r.S ⟨g1,g2,g3,g4,g5,g6,g7⟩ (S.rev+1)),(allL r.S ⟨g1,g2,g3,g4,g5,g6,g7⟩ (S.rev+1)).length,(moreB r.S ⟨g1,g2,g3,g4,g5,g6,g7⟩ (S.rev+1))⟩,.slice ga (getL r.S ⟨g1,g2,g3,g4,g5,g6,g7⟩ (S.rev+1)).length gcap) rfl hnew rfl ?c1 ?c2 ?c3 ?_)
         case c1=>intro u hu;simp [ansC] at hu;rcases hu with rfl | rfl | rfl | rfl <;> rfl
         case c2=>unfold maxLen;omega
         case c3=>omega
         intro g7' o7 cap7 w6 hs6 hg6 hb6 hlt6;go_wp2;go_roundg g
         case rel =>
          have hsw:=HW5.out.size;refine ⟨i+1,_,F1,ev,Z++[(⟨3,(getL r.S ⟨g1,g2,g3,g4,g5,g6,g7⟩ (S.rev+1)),(allL r.S ⟨g1,g2,g3,g4,g5,g6,g7⟩ (S.rev+1)).length,(moreB r.S ⟨g1,g2,g3,g4,g5,g6,g7⟩ (S.rev+1))⟩,.slice ga (getL r.S ⟨g1,g2,g3,g4,g5,g6,g7⟩ (S.rev+1)).length gcap)],by go_num,rfl,by omega,H_ ?_⟩;have hs1:stepR (S.rev+1) r ⟨3,⟨g1,g2,g3,g4,g5,g6,g7⟩,p2,p3⟩=⟨r.S,r.A++[⟨3,(getL r.S ⟨g1,g2,g3,g4,g5,g6,g7⟩ (S.rev+1)),(allL r.S ⟨g1,g2,g3,g4,g5,g6,g7⟩ (S.rev+1)).length,(moreB r.S ⟨g1,g2,g3,g4,g5,g6,g7⟩ (S.rev+1))⟩],r.E⟩:=(by unfold stepR;rw [if_neg (show ¬ (3:Int)=1 by decide),if_neg (show ¬ (3:Int)=2 by decide),if_pos rfl]);rw [HST.out,hs1]
          refine LoopR.next hT HL.out (w5:=W5) (kv:=.slice ga (getL r.S ⟨g1,g2,g3,g4,g5,g6,g7⟩ (S.rev+1)).length gcap) (X:=fun b=>b=wr.heap.size+1) (a:=⟨3,(getL r.S ⟨g1,g2,g3,g4,g5,g6,g7⟩ (S.rev+1)),(allL r.S ⟨g1,g2,g3,g4,g5,g6,g7⟩ (S.rev+1)).length,(moreB r.S ⟨g1,g2,g3,g4,g5,g6,g7⟩ (S.rev+1))⟩)
           (HL.out.store.fr hT HW5.out fun b hb e=>?_) (HL.out.box.fr HW5.out fun e=>?_) (HL.out.evs.fr HW5.out fun e=>?_) (HL.out.evl.fr HW5.out fun b hb e=>?_) HKV.out HW5.out (fun b hb h=>?_)
           (fun b hb=>.inl hb) (fun b hb=>.inl hb) (fun b hb=>by have:=hgn' b hb;omega) HL.out.f4 (fun b hb h=>by have:=hgn' b hb;have:=lst b h;omega) (fun b hb h=>by have:=hgn' b h;have:=lev b hb;omega) (((Fr.refl _ W5).alloc _).grown hg6 fun k hk=>.inl hk) hs6 (fun b hb=>?_)
          · have:=lst b hb
            have e':b=wr.heap.size+1:=e;omega
          · have e':w.heap.size=wr.heap.size+1:=e
            omega
          · have e':vb=wr.heap.size+1:=e
            omega
          · have:=lev b hb
            have e':b=wr.heap.size+1:=e;omega
          · have e':b=wr.heap.size+1:=h
            omega
          obtain rfl:g7'=b:=by simpa [Value.ownBlock] using hb
          rcases hb6 with h | h
          · exact .inl h
          right
          have h':g7'=W5.heap.size+1:=(by simpa using h);omega
         case measure=>omega
       have h3':(p1 == 3)=false:=by simpa using h3
       go_upto_region 35 with fail
       have hsa:Has ((wr.alloc (Obj.cells #[.int .i64 p1,.string g1,.string g2,.int .i64 g3,.int .i64 g4,.bool g5,.bool g6,.bool g7,.string p2,.int .i64 p3] 87)).alloc (Obj.cells #[.int .i64 p1,.slice none 0 0,.int .i64 0,.bool false] 90)) (wr.heap.size+1) [.int .i64 p1,.slice none 0 0,.int .i64 0,.bool false]:=⟨90,zac _ _ _ (by simp)⟩;have hw5:Fr (fun b=>b=wr.heap.size+1) wr ((wr.alloc (Obj.cells #[.int .i64 p1,.string g1,.string g2,.int .i64 g3,.int .i64 g4,.bool g5,.bool g6,.bool g7,.string p2,.int .i64 p3] 87)).alloc (Obj.cells #[.int .i64 p1,.slice none 0 0,.int .i64 0,.bool false] 90)):=((Fr.refl _ wr).alloc _).alloc _
       generalize (wr.alloc (Obj.cells #[.int .i64 p1,.string g1,.string g2,.int .i64 g3,.int .i64 g4,.bool g5,.bool g6,.bool g7,.string p2,.int .i64 p3] 87)).alloc (Obj.cells #[.int .i64 p1,.slice none 0 0,.int .i64 0,.bool false] 90)=W5 at hsa hw5 ⊢
       have lst:=HL.out.store.lt hT;have lan:=HL.out.ans.lt;have lev:=HL.out.evl.lt;have a0:=hsa.cell 0 rfl;have a1:=hsa.cell 1 rfl;have a2:=hsa.cell 2 rfl;have a3:=hsa.cell 3 rfl;have lab5:=hsa.lt;have HSO:=H_ (HL.out.ans.sl.fr hw5 fun b hb e=>by have e':b=wr.heap.size+1:=e;have:=lan b (.inl hb);omega);have hnew:=zas W5 (ansC (⟨p1,[],0,false⟩,.slice none 0 0)) 90 (0,0);have HW5:=H_ hw5;clear hsa hw5;go_wp2_with (at_builtin;refine zap rfl _ _ 33 rfl 90 i0 _ 4 48 Try.underlying33 hi0 hz0 hz1 hz2 rfl (by decide) _ Z rfl (HSO.out.alloc _) W5.heap.size 1 (⟨p1,[],0,false⟩,.slice none 0 0) rfl hnew rfl ?c1 ?c2 ?c3 ?_)
       case c1=>intro u hu;simp [ansC] at hu;rcases hu with rfl | rfl | rfl | rfl <;> rfl
       case c2=>unfold maxLen;omega
       case c3=>omega
       intro g7' o7 cap7 w6 hs6 hg6 hb6 hlt6;go_wp2;go_roundg g
       case rel =>
        have hsw:=HW5.out.size;refine ⟨i+1,_,F1,ev,Z++[(⟨p1,[],0,false⟩,.slice none 0 0)],by go_num,rfl,by omega,H_ ?_⟩;have hs1:stepR (S.rev+1) r ⟨p1,⟨g1,g2,g3,g4,g5,g6,g7⟩,p2,p3⟩=⟨r.S,r.A++[⟨p1,[],0,false⟩],r.E⟩:=(by unfold stepR;rw [if_neg h1,if_neg hdel,if_neg h3]);rw [HST.out,hs1]
        refine LoopR.next hT HL.out (w5:=W5) (kv:=.slice none 0 0) (X:=fun b=>b=wr.heap.size+1) (a:=⟨p1,[],0,false⟩)
         (HL.out.store.fr hT HW5.out fun b hb e=>?_) (HL.out.box.fr HW5.out fun e=>?_) (HL.out.evs.fr HW5.out fun e=>?_) (HL.out.evl.fr HW5.out fun b hb e=>?_) (SlF.nil _ _ _ _) HW5.out (fun b hb h=>?_)
         (fun b hb=>.inl hb) (fun b hb=>.inl hb) (fun b hb=>by simp [Value.ownBlock] at hb) HL.out.f4 (fun b hb h=>by simp [Value.ownBlock] at hb) (fun b hb h=>by simp [Value.ownBlock] at h) (((Fr.refl _ W5).alloc _).grown hg6 fun k hk=>.inl hk) hs6 (fun b hb=>?_)
        · have:=lst b hb
          have e':b=wr.heap.size+1:=e;omega
        · have e':w.heap.size=wr.heap.size+1:=e
          omega
        · have e':vb=wr.heap.size+1:=e
          omega
        · have:=lev b hb
          have e':b=wr.heap.size+1:=e;omega
        · have e':b=wr.heap.size+1:=h
          omega
        obtain rfl:g7'=b:=by simpa [Value.ownBlock] using hb
        rcases hb6 with h | h
        · exact .inl h
        right
        have h':g7'=W5.heap.size+1:=(by simpa using h);omega
       case measure=>omega
  | succ g =>
    obtain ⟨gb,go,rfl⟩:=HVA.out (by omega);obtain ⟨p,hx⟩:∃ p,ops[i]? = some p:=⟨_,List.getElem?_eq_getElem (by omega)⟩;have hvr:=HV.out.fr0 hfr;have x0:=hvr.cell0 zad i hx rfl;have x1:=hvr.cell zad i 1 hx rfl;have x2:=hvr.cell zad i 2 hx rfl;have x3:=hvr.cell zad i 3 hx rfl;have x4:=hvr.cell zad i 4 hx rfl;have x5:=hvr.cell zad i 5 hx rfl;have x6:=hvr.cell zad i 6 hx rfl;have x7:=hvr.cell zad i 7 hx rfl;have x8:=hvr.cell zad i 8 hx rfl;have x9:=hvr.cell zad i 9 hx rfl;have hil:(i:Int) < (ops.length:Int):=(by omega);have hwp:=HWH.out p (List.mem_of_getElem? hx);have Hx:=H_ hx;clear hx hvr;obtain ⟨p1,⟨g1,g2,g3,g4,g5,g6,g7⟩,p2,p3⟩:=p;dsimp only at hwp;by_cases hk:p1=3
    · have hwp':=hwp hk
      have HK:=H_ hk;subst hk;go_wp2_with (go_at_call 65;refine (zfl _ s S F ((HS.out.fr0 hT hfr).fr0 hT ((Fr.refl No wr).alloc _)) g3).mono ?_;rintro e w' ⟨rfl,rfl⟩;rw [hwp']);go_roundg g
      case rel=>exact ⟨i+1,by go_num,by omega,H_ (HF.out.alloc _)⟩
      case measure=>omega
    have hk':(p1 == 3)=false:=by simpa using hk
    go_wp2;go_roundg g
    case rel=>exact ⟨i+1,by go_num,by omega,H_ (HF.out.alloc _)⟩
    case measure=>omega
end Go.Proofs.Ythljnnjpmdgkoaa
