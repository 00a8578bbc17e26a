/- Own lemmas and contracts that the claim's proof needs, laid together. The conditions stand in each. -/
import Derived.Test.YthljnnjpmdgkoaaN19
import Derived.Test.YthljnnjpmdgkoaaN07
import Derived.Deep.DeepCutAuto
import Derived.BigRegion
namespace Go.Proofs.Ythljnnjpmdgkoaa
open Go Go.Proofs Go.RowKit
set_option maxRecDepth 100000
theorem ztq (y:Ev):∀ u∈evC y,u.oneCell'=true:=by intro u hu;simp [evC,kvC] at hu;rcases hu with rfl | rfl | rfl | rfl | rfl | rfl | rfl | rfl | rfl | rfl | rfl | rfl | rfl <;> rfl
set_option maxHeartbeats 8000000 in
theorem zmd {σ:Type} {C:Cod σ} (K:CodOk C) (w:World) (s:σ) (F:Nat->Prop) (gx:Nat) (ex:TypeId) (cx:List Value) (ox:Nat) (v:Value) (L:List Ev) (gr:Nat) (s':σ) (L':List Ev)
 (hA:C.At w s F) (hgx:w.heap[gx]? = some (.cells cx.toArray ex (0,0))) (hv:cx[ox]? = some v) (nF:¬ F gx) (hL:SlF w 73 13 evC v L) (hLF:∀ b,v.ownBlock=some b->¬ F b/\b≠gx)
 (hr:Lst C.way (evS C) ⟨0,kv0,kv0⟩ (C.num s L.length).2 gr (C.num s L.length).1 L 0 s' L') (hsm:C.small s') (hle:L.length+gr<=10000000000) :
 Calls Try.prog 97 #[.pointer (some ⟨C.c,0,none⟩),.pointer (some ⟨gx,ox,none⟩),.func (.func 98) #[.pointer (some ⟨C.c,0,none⟩)] #[]] w fun en w'=>en = .returned (.tuple #[])/\LstP C w F gx ex cx ox v 73 13 evC s' L' w':=by
 obtain ⟨va,vcap,rfl,hvc1,hvc2,_⟩:=hL.shape;have enf:=K.enf;have hk0:=K.cell _ _ _ hA;have c0:=hk0.cell 0 rfl;have lc:=hk0.lt;have lg:=zab hgx;have gv:w.cell? ⟨gx,ox,none⟩=some (.slice va L.length vcap):=cellAt hgx ox (by simpa using hv);have hs1:C.small (C.num s L.length).1:=hr.small (fun s x h=>zib K s x h) hsm;have hFl:=K.lt _ _ _ hA;have hnb:¬ F w.heap.size:=fun h=>by have:=hFl _ h;omega
 have hn1:=zac w (Obj.cells #[.int .i64 L.length] 3) _ rfl;have hfa:Fr No w (w.alloc (Obj.cells #[.int .i64 L.length] 3)):=(Fr.refl No w).alloc _;have hC1:=K.num (w.alloc (Obj.cells #[.int .i64 L.length] 3)) s F w.heap.size 3 [.int .i64 L.length] 0 L.length (K.at0 hA hfa) (by simpa using hn1) rfl hnb hs1;have HC1:=H_ hC1;have HGX:=H_ hgx;have HL:=H_ hL;have HLF:=H_ hLF;have HR:=H_ hr;have HFA:=H_ hfa;have HOX:=H_ hv;clear hC1 hgx hL hLF hr hA hn1 hfa hs1 hv hk0;go_enter Try.func97,Try.ntmps97;go_upto_region 2 with (go_at_fn C.nf;refine HC1.out.mono ?_;rintro en w2 ⟨rfl,F2,a2,g2,f2,n2⟩);have hns:(w.alloc (Obj.cells #[.int .i64 L.length] 3)).heap.size=w.heap.size+1:=by simp
 have hf02:Fr (fun b=>F b\/b=w.heap.size) w w2:=(HFA.out.mono fun _ _ h=>h.elim).trans f2 fun _ _ h=>h
 have hg2:w2.heap[gx]? = some (.cells (cx.set ox (.slice va L.length vcap)).toArray ex (0,0)):=by
  have h1:=hf02.heap HGX.out (by rintro (h | h);exact nF h;omega)
  have h2:cx.set ox (.slice va L.length vcap)=cx:=by
   apply List.ext_getElem?;intro j;by_cases hj:ox=j
   · subst hj
     have:=(List.getElem?_eq_some_iff.1 HOX.out).1;rw [List.getElem?_set_self this,HOX.out]
   rw [List.getElem?_set_ne hj]
  rw [h2];exact h1
 have HG2:=H_ hg2;have HNB2:Hid (w2.heap[w.heap.size]? = some (.cells #[.int .i64 (C.num s L.length).2] 3 (0,0))):=H_ (by simpa using g2);have HA2:=H_ a2
 have HF02:Hid (Fr (fun b=>F b\/b=gx\/(Value.slice va L.length vcap).ownBlock=some b) w w2):=H_ ⟨hf02.os,hf02.tape,hf02.output,hf02.size,fun b hb hn=>hf02.block b hb (by
  rintro (h | h)
  · exact hn (.inl h)
  omega)⟩
 have HL2:=H_ (HL.out.fr hf02 fun b hb=>by
  have:=HL.out.lt b hb;rintro (h | h)
  · exact (HLF.out b hb).1 h
  omega)
 have hF2a:∀ b,F2 b->F b\/w.heap.size+1<=b:=fun b hb=>by
  have:=n2 b hb;rw [hns] at this;exact this
 have HF2A:=H_ hF2a;clear hg2 g2 a2 f2 n2 hf02 hF2a HC1;generalize hn':(C.num s L.length).2=n' at *;generalize (C.num s L.length).1=s1 at *;go_wp2_with fail
 go_loopg [7] gr (fun g s7 wr=>∃ (i:Nat) (si:σ) (Li:List Ev) (Fi:Nat->Prop) (vi:Value),s7 = .int .i64 i/\i<=Li.length/\Li.length+g<=10000000000/\Hid (Lst C.way (evS C) ⟨0,kv0,kv0⟩ n' g si Li i s' L')/\Hid (C.At wr si Fi)/\Hid (wr.heap[gx]? = some (.cells (cx.set ox vi).toArray ex (0,0))) ∧
  Hid (SlF wr 73 13 evC vi Li)/\Hid (∀ b,vi.ownBlock=some b->¬ Fi b/\b≠gx/\b≠w.heap.size/\((Value.slice va L.length vcap).ownBlock=some b\/w.heap.size<=b))/\Hid (wr.heap[w.heap.size]? = some (.cells #[.int .i64 n'] 3 (0,0)))/\Hid (¬ Fi w.heap.size/\¬ Fi gx) ∧
  Hid (Fr (fun b=>F b\/b=gx\/(Value.slice va L.length vcap).ownBlock=some b) w wr)/\Hid (∀ b,Fi b->F b\/w.heap.size<=b))
 case atStart =>
  refine ⟨0,s1,L,F2,.slice va L.length vcap,rfl,by omega,by omega,HR,HA2,HG2,HL2,H_ (fun b hb=>?_),HNB2,H_ ⟨fun h=>?_,fun h=>?_⟩,HF02,H_ fun b hb=>?_⟩
  · have h1:=HLF.out b hb
    have h2:=HL.out.lt b hb;refine ⟨fun h=>?_,h1.2,by omega,.inl hb⟩;rcases HF2A.out b h with h | h
    · exact h1.1 h
    omega
  · rcases HF2A.out _ h with h | h
    · exact hnb h
    omega
  · rcases HF2A.out _ h with h | h
    · exact nF h
    omega
  rcases HF2A.out b hb with h | h
  · exact .inl h
  exact .inr (by omega)
 case round =>
  clear HR HA2 HG2 HL2 HNB2 HF02 HF2A c0 gv;obtain ⟨i,si,Li,Fi,vi,rfl,hi1,hi2,HLST,HAT,HGI,HSL,HVB,HNB,HNF,HF,HFI⟩:=hrel;have hk:=K.cell _ _ _ HAT.out;have c2:=hk.cell 2 rfl;have lcr:=hk.lt;have lgr:=zab HGI.out;have lnr:=zab HNB.out;have n0:wr.cell? ⟨w.heap.size,0,none⟩=some (.int .i64 n'):=cellAt HNB.out 0 rfl;clear hk
  cases gk with
  | zero =>
    have hl:=HLST.out
    cases hl with
    | stop _ _ _ hcond =>
      have HEND:Hid (LstP C w F gx ex cx ox (.slice va L.length vcap) 73 13 evC s' L' wr):=H_ ⟨Fi,vi,HAT.out,HGI.out,HSL.out,fun b hb=>⟨(HVB.out b hb).1,(HVB.out b hb).2.1,(HVB.out b hb).2.2.2⟩,HF.out,HFI.out⟩;by_cases hlt:(i:Int) < n'
      · have hbad:C.bad s'=true:=by
         cases h:C.bad s' with
         | true=>rfl
         | false=>exact absurd ⟨hlt,h⟩ hcond
        rw [hbad] at c2;have hd:decide ((i:Int) < n')=true:=decide_eq_true hlt;clear hcond hbad;go_wp2_with fail;refine bodyPost_end (results_none rfl _ _ _) rfl ⟨rfl,HEND.out⟩
      have hd:decide ((i:Int) < n')=false:=decide_eq_false hlt
      clear hcond;go_wp2_with fail;refine bodyPost_end (results_none rfl _ _ _) rfl ⟨rfl,HEND.out⟩
  | succ g =>
    have hl:=HLST.out
    cases hl with
    | step _ _ _ L1 _ x _ _ hcond hL1 hx hrest =>
      have hd:decide ((i:Int) < n')=true:=decide_eq_true hcond.1;have hbad:C.bad si=false:=hcond.2;rw [hbad] at c2;obtain ⟨ia,icap,rfl,hic1,hic2,_⟩:=HSL.out.shape
      have gv:wr.cell? ⟨gx,ox,none⟩=some (.slice ia Li.length icap):=cellAt HGI.out ox (by
       have:=(List.getElem?_eq_some_iff.1 HOX.out).1;rw [List.getElem?_toArray,List.getElem?_set_self this])
      have gz:wr.frozen? ⟨gx,ox,none⟩=false:=(by unfold World.frozen?;rw [HGI.out];rfl);have HREST:=H_ hrest;have HXX:=H_ hx;have HL1:=H_ hL1;clear hcond hbad hL1 hx hrest;go_upto_if 35 with fail
      go_cut [7] (fun s7 wx=>s7 = .int .i64 i/\∃ v1,Hid (C.At wx si Fi)/\Hid (wx.heap[gx]? = some (.cells (cx.set ox v1).toArray ex (0,0)))/\Hid (SlF wx 73 13 evC v1 L1)/\Hid (∀ b,v1.ownBlock=some b->¬ Fi b/\b≠gx/\b≠w.heap.size/\((Value.slice va L.length vcap).ownBlock=some b\/w.heap.size<=b))/\Hid (wx.heap[w.heap.size]? = some (.cells #[.int .i64 n'] 3 (0,0))) ∧
       Hid (Fr (fun b=>F b\/b=gx\/(Value.slice va L.length vcap).ownBlock=some b) w wx)/\wr.heap.size<=wx.heap.size)
      case first =>
       by_cases hnew:i=Li.length
       · have he:((i:Int) == (Li.length:Int))=true:=by rw [hnew];exact beq_self_eq_true _
         have HNEW:=H_ hnew;clear hnew;go_upto_region 7 with fail;have hz1:=zac wr (Obj.cells #[.int .i64 0,.string ⟨#[]⟩,.string ⟨#[]⟩,.int .i64 0,.int .i64 0,.int .i64 0,.int .i64 0,.string ⟨#[]⟩,.string ⟨#[]⟩,.int .i64 0,.int .i64 0,.int .i64 0,.int .i64 0] 73) _ rfl;have hfz:Fr No wr (wr.alloc (Obj.cells #[.int .i64 0,.string ⟨#[]⟩,.string ⟨#[]⟩,.int .i64 0,.int .i64 0,.int .i64 0,.int .i64 0,.string ⟨#[]⟩,.string ⟨#[]⟩,.int .i64 0,.int .i64 0,.int .i64 0,.int .i64 0] 73)):=(Fr.refl No wr).alloc _;generalize wr.alloc (Obj.cells #[.int .i64 0,.string ⟨#[]⟩,.string ⟨#[]⟩,.int .i64 0,.int .i64 0,.int .i64 0,.int .i64 0,.string ⟨#[]⟩,.string ⟨#[]⟩,.int .i64 0,.int .i64 0,.int .i64 0,.int .i64 0] 73)=W5 at *;generalize hzb:wr.heap.size=zb at *;obtain ⟨r0,r1,r2,r3,r4,r5,r6,r7,r8,r9,r10,r11,r12⟩:=cells13 hz1
         have lz5:=zab hz1;have gv5:=hfz.cell0 gv;have gz5:=hfz.free0 gv gz;have lg5:=World.block_lt_of_cell? _ _ gv5;have hne:(Value.slice ia Li.length icap).ownBlock≠some gx:=fun h=>(HVB.out gx h).2.1 rfl;obtain ⟨i0,hi0,hz0,hzz1,hzz2⟩:=info_parts info73;have hnew2:=zas W5.drew [.int .i64 0,.string ⟨#[]⟩,.string ⟨#[]⟩,.int .i64 0,.int .i64 0,.int .i64 0,.int .i64 0,.string ⟨#[]⟩,.string ⟨#[]⟩,.int .i64 0,.int .i64 0,.int .i64 0,.int .i64 0] 73 (0,0);have HFZ:=H_ hfz;have HSL5:=H_ (HSL.out.fr0 hfz);have HNE:=H_ hne;have HZB:=H_ hzb;clear hz1 hfz hzb gv gz
         go_region_law (refine zbj rfl _ _ 34 rfl 73 i0 _ 13 136 Try.underlying34 hi0 hz0 hzz1 hzz2 rfl (by decide) _ Li rfl (HSL5.out.fr0 ((Fr.refl No W5).drew.alloc _)) W5.heap.size 1 ⟨0,kv0,kv0⟩ rfl hnew2 rfl (ztq _) (by unfold maxLen;omega) (by omega) ?_;intro g1 o' cap w6 hs6 hg6 hb6 hlt6;have hf6:Fr (fun k=>(Value.slice ia Li.length icap).ownBlock=some k) W5 w6:=((Fr.refl _ W5).drew.alloc _).grown hg6 (fun k hk=>.inl hk);have e6:=hf6.cell gv5 hne;have ef6:=hf6.free gv5 gz5 hne;have HS6:=H_ hs6;have HB6:=H_ hb6;have HF6:=H_ hf6;clear hs6 hg6 hb6 hf6)
         all_goals
          go_wp2;go_meet
          case rel =>
           have hsz5:=HFZ.out.size;have hzbe:=HZB.out;have hown:=HSL.out.lt
           have hg1:g1≠gx/\g1≠w.heap.size/\¬ Fi g1/\((Value.slice va L.length vcap).ownBlock=some g1\/w.heap.size<=g1):=by
            rcases HB6.out with h | h
            · have h2:=HVB.out g1 h
              exact ⟨h2.2.1,h2.2.2.1,h2.1,h2.2.2.2⟩
            have h':g1=W5.heap.size+1:=by simpa using h
            have hl:=K.lt _ _ _ HAT.out;exact ⟨by omega,by omega,fun h2=>by have:=hl _ h2;omega,.inr (by omega)⟩
           have hfE:Fr (fun b=>(Value.slice ia Li.length icap).ownBlock=some b\/b=gx) wr (w6.setCell ⟨gx,ox,none⟩ (.slice (some ⟨g1,o',none⟩) (Li.length+1) cap)) :=
            (((HFZ.out.mono fun _ _ h=>h.elim).trans HF6.out fun _ _ h=>h).mono fun _ _ h=>.inl h).setCell (p:=⟨gx,ox,none⟩) (.inl (.inr rfl)) _
           have hgx6:w6.heap[gx]? = some (.cells (cx.set ox (.slice ia Li.length icap)).toArray ex (0,0)):=HF6.out.heap (HFZ.out.heap HGI.out id) HNE.out;refine ⟨rfl,.slice (some ⟨g1,o',none⟩) (Li.length+1) cap,H_ (K.fr _ _ _ _ _ HAT.out hfE fun b hb=>?_),H_ ?_,H_ ?_,H_ (fun b hb=>?_),H_ ?_,H_ ?_,?_⟩
           · rcases hb with h | rfl
             · exact (HVB.out b h).1
             exact HNF.out.2
           · rw [zaa hgx6]
             simp
           · have hL1e:L1=Li++[⟨0,kv0,kv0⟩]:=by rw [HL1.out,if_pos HNEW.out]
             rw [hL1e];exact HS6.out.other ⟨gx,ox,none⟩ _ (by simp [Value.ownBlock];exact hg1.1)
           · obtain rfl:g1=b:=by simpa [Value.ownBlock] using hb
             exact ⟨hg1.2.2.1,hg1.1,hg1.2.1,hg1.2.2.2⟩
           · exact hfE.heap HNB.out (by
              rintro (h | h)
              · exact (HVB.out _ h).2.2.1 rfl
              omega)
           · refine HF.out.trans hfE fun b _ h=>?_
             rcases h with h | h
             · rcases (HVB.out b h).2.2.2 with h2 | h2
               · exact .inr (.inr h2)
               omega
             exact .inr (.inl h)
           have:=hfE.size
           omega
       have he:((i:Int) == (Li.length:Int))=false:=beq_eq_false_iff_ne.2 (by omega)
       have hL1e:L1=Li:=(by rw [HL1.out,if_neg hnew]);have HL1E:=H_ hL1e;clear hL1e hnew;go_wp2_with fail;go_meet
       case rel=>exact ⟨rfl,_,HAT,HGI,H_ (by rw [HL1E.out];exact HSL.out),HVB,HNB,HF,Nat.le_refl _⟩
      case rest =>
       obtain ⟨rfl,v1,HAT1,HGI1,HSL1,HVB1,HNB1,HF1,hsz1⟩:=hcut;have hiL:i < L1.length:=(List.getElem?_eq_some_iff.1 HXX.out).1;have hL1l:L1.length<=Li.length+1:=(by rw [HL1.out];split <;> simp);obtain ⟨ja,jcap,rfl,hjc1,hjc2,hja⟩:=HSL1.out.shape;obtain ⟨B,oB,rfl⟩:=hja (by omega);obtain ⟨cs,hcs,hcs1,hcs2,hcs3,hcs4,hcs5⟩:=HSL1.out.row zau
       have gv1:wc.cell? ⟨gx,ox,none⟩=some (.slice (some ⟨B,oB,none⟩) L1.length jcap):=cellAt HGI1.out ox (by
        have:=(List.getElem?_eq_some_iff.1 HOX.out).1;rw [List.getElem?_toArray,List.getElem?_set_self this])
       have lg1:=zab HGI1.out;have lB:=zab hcs;have nFB:=HVB1.out B rfl;have hsmx:C.small (evS C si x).1:=HREST.out.small (fun s x h=>zib K s x h) hsm;have hCK:=zmr K wc si Fi B 73 cs (oB+i * 13) x HAT1.out hcs (fun j u hu=>hcs5 i x HXX.out j u hu) nFB.1 hsmx;have HCK:=H_ hCK;have HNFB:=H_ nFB;have HCS:=H_ hcs;have HCS3:=H_ hcs3;have HCS4:=H_ hcs4;have hil:(i:Int) < (L1.length:Int):=(by omega);have hi0:0<=(i:Int):=(by omega);clear hCK nFB hcs hcs4 hcs5 hcs3 hsmx;go_wp2_with (go_at_call 98;refine HCK.out.mono ?_;rintro en w5 ⟨rfl,F5,a5,g5,f5,n5⟩);have HA5:=H_ a5;have HG5:=H_ g5;have HF5:=H_ f5;have HN5:=H_ n5;clear a5 g5 f5 n5;go_roundg g
       case rel =>
        have hl1:=K.lt _ _ _ HAT1.out;have hfw:=HF1.out.size;have hnn:∀ b,F5 b->Fi b\/wc.heap.size<=b:=HN5.out;refine ⟨i+1,_,L1.set i _,F5,.slice (some ⟨B,oB,none⟩) L1.length jcap,by go_num,by rw [List.length_set];omega,by rw [List.length_set];omega,HREST,HA5,H_ ?_,H_ ?_,H_ (fun b hb=>?_),H_ ?_,H_ ⟨fun h=>?_,fun h=>?_⟩,H_ ?_,H_ fun b hb=>?_⟩
        · exact HF5.out.heap HGI1.out (by
           rintro (h | h)
           · exact HNF.out.2 h
           exact HNFB.out.2.1 h.symm)
        · exact SlF.laidAt zau hcs1 hcs2 HCS3.out HCS4.out hiL _ HG5.out
        · obtain rfl:B=b:=by simpa [Value.ownBlock] using hb
          refine ⟨fun h=>?_,HNFB.out.2.1,HNFB.out.2.2.1,HNFB.out.2.2.2⟩;rcases hnn _ h with h2 | h2
          · exact HNFB.out.1 h2
          omega
        · exact HF5.out.heap HNB1.out (by
           rintro (h | h)
           · exact HNF.out.1 h
           exact HNFB.out.2.2.1 h.symm)
        · rcases hnn _ h with h2 | h2
          · exact HNF.out.1 h2
          omega
        · rcases hnn _ h with h2 | h2
          · exact HNF.out.2 h2
          omega
        · refine HF1.out.trans HF5.out fun b hb h=>?_
          rcases h with h | h
          · rcases HFI.out b h with h2 | h2
            · exact .inl h2
            omega
          subst h
          rcases HNFB.out.2.2.2 with h2 | h2
          · exact .inr (.inr h2)
          omega
        rcases hnn _ hb with h2 | h2
        · exact HFI.out b h2
        exact .inr (by omega)
       case measure=>omega
def StP {σ:Type} (C:Cod σ) (w:World) (F:Nat->Prop) (gx:Nat) (ex:TypeId) (vk ve:Value) (s':σ) (rev' mark':Int) (kvs':List Kv) (evs':List Ev) (w':World):Prop :=
 ∃ F' vk' ve',C.At w' s' F'/\w'.heap[gx]? = some (.cells #[.int .i64 rev',.int .i64 mark',vk',ve'] ex (0,0))/\SlF w' 57 6 kvC vk' kvs'/\SlF w' 73 13 evC ve' evs' ∧
  Fr (fun b=>F b\/b=gx\/vk.ownBlock=some b\/ve.ownBlock=some b) w w'/\(∀ b,F' b->F b\/w.heap.size<=b) ∧
  (∀ b,vk'.ownBlock=some b->vk.ownBlock=some b\/w.heap.size<=b)/\(∀ b,ve'.ownBlock=some b->ve.ownBlock=some b\/w.heap.size<=b)
set_option maxHeartbeats 8000000 in
theorem zek {σ:Type} {C:Cod σ} (K:CodOk C) (w:World) (s:σ) (F:Nat->Prop) (gx:Nat) (ex:TypeId) (rev mark:Int) (vk ve:Value) (kvs:List Kv) (evs:List Ev) (gr kr:Nat) (s':σ) (rev' mark':Int) (kvs':List Kv) (evs':List Ev)
 (hA:C.At w s F) (hgx:w.heap[gx]? = some (.cells #[.int .i64 rev,.int .i64 mark,vk,ve] ex (0,0))) (nF:¬ F gx) (hk:SlF w 57 6 kvC vk kvs) (he:SlF w 73 13 evC ve evs) (hkF:∀ b,vk.ownBlock=some b->¬ F b/\b≠gx) (heF:∀ b,ve.ownBlock=some b->¬ F b/\b≠gx)
 (hdis:∀ b,vk.ownBlock=some b->ve.ownBlock≠some b) (hst:StW C.way gr kr s rev mark kvs evs s' rev' mark' kvs' evs') (hsm:C.small s') (hle1:kvs.length+gr<=10000000000) (hle2:evs.length+kr<=10000000000) :
 Calls Try.prog 62 #[.pointer (some ⟨C.c,0,none⟩),.pointer (some ⟨gx,0,none⟩)] w fun en w'=>en = .returned (.tuple #[])/\StP C w F gx ex vk ve s' rev' mark' kvs' evs' w':=by
 obtain ⟨⟨s3,hl1,hl2⟩,he1,he2⟩:=hst;have hs3:C.small s3:=K.snum _ _ (hl2.small (fun s x h=>zib K s x h) hsm);have hs2:C.small (C.num (C.num s rev).1 mark).1:=K.snum _ _ (hl1.small (fun s x h=>zcl K s x h) hs3);have hFl:=K.lt _ _ _ hA;have hnew:¬ F w.heap.size:=fun h=>by have:=hFl _ h;omega
 have lg:=zab hgx;have hgx':w.heap[gx]? = some (.cells (List.toArray [.int .i64 rev,.int .i64 mark,vk,ve]) ex (0,0)):=hgx
 have hT1:=fun W (h:Fr No w W)=>zfc K W s F gx ex [.int .i64 rev,.int .i64 mark,vk,ve] 0 [rev,mark] w.heap.size 108 (K.at0 hA h) (h.heap hgx' id)
  (fun j n hj=>by
    match j,hj with
    | 0,hj=>simp at hj;subst hj;rfl
    | 1,hj=>simp at hj;subst hj;rfl) nF hs2 (by simp)
 have H1:=H_ hT1;have HL1:=H_ hl1;have HL2:=H_ hl2;have HK:=H_ hk;have HE:=H_ he;have HKF:=H_ hkF;have HEF:=H_ heF;have HDIS:=H_ hdis;have HE1:=H_ he1;have HE2:=H_ he2;have HFL:=H_ hFl;have hmf:∀ (fn:Fn) (first cap:Array Value) (w:World),(Instr.makeFunc fn first cap).run Try.prog w = .ok (.func fn first cap) w:=fun _ _ _ _=>rfl;clear hT1 hl1 hl2 hk he hkF heF hdis he1 he2 hgx' hgx hA hFl;go_enter Try.func62,Try.ntmps62;go_wp2_with fail
 go_region_held3 (fun W=>True)
  (exact trivial)
  (first | (go_at_call 94;refine (H1.out _ ((Fr.refl No w).drew.alloc _) (zac _ _ _ rfl) hnew (by omega)).mono ?_;rintro en w1 ⟨rfl,F1,a1,g1,f1,n1⟩))
 have f1':Fr (fun b=>F b\/b=gx) w w1:=((Fr.drew (Fr.refl _ w)).alloc _).trans f1 fun _ _ h=>h
 have hn1:∀ b,F1 b->F b\/w.heap.size<=b:=fun b hb=>by
  rcases n1 b hb with h | h
  · exact .inl h
  simp at h;exact .inr (by omega)
 have hg1:w1.heap[gx]? = some (.cells (List.toArray [.int .i64 rev',.int .i64 mark',vk,ve]) ex (0,0)):=by
  rw [HE1.out,HE2.out];exact g1
 have nF1:¬ F1 gx:=fun h=>by
  rcases hn1 _ h with h | h
  · exact nF h
  omega
 have hk1:=HK.out.fr f1' fun b hb=>by
  have:=HKF.out b hb;rintro (h | h)
  · exact this.1 h
  exact this.2 h
 have he1:=HE.out.fr f1' fun b hb=>by
  have:=HEF.out b hb;rintro (h | h)
  · exact this.1 h
  exact this.2 h
 have hC2:=zmc K w1 _ F1 gx ex _ 2 vk kvs gr s3 kvs' a1 hg1 rfl nF1 hk1 (fun b hb=>⟨fun h=>by
  rcases hn1 _ h with h | h
  · exact (HKF.out b hb).1 h
  have:=HK.out.lt b hb;omega,(HKF.out b hb).2⟩) HL1.out hs3 hle1
 have HC2:=H_ hC2;have HF1:=H_ f1';have HN1:=H_ hn1;have HEE1:=H_ he1;clear hC2 f1 f1' n1 hn1 hg1 g1 a1 hk1 he1 H1;go_upto_region 2 with (go_at_call 95;refine HC2.out.mono ?_;rintro en w2 ⟨rfl,F2,vk2,a2,g2,l2,b2,f2,n2⟩);have hlw:=HF1.out.size
 have hn2:∀ b,F2 b->F b\/w.heap.size<=b:=fun b hb=>by
  rcases n2 b hb with h | h
  · exact HN1.out b h
  exact .inr (by omega)
 have hg2:w2.heap[gx]? = some (.cells (List.toArray [.int .i64 rev',.int .i64 mark',vk2,ve]) ex (0,0)):=g2
 have nF2:¬ F2 gx:=fun h=>by
  rcases hn2 _ h with h | h
  · exact nF h
  omega
 have he2:=HEE1.out.fr f2 fun b hb=>by
  rintro (h | h | h)
  · rcases HN1.out _ h with h | h
    · exact (HEF.out b hb).1 h
    have:=HE.out.lt b hb;omega
  · exact (HEF.out b hb).2 h
  exact HDIS.out b h hb
 have hvk2:∀ b,vk2.ownBlock=some b->¬ F2 b/\b≠gx/\ve.ownBlock≠some b/\(vk.ownBlock=some b\/w.heap.size<=b):=fun b hb=>by
  obtain ⟨h1,h2,h3⟩:=b2 b hb;refine ⟨h1,h2,?_,?_⟩
  · rcases h3 with h3 | h3
    · exact HDIS.out b h3
    intro h
    have:=HE.out.lt b h;omega
  rcases h3 with h3 | h3
  · exact .inl h3
  exact .inr (by omega)
 have f02:Fr (fun b=>F b\/b=gx\/vk.ownBlock=some b) w w2:=(HF1.out.mono fun b _ h=>by
  rcases h with h | h
  · exact .inl h
  · exact .inr (.inl h)).trans f2 fun b hb h=>by
  rcases h with h | h | h
  · rcases HN1.out b h with h | h
    · exact .inl h
    omega
  · exact .inr (.inl h)
  exact .inr (.inr h)
 have hC3:=zmd K w2 _ F2 gx ex _ 3 ve evs kr s' evs' a2 hg2 rfl nF2 he2 (fun b hb=>⟨fun h=>by
  rcases hn2 _ h with h | h
  · exact (HEF.out b hb).1 h
  have:=HE.out.lt b hb;omega,(HEF.out b hb).2⟩) HL2.out hsm hle2
 have HC3:=H_ hC3;have HVK2:=H_ hvk2;have HF02:=H_ f02;have HN2:=H_ hn2;have HLK2:=H_ l2;clear hC3 hvk2 f02 hn2 l2 b2 f2 n2 hg2 g2 a2 he2 HC2;go_wp2_with (go_at_call 97;refine HC3.out.mono ?_;rintro en w3 ⟨rfl,F3,ve3,a3,g3,l3,b3,f3,n3⟩);refine bodyPost_end (results_none rfl _ _ _) rfl ⟨rfl,F3,vk2,ve3,a3,g3,?_,l3,?_,fun b hb=>?_,fun b hb=>(HVK2.out b hb).2.2.2,fun b hb=>?_⟩
 · refine HLK2.out.fr f3 fun b hb=>?_
   have h:=HVK2.out b hb;rintro (h1 | h1 | h1)
   · exact h.1 h1
   · exact h.2.1 h1
   exact h.2.2.1 h1
 · refine (HF02.out.mono fun b _ h=>?_).trans f3 fun b hb h=>?_
   · rcases h with h | h | h
     · exact .inl h
     · exact .inr (.inl h)
     exact .inr (.inr (.inl h))
   rcases h with h | h | h
   · rcases HN2.out b h with h | h
     · exact .inl h
     omega
   · exact .inr (.inl h)
   exact .inr (.inr (.inr h))
 · have:=HF02.out.size
   rcases n3 b hb with h | h
   · exact HN2.out b h
   exact .inr (by omega)
 have:=HF02.out.size
 rcases (b3 b hb).2.2 with h | h
 · exact .inl h
 exact .inr (by omega)
end Go.Proofs.Ythljnnjpmdgkoaa