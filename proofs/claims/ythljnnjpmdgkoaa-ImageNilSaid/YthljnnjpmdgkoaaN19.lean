/- Own lemmas and contracts that the claim's proof needs, laid together. The conditions stand in each. -/
import Derived.Test.YthljnnjpmdgkoaaN18
import Derived.Test.YthljnnjpmdgkoaaN07
import Derived.Deep.DeepCutAuto
import Derived.BigRegion
namespace Go.Proofs.Ythljnnjpmdgkoaa
open Go Go.Proofs Go.RowKit
set_option maxRecDepth 100000
theorem SlF.row {α:Type} {f:α->List Value} {w:World} {e sz g o cap:Nat} {L:List α} (hf:∀ x,(f x).length=sz) (h:SlF w e sz f (.slice (some ⟨g,o,none⟩) L.length cap) L) :
 ∃ cs:List Value,w.heap[g]? = some (.cells cs.toArray e (0,0))/\o+cap * sz<=cs.length/\L.length<=cap/\cap<=maxLen/\(cs.drop o).take (L.length * sz)=L.flatMap f ∧
  ∀ (i:Nat) (x:α),L[i]? = some x->∀ (j:Nat) (u:Value),(f x)[j]? = some u->cs[o+i * sz+j]? = some u:=by
 have h0:=h;rcases h.2 with ⟨h0,_⟩ | ⟨g',o',cap',cur,hv,hg,h1,h2,h3,h4⟩
 · cases h0
 cases hv
 refine ⟨cur.toList,by simpa using hg,by simpa using h3,h1,h2,h4,fun i x hx j u hu=>?_⟩;have h5:=h0.cell hf i j hx hu;simp [World.cell?,hg] at h5;simpa using h5
theorem SlF.laidAt {α:Type} {f:α->List Value} {w':World} {e sz g o cap:Nat} {L:List α} (hf:∀ x,(f x).length=sz) {cs:List Value} (h3:o+cap * sz<=cs.length) (h1:L.length<=cap) (h2:cap<=maxLen)
 (h4:(cs.drop o).take (L.length * sz)=L.flatMap f) {i:Nat} (hi:i < L.length) (x':α) (hw:w'.heap[g]? = some (.cells (putAt cs (o+i * sz) (f x')).toArray e (0,0))) :
 SlF w' e sz f (.slice (some ⟨g,o,none⟩) L.length cap) (L.set i x'):=by
 have hmul:L.length * sz<=cap * sz:=Nat.mul_le_mul_right _ h1
 have hmi:i * sz+sz<=L.length * sz:=by
  have:=Nat.mul_le_mul_right sz (show i+1<=L.length by omega);rw [Nat.add_mul,Nat.one_mul] at this;exact this
 have hfl:=hf x';unfold SlF Sl;rw [List.length_set];refine ⟨by rw [zal hf,List.length_set],.inr ⟨g,o,cap,_,rfl,hw,h1,h2,by simpa [zfx] using h3,?_⟩⟩;simp only;apply List.ext_getElem?;intro k;rw [List.getElem?_take];by_cases hk:k < L.length * sz
 · rw [if_pos hk,List.getElem?_drop]
   rcases Nat.eq_zero_or_pos sz with h0 | hsz
   · subst h0;omega
   have hk2:k=k / sz * sz+k % sz:=(by rw [Nat.mul_comm];exact (Nat.div_add_mod k sz).symm);have hr:k % sz < sz:=Nat.mod_lt _ hsz;generalize hq:k / sz=q at hk2;generalize hm:k % sz=r at hk2 hr
   have hold:∀ x,L[q]? = some x->cs[o+(q * sz+r)]? = (f x)[r]?:=fun x hx=>by
    have h5:=zgm hf L q r hr;rw [hx,<-h4,List.getElem?_take,if_pos (by omega),List.getElem?_drop] at h5;exact h5
   have hqL:q < L.length:=by
    rcases Nat.lt_or_ge q L.length with h | h
    · exact h
    have:=Nat.mul_le_mul_right sz h
    omega
   rw [hk2,zgm hf _ q r hr]
   show (putAt cs (o+i * sz) (f x'))[o+(q * sz+r)]? = _
   rcases Nat.lt_trichotomy q i with hlt | rfl | hgt
   · have:=Nat.mul_le_mul_right sz (show q+1<=i by omega)
     rw [Nat.add_mul,Nat.one_mul] at this;rw [zjk _ _ _ _ (by omega),List.getElem?_set_ne (by omega),hold _ (List.getElem?_eq_getElem hqL),List.getElem?_eq_getElem hqL]
     rfl
   · rw [show o+(q * sz+r)=o+q * sz+r by omega,zni _ _ _ _ (by omega) (by omega),List.getElem?_set_self hqL]
     rfl
   have:=Nat.mul_le_mul_right sz (show i+1<=q by omega)
   rw [Nat.add_mul,Nat.one_mul] at this;rw [zgj _ _ _ _ (by omega),List.getElem?_set_ne (by omega),hold _ (List.getElem?_eq_getElem hqL),List.getElem?_eq_getElem hqL]
   rfl
 rw [if_neg hk]
 symm
 rw [List.getElem?_eq_none_iff,zal hf,List.length_set];omega
def Cod.way {σ:Type} (C:Cod σ):Way σ:=⟨C.num,C.txt,C.bad⟩
theorem Lst.small {σ α:Type} {C:Cod σ} {ea:σ->α->σ × α} (he:∀ s x,C.small (ea s x).1->C.small s) {z:α} {n:Int} {g:Nat} {s:σ} {L:List α} {i:Nat} {s':σ} {L':List α} (h:Lst C.way ea z n g s L i s' L') (hs:C.small s'):C.small s:=by
 induction h with
 | stop=>exact hs
 | step _ _ _ _ _ _ _ _ _ _ _ _ ih=>exact he _ _ (ih hs)
theorem ztk (y:Kv):∀ u∈kvC y,u.oneCell'=true:=by intro u hu;simp [kvC] at hu;rcases hu with rfl | rfl | rfl | rfl | rfl | rfl <;> rfl
def LstP {σ:Type} (C:Cod σ) (w:World) (F:Nat->Prop) (gx:Nat) (ex:TypeId) (cx:List Value) (ox:Nat) (v:Value) {α:Type} (e sz:Nat) (f:α->List Value) (s':σ) (L':List α) (w':World):Prop :=
 ∃ F' v',C.At w' s' F'/\w'.heap[gx]? = some (.cells (cx.set ox v').toArray ex (0,0))/\SlF w' e sz f v' L'/\(∀ b,v'.ownBlock=some b->¬ F' b/\b≠gx/\(v.ownBlock=some b\/w.heap.size<=b)) ∧
  Fr (fun b=>F b\/b=gx\/v.ownBlock=some b) w w'/\(∀ b,F' b->F b\/w.heap.size<=b)
set_option maxHeartbeats 8000000 in
theorem zmc {σ:Type} {C:Cod σ} (K:CodOk C) (w:World) (s:σ) (F:Nat->Prop) (gx:Nat) (ex:TypeId) (cx:List Value) (ox:Nat) (v:Value) (L:List Kv) (gr:Nat) (s':σ) (L':List Kv)
 (hA:C.At w s F) (hgx:w.heap[gx]? = some (.cells cx.toArray ex (0,0))) (hv:cx[ox]? = some v) (nF:¬ F gx) (hL:SlF w 57 6 kvC v L) (hLF:∀ b,v.ownBlock=some b->¬ F b/\b≠gx)
 (hr:Lst C.way (kvS C) kv0 (C.num s L.length).2 gr (C.num s L.length).1 L 0 s' L') (hsm:C.small s') (hle:L.length+gr<=10000000000) :
 Calls Try.prog 95 #[.pointer (some ⟨C.c,0,none⟩),.pointer (some ⟨gx,ox,none⟩),.func (.func 96) #[.pointer (some ⟨C.c,0,none⟩)] #[]] w fun en w'=>en = .returned (.tuple #[])/\LstP C w F gx ex cx ox v 57 6 kvC s' L' w':=by
 obtain ⟨va,vcap,rfl,hvc1,hvc2,_⟩:=hL.shape;have enf:=K.enf;have hk0:=K.cell _ _ _ hA;have c0:=hk0.cell 0 rfl;have lc:=hk0.lt;have lg:=zab hgx;have gv:w.cell? ⟨gx,ox,none⟩=some (.slice va L.length vcap):=cellAt hgx ox (by simpa using hv);have hs1:C.small (C.num s L.length).1:=hr.small (fun s x h=>zcl K s x h) hsm;have hFl:=K.lt _ _ _ hA;have hnb:¬ F w.heap.size:=fun h=>by have:=hFl _ h;omega
 have hn1:=zac w (Obj.cells #[.int .i64 L.length] 3) _ rfl;have hfa:Fr No w (w.alloc (Obj.cells #[.int .i64 L.length] 3)):=(Fr.refl No w).alloc _;have hC1:=K.num (w.alloc (Obj.cells #[.int .i64 L.length] 3)) s F w.heap.size 3 [.int .i64 L.length] 0 L.length (K.at0 hA hfa) (by simpa using hn1) rfl hnb hs1;have HC1:=H_ hC1;have HGX:=H_ hgx;have HL:=H_ hL;have HLF:=H_ hLF;have HR:=H_ hr;have HFA:=H_ hfa;have HOX:=H_ hv;clear hC1 hgx hL hLF hr hA hn1 hfa hs1 hv hk0;go_enter Try.func95,Try.ntmps95;go_upto_region 2 with (go_at_fn C.nf;refine HC1.out.mono ?_;rintro en w2 ⟨rfl,F2,a2,g2,f2,n2⟩);have hns:(w.alloc (Obj.cells #[.int .i64 L.length] 3)).heap.size=w.heap.size+1:=by simp
 have hf02:Fr (fun b=>F b\/b=w.heap.size) w w2:=(HFA.out.mono fun _ _ h=>h.elim).trans f2 fun _ _ h=>h
 have hg2:w2.heap[gx]? = some (.cells (cx.set ox (.slice va L.length vcap)).toArray ex (0,0)):=by
  have h1:=hf02.heap HGX.out (by rintro (h | h);exact nF h;omega)
  have h2:cx.set ox (.slice va L.length vcap)=cx:=by
   apply List.ext_getElem?;intro j;by_cases hj:ox=j
   · subst hj
     have:=(List.getElem?_eq_some_iff.1 HOX.out).1;rw [List.getElem?_set_self this,HOX.out]
   rw [List.getElem?_set_ne hj]
  rw [h2];exact h1
 have HG2:=H_ hg2;have HNB2:Hid (w2.heap[w.heap.size]? = some (.cells #[.int .i64 (C.num s L.length).2] 3 (0,0))):=H_ (by simpa using g2);have HA2:=H_ a2
 have HF02:Hid (Fr (fun b=>F b\/b=gx\/(Value.slice va L.length vcap).ownBlock=some b) w w2):=H_ ⟨hf02.os,hf02.tape,hf02.output,hf02.size,fun b hb hn=>hf02.block b hb (by
  rintro (h | h)
  · exact hn (.inl h)
  omega)⟩
 have HL2:=H_ (HL.out.fr hf02 fun b hb=>by
  have:=HL.out.lt b hb;rintro (h | h)
  · exact (HLF.out b hb).1 h
  omega)
 have hF2a:∀ b,F2 b->F b\/w.heap.size+1<=b:=fun b hb=>by
  have:=n2 b hb;rw [hns] at this;exact this
 have HF2A:=H_ hF2a;clear hg2 g2 a2 f2 n2 hf02 hF2a HC1;generalize hn':(C.num s L.length).2=n' at *;generalize (C.num s L.length).1=s1 at *;go_wp2_with fail
 go_loopg [7] gr (fun g s7 wr=>∃ (i:Nat) (si:σ) (Li:List Kv) (Fi:Nat->Prop) (vi:Value),s7 = .int .i64 i/\i<=Li.length/\Li.length+g<=10000000000/\Hid (Lst C.way (kvS C) kv0 n' g si Li i s' L')/\Hid (C.At wr si Fi)/\Hid (wr.heap[gx]? = some (.cells (cx.set ox vi).toArray ex (0,0))) ∧
  Hid (SlF wr 57 6 kvC vi Li)/\Hid (∀ b,vi.ownBlock=some b->¬ Fi b/\b≠gx/\b≠w.heap.size/\((Value.slice va L.length vcap).ownBlock=some b\/w.heap.size<=b))/\Hid (wr.heap[w.heap.size]? = some (.cells #[.int .i64 n'] 3 (0,0)))/\Hid (¬ Fi w.heap.size/\¬ Fi gx) ∧
  Hid (Fr (fun b=>F b\/b=gx\/(Value.slice va L.length vcap).ownBlock=some b) w wr)/\Hid (∀ b,Fi b->F b\/w.heap.size<=b))
 case atStart =>
  refine ⟨0,s1,L,F2,.slice va L.length vcap,rfl,by omega,by omega,HR,HA2,HG2,HL2,H_ (fun b hb=>?_),HNB2,H_ ⟨fun h=>?_,fun h=>?_⟩,HF02,H_ fun b hb=>?_⟩
  · have h1:=HLF.out b hb
    have h2:=HL.out.lt b hb;refine ⟨fun h=>?_,h1.2,by omega,.inl hb⟩;rcases HF2A.out b h with h | h
    · exact h1.1 h
    omega
  · rcases HF2A.out _ h with h | h
    · exact hnb h
    omega
  · rcases HF2A.out _ h with h | h
    · exact nF h
    omega
  rcases HF2A.out b hb with h | h
  · exact .inl h
  exact .inr (by omega)
 case round =>
  clear HR HA2 HG2 HL2 HNB2 HF02 HF2A c0 gv;obtain ⟨i,si,Li,Fi,vi,rfl,hi1,hi2,HLST,HAT,HGI,HSL,HVB,HNB,HNF,HF,HFI⟩:=hrel;have hk:=K.cell _ _ _ HAT.out;have c2:=hk.cell 2 rfl;have lcr:=hk.lt;have lgr:=zab HGI.out;have lnr:=zab HNB.out;have n0:wr.cell? ⟨w.heap.size,0,none⟩=some (.int .i64 n'):=cellAt HNB.out 0 rfl;clear hk
  cases gk with
  | zero =>
    have hl:=HLST.out
    cases hl with
    | stop _ _ _ hcond =>
      have HEND:Hid (LstP C w F gx ex cx ox (.slice va L.length vcap) 57 6 kvC s' L' wr):=H_ ⟨Fi,vi,HAT.out,HGI.out,HSL.out,fun b hb=>⟨(HVB.out b hb).1,(HVB.out b hb).2.1,(HVB.out b hb).2.2.2⟩,HF.out,HFI.out⟩;by_cases hlt:(i:Int) < n'
      · have hbad:C.bad s'=true:=by
         cases h:C.bad s' with
         | true=>rfl
         | false=>exact absurd ⟨hlt,h⟩ hcond
        rw [hbad] at c2;have hd:decide ((i:Int) < n')=true:=decide_eq_true hlt;clear hcond hbad;go_wp2_with fail;refine bodyPost_end (results_none rfl _ _ _) rfl ⟨rfl,HEND.out⟩
      have hd:decide ((i:Int) < n')=false:=decide_eq_false hlt
      clear hcond;go_wp2_with fail;refine bodyPost_end (results_none rfl _ _ _) rfl ⟨rfl,HEND.out⟩
  | succ g =>
    have hl:=HLST.out
    cases hl with
    | step _ _ _ L1 _ x _ _ hcond hL1 hx hrest =>
      have hd:decide ((i:Int) < n')=true:=decide_eq_true hcond.1;have hbad:C.bad si=false:=hcond.2;rw [hbad] at c2;obtain ⟨ia,icap,rfl,hic1,hic2,_⟩:=HSL.out.shape
      have gv:wr.cell? ⟨gx,ox,none⟩=some (.slice ia Li.length icap):=cellAt HGI.out ox (by
       have:=(List.getElem?_eq_some_iff.1 HOX.out).1;rw [List.getElem?_toArray,List.getElem?_set_self this])
      have gz:wr.frozen? ⟨gx,ox,none⟩=false:=(by unfold World.frozen?;rw [HGI.out];rfl);have HREST:=H_ hrest;have HXX:=H_ hx;have HL1:=H_ hL1;clear hcond hbad hL1 hx hrest;go_upto_if 35 with fail
      go_cut [7] (fun s7 wx=>s7 = .int .i64 i/\∃ v1,Hid (C.At wx si Fi)/\Hid (wx.heap[gx]? = some (.cells (cx.set ox v1).toArray ex (0,0)))/\Hid (SlF wx 57 6 kvC v1 L1)/\Hid (∀ b,v1.ownBlock=some b->¬ Fi b/\b≠gx/\b≠w.heap.size/\((Value.slice va L.length vcap).ownBlock=some b\/w.heap.size<=b))/\Hid (wx.heap[w.heap.size]? = some (.cells #[.int .i64 n'] 3 (0,0))) ∧
       Hid (Fr (fun b=>F b\/b=gx\/(Value.slice va L.length vcap).ownBlock=some b) w wx)/\wr.heap.size<=wx.heap.size)
      case first =>
       by_cases hnew:i=Li.length
       · have he:((i:Int) == (Li.length:Int))=true:=by rw [hnew];exact beq_self_eq_true _
         have HNEW:=H_ hnew;clear hnew;go_upto_region 7 with fail;have hz1:=zac wr (Obj.cells #[.string ⟨#[]⟩,.string ⟨#[]⟩,.int .i64 0,.int .i64 0,.int .i64 0,.int .i64 0] 57) _ rfl;have hfz:Fr No wr (wr.alloc (Obj.cells #[.string ⟨#[]⟩,.string ⟨#[]⟩,.int .i64 0,.int .i64 0,.int .i64 0,.int .i64 0] 57)):=(Fr.refl No wr).alloc _;generalize wr.alloc (Obj.cells #[.string ⟨#[]⟩,.string ⟨#[]⟩,.int .i64 0,.int .i64 0,.int .i64 0,.int .i64 0] 57)=W5 at *;generalize hzb:wr.heap.size=zb at *;obtain ⟨r0,r1,r2,r3,r4,r5⟩:=cells6 hz1;have lz5:=zab hz1;have gv5:=hfz.cell0 gv;have gz5:=hfz.free0 gv gz;have lg5:=World.block_lt_of_cell? _ _ gv5;have hne:(Value.slice ia Li.length icap).ownBlock≠some gx:=fun h=>(HVB.out gx h).2.1 rfl;obtain ⟨i0,hi0,hz0,hzz1,hzz2⟩:=info_parts info57
         have hnew2:=zas W5.drew [.string ⟨#[]⟩,.string ⟨#[]⟩,.int .i64 0,.int .i64 0,.int .i64 0,.int .i64 0] 57 (0,0);have HFZ:=H_ hfz;have HSL5:=H_ (HSL.out.fr0 hfz);have HNE:=H_ hne;have HZB:=H_ hzb;clear hz1 hfz hzb gv gz
         go_region_law (refine zbj rfl _ _ 53 rfl 57 i0 _ 6 64 Try.underlying53 hi0 hz0 hzz1 hzz2 rfl (by decide) _ Li rfl (HSL5.out.fr0 ((Fr.refl No W5).drew.alloc _)) W5.heap.size 1 kv0 rfl hnew2 rfl (ztk _) (by unfold maxLen;omega) (by omega) ?_;intro g1 o' cap w6 hs6 hg6 hb6 hlt6;have hf6:Fr (fun k=>(Value.slice ia Li.length icap).ownBlock=some k) W5 w6:=((Fr.refl _ W5).drew.alloc _).grown hg6 (fun k hk=>.inl hk);have e6:=hf6.cell gv5 hne;have ef6:=hf6.free gv5 gz5 hne;have HS6:=H_ hs6;have HB6:=H_ hb6;have HF6:=H_ hf6;clear hs6 hg6 hb6 hf6)
         all_goals
          go_wp2;go_meet
          case rel =>
           have hsz5:=HFZ.out.size;have hzbe:=HZB.out;have hown:=HSL.out.lt
           have hg1:g1≠gx/\g1≠w.heap.size/\¬ Fi g1/\((Value.slice va L.length vcap).ownBlock=some g1\/w.heap.size<=g1):=by
            rcases HB6.out with h | h
            · have h2:=HVB.out g1 h
              exact ⟨h2.2.1,h2.2.2.1,h2.1,h2.2.2.2⟩
            have h':g1=W5.heap.size+1:=by simpa using h
            have hl:=K.lt _ _ _ HAT.out;exact ⟨by omega,by omega,fun h2=>by have:=hl _ h2;omega,.inr (by omega)⟩
           have hfE:Fr (fun b=>(Value.slice ia Li.length icap).ownBlock=some b\/b=gx) wr (w6.setCell ⟨gx,ox,none⟩ (.slice (some ⟨g1,o',none⟩) (Li.length+1) cap)) :=
            (((HFZ.out.mono fun _ _ h=>h.elim).trans HF6.out fun _ _ h=>h).mono fun _ _ h=>.inl h).setCell (p:=⟨gx,ox,none⟩) (.inl (.inr rfl)) _
           have hgx6:w6.heap[gx]? = some (.cells (cx.set ox (.slice ia Li.length icap)).toArray ex (0,0)):=HF6.out.heap (HFZ.out.heap HGI.out id) HNE.out;refine ⟨rfl,.slice (some ⟨g1,o',none⟩) (Li.length+1) cap,H_ (K.fr _ _ _ _ _ HAT.out hfE fun b hb=>?_),H_ ?_,H_ ?_,H_ (fun b hb=>?_),H_ ?_,H_ ?_,?_⟩
           · rcases hb with h | rfl
             · exact (HVB.out b h).1
             exact HNF.out.2
           · rw [zaa hgx6]
             simp
           · have hL1e:L1=Li++[kv0]:=by rw [HL1.out,if_pos HNEW.out]
             rw [hL1e];exact HS6.out.other ⟨gx,ox,none⟩ _ (by simp [Value.ownBlock];exact hg1.1)
           · obtain rfl:g1=b:=by simpa [Value.ownBlock] using hb
             exact ⟨hg1.2.2.1,hg1.1,hg1.2.1,hg1.2.2.2⟩
           · exact hfE.heap HNB.out (by
              rintro (h | h)
              · exact (HVB.out _ h).2.2.1 rfl
              omega)
           · refine HF.out.trans hfE fun b _ h=>?_
             rcases h with h | h
             · rcases (HVB.out b h).2.2.2 with h2 | h2
               · exact .inr (.inr h2)
               omega
             exact .inr (.inl h)
           have:=hfE.size
           omega
       have he:((i:Int) == (Li.length:Int))=false:=beq_eq_false_iff_ne.2 (by omega)
       have hL1e:L1=Li:=(by rw [HL1.out,if_neg hnew]);have HL1E:=H_ hL1e;clear hL1e hnew;go_wp2_with fail;go_meet
       case rel=>exact ⟨rfl,_,HAT,HGI,H_ (by rw [HL1E.out];exact HSL.out),HVB,HNB,HF,Nat.le_refl _⟩
      case rest =>
       obtain ⟨rfl,v1,HAT1,HGI1,HSL1,HVB1,HNB1,HF1,hsz1⟩:=hcut;have hiL:i < L1.length:=(List.getElem?_eq_some_iff.1 HXX.out).1;have hL1l:L1.length<=Li.length+1:=(by rw [HL1.out];split <;> simp);obtain ⟨ja,jcap,rfl,hjc1,hjc2,hja⟩:=HSL1.out.shape;obtain ⟨B,oB,rfl⟩:=hja (by omega);obtain ⟨cs,hcs,hcs1,hcs2,hcs3,hcs4,hcs5⟩:=HSL1.out.row zag
       have gv1:wc.cell? ⟨gx,ox,none⟩=some (.slice (some ⟨B,oB,none⟩) L1.length jcap):=cellAt HGI1.out ox (by
        have:=(List.getElem?_eq_some_iff.1 HOX.out).1;rw [List.getElem?_toArray,List.getElem?_set_self this])
       have lg1:=zab HGI1.out;have lB:=zab hcs;have nFB:=HVB1.out B rfl;have hsmx:C.small (kvS C si x).1:=HREST.out.small (fun s x h=>zcl K s x h) hsm;have hCK:=zev K wc si Fi B 57 cs (oB+i * 6) x HAT1.out hcs (fun j u hu=>hcs5 i x HXX.out j u hu) nFB.1 hsmx;have HCK:=H_ hCK;have HNFB:=H_ nFB;have HCS:=H_ hcs;have HCS3:=H_ hcs3;have HCS4:=H_ hcs4;have hil:(i:Int) < (L1.length:Int):=(by omega);have hi0:0<=(i:Int):=(by omega);clear hCK nFB hcs hcs4 hcs5 hcs3 hsmx;go_wp2_with (go_at_call 96;refine HCK.out.mono ?_;rintro en w5 ⟨rfl,F5,a5,g5,f5,n5⟩);have HA5:=H_ a5;have HG5:=H_ g5;have HF5:=H_ f5;have HN5:=H_ n5;clear a5 g5 f5 n5;go_roundg g
       case rel =>
        have hl1:=K.lt _ _ _ HAT1.out;have hfw:=HF1.out.size;have hnn:∀ b,F5 b->Fi b\/wc.heap.size<=b:=HN5.out;refine ⟨i+1,_,L1.set i _,F5,.slice (some ⟨B,oB,none⟩) L1.length jcap,by go_num,by rw [List.length_set];omega,by rw [List.length_set];omega,HREST,HA5,H_ ?_,H_ ?_,H_ (fun b hb=>?_),H_ ?_,H_ ⟨fun h=>?_,fun h=>?_⟩,H_ ?_,H_ fun b hb=>?_⟩
        · exact HF5.out.heap HGI1.out (by
           rintro (h | h)
           · exact HNF.out.2 h
           exact HNFB.out.2.1 h.symm)
        · exact SlF.laidAt zag hcs1 hcs2 HCS3.out HCS4.out hiL _ HG5.out
        · obtain rfl:B=b:=by simpa [Value.ownBlock] using hb
          refine ⟨fun h=>?_,HNFB.out.2.1,HNFB.out.2.2.1,HNFB.out.2.2.2⟩;rcases hnn _ h with h2 | h2
          · exact HNFB.out.1 h2
          omega
        · exact HF5.out.heap HNB1.out (by
           rintro (h | h)
           · exact HNF.out.1 h
           exact HNFB.out.2.2.1 h.symm)
        · rcases hnn _ h with h2 | h2
          · exact HNF.out.1 h2
          omega
        · rcases hnn _ h with h2 | h2
          · exact HNF.out.2 h2
          omega
        · refine HF1.out.trans HF5.out fun b hb h=>?_
          rcases h with h | h
          · rcases HFI.out b h with h2 | h2
            · exact .inl h2
            omega
          subst h
          rcases HNFB.out.2.2.2 with h2 | h2
          · exact .inr (.inr h2)
          omega
        rcases hnn _ hb with h2 | h2
        · exact HFI.out b h2
        exact .inr (by omega)
       case measure=>omega
end Go.Proofs.Ythljnnjpmdgkoaa