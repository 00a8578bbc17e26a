/- Own lemmas and contracts that the claim's proof needs, laid together. The conditions stand in each. -/
import Derived.Test.YthljnnjpmdgkoaaN10
import Derived.Test.YthljnnjpmdgkoaaN11
import Derived.Test.YthljnnjpmdgkoaaN06
namespace Go.Proofs.Ythljnnjpmdgkoaa
open Go Go.Proofs Go.RowKit Go.Shelf
set_option maxRecDepth 100000
attribute [local go_sem] Oper.semAt_some
theorem znc (l t n₀ Bo:Nat) (hBo:Bo < n₀) (nv fv:Value) (Z:List Nz) (fl:List Nat) (root:Nat) (many:Int) (frm:ByteArray) (J Jx:Pairs->World->Prop) (N:Nat)
 (hJ:∀ pre W W',J pre W->Fr No W W'->J pre W')
 (hY:∀ m pre x W,J pre W->pre.length < N->YieldAt Fence.wide m Try.prog l (zde x) W fun e W' =>
   (e = .returned (.bool true)/\J (pre++[x]) W'/\KpR n₀ Bo W W')\/(e = .returned (.bool false)/\Jx (pre++[x]) W')) :
 ∀ (d n at_:Nat) (pre0:Pairs) (W:World),zdm W t n₀ Bo nv fv Z fl root many->nWf (ndsZ Z) d (ndA (ndsZ Z) at_)->at_ < (ndsZ Z).length->(ndA (ndsZ Z) at_).pairs.length<=9->Sorted (trav (ndsZ Z) d at_) →
  pre0.length+(fromT (trav (ndsZ Z) d at_) frm).length<=N->J pre0 W →
  CallsIn Fence.wide n Try.prog 128 #[.pointer (some ⟨t,0,none⟩),.int .i64 at_,.string frm,.func (.yield l) #[] #[]] W (zgn n₀ Bo J Jx pre0 (fromT (trav (ndsZ Z) d at_) frm) W)
 | 0,n,at_,pre0,W,h,hw,hl,h9,hs,hN,h0=>by
   obtain ⟨z,hz,hnd⟩:=zdt hl;have hf:=zpm (frm:=frm) hs;rw [hnd] at hf h9;have hk0:z.nd.kids = []:=(by rw [<-hnd];exact hw);rw [hf] at hN ⊢
   exact zrr n l t n₀ Bo hBo nv fv Z fl root many frm J Jx N hJ hY at_ z hz h9 hk0 pre0 hN W h h0
 | d+1,n,at_,pre0,W,h,hw,hl,h9,hs,hN,h0=>by
   obtain ⟨z,hz,hnd⟩:=zdt hl;have hf:=zoe (frm:=frm) hw hs;have hkl:(ndA (ndsZ Z) at_).kids.length=(ndA (ndsZ Z) at_).pairs.length+1:=hw.1
   have hK:∀ c∈(ndA (ndsZ Z) at_).kids,Sorted (trav (ndsZ Z) d c):=by
    intro c hc;obtain ⟨K1,K2,e⟩:=List.append_of_mem hc;have hlen:K1.length+1+K2.length=(ndA (ndsZ Z) at_).pairs.length+1:=(by rw [e] at hkl;simp at hkl;omega)
    have hn:ndA (ndsZ Z) at_=⟨(ndA (ndsZ Z) at_).pairs.take K1.length++[]++(ndA (ndsZ Z) at_).pairs.drop K1.length,K1++[c]++K2⟩:=by
     rw [List.append_nil,List.take_append_drop,List.append_assoc,List.singleton_append,<-e]
    have ht:=zcw (d:=d) hn (by simp;omega) (by simp;omega) rfl;rw [ht] at hs;exact hs.left.right
   have hww:=hw.2;unfold kidA at hf;rw [hnd] at hf h9 hkl hK hww;rw [hf] at hN ⊢
   exact zpn n l t n₀ Bo hBo nv fv Z fl root many frm J Jx N hJ hY at_ z hz h9 hkl (fun k=>fromT (trav (ndsZ Z) d k) frm)
    (fun m c pre W' hc hW hp hJ'=>znc l t n₀ Bo hBo nv fv Z fl root many frm J Jx N hJ hY d m c pre W' hW (hww c hc).2.2.2 (hww c hc).1 (hww c hc).2.2.1 (hK c hc) hp hJ') pre0 _ rfl hN W h h0
theorem ztw (n l t n₀ Bo Bt Bf:Nat) (hBo:Bo < n₀) (nv fv:Value) (Z:List Nz) (fl:List Nat) (root:Nat) (many:Int) (T:Pairs) (frm:ByteArray) (hg:GoodT (ndsZ Z) fl root T) (J Jx:Pairs->World->Prop)
 (hJ:∀ pre W W',J pre W->Fr No W W'->J pre W')
 (hY:∀ m pre x W,J pre W->pre.length < T.length->YieldAt Fence.wide m Try.prog l (zde x) W fun e W' =>
   (e = .returned (.bool true)/\J (pre++[x]) W'/\KpR n₀ Bo W W')\/(e = .returned (.bool false)/\Jx (pre++[x]) W'))
 (W:World) (h:zdm W t n₀ Bo nv fv Z fl root many)
 (hbt:W.cell? ⟨Bt,0,none⟩=some (.pointer (some ⟨t,0,none⟩))) (hbf:W.cell? ⟨Bf,0,none⟩=some (.string frm)) (h0:J [] W) :
 CallsIn Fence.wide n Try.prog 127 #[.func (.yield l) #[] #[],.pointer (some ⟨Bt,0,none⟩),.pointer (some ⟨Bf,0,none⟩)] W fun e W'=>(∃ v,e = .returned v) ∧
  ((∃ ys,ys=T.drop (spotOf T frm)/\J ys W')\/(∃ pre,pre <+: T.drop (spotOf T frm)/\Jx pre W')):=by
 have c2:=h.r.obj.cell 2 rfl;obtain ⟨D,hD⟩:=hg;have hft:fromT (trav (ndsZ Z) D root) frm=T.drop (spotOf T frm):=by rw [hD.trav];exact (zcy T hD.sorted frm).symm
 have hw:=znc l t n₀ Bo hBo nv fv Z fl root many frm J Jx T.length hJ hY D (n - 1) root [] W.drew (h.kp (KpR.of_fr (Fr.refl No W).drew h.size fun _ s=>s.elim)) hD.pt.wf hD.pt.lt hD.hi (by rw [hD.trav];exact hD.sorted)
  (by rw [hft];simp) (hJ _ _ _ h0 (Fr.refl _ _).drew)
 rw [hft] at hw;unfold zgn at hw;simp only [List.nil_append] at hw;clear hJ hY h h0 hft hD;refine callsIn_of_wp Try.func127 rfl trivial ?_ rfl;simp only [Try.ntmps127,List.size_toArray,List.length_cons,List.length_nil,Nat.reduceAdd,Nat.reduceSub,Array.replicate_succ,Array.replicate_zero,List.push_toArray,List.append_toArray,List.nil_append,List.cons_append]
 gi_wp2
 refine zbx 7 (fun _=>trivial) rfl (fun f args w R h=>callsIn_wide.2 h) (by kernel_rfl) (by kernel_rfl) ?_;simp only [List.take_succ_cons,List.take_zero,List.drop_succ_cons,List.drop_zero]
 repeat (refine wpStill_step (fun K hK=>?_);go_simp;(try go_bits);refine hK _ ?_;clear hK K)
 refine wpStill_nil ?_
 gi_wp2_with (refine ⟨trivial,hdd _,?_⟩;gi_at_call 128;refine hw.mono ?_;clear hw;rintro e W1 (⟨rfl,hJ1,hkk⟩ | ⟨rfl,q,hq,hx⟩))
 · go_end0
   exact ⟨⟨_,rfl⟩,.inl ⟨_,rfl,hJ1⟩⟩
 go_end0
 exact ⟨⟨_,rfl⟩,.inr ⟨q,hq,hx⟩⟩
theorem zpg (n t n₀ Bo Bt Bf:Nat) (hBo:Bo < n₀) (nv fv:Value) (Z:List Nz) (fl:List Nat) (root:Nat) (many:Int) (T:Pairs) (frm:ByteArray) (hg:GoodT (ndsZ Z) fl root T)
 (w:World) (h:zdm w t n₀ Bo nv fv Z fl root many)
 (hbt:w.cell? ⟨Bt,0,none⟩=some (.pointer (some ⟨t,0,none⟩))) (hbf:w.cell? ⟨Bf,0,none⟩=some (.string frm)) :
 SeqStopsK Fence.wide n Try.prog 127 #[.pointer (some ⟨Bt,0,none⟩),.pointer (some ⟨Bf,0,none⟩)] zde (KpR n₀ Bo) (fun ys=>ys=T.drop (spotOf T frm)) (fun pre=>pre <+: T.drop (spotOf T frm)) T.length w:=fun l J Jx W hW hJ _ hY h0=>by
 have hf:Fr No w W:=⟨hW.os,hW.tape,hW.output,hW.size,fun k hk _=>hW.block k hk⟩
 refine ztw n l t n₀ Bo Bt Bf hBo nv fv Z fl root many T frm hg J Jx (fun pre A B hA hAB=>?_) (fun m pre x W1 h1 h2=>zij rfl m (hY pre x W1 h1 h2)) W
  (h.kp (KpR.of_fr hf h.size fun _ s=>s.elim)) (hf.cell0 hbt) (hf.cell0 hbf) h0
 exact hJ _ _ _ none hA (zmi hAB) (fun r e=>by cases e)
set_option maxHeartbeats 1000000 in
theorem zrp (n:Nat) (hn:6<=n) (w:World) (t:Nat) (nv fv:Value) (Z:List Nz) (fl:List Nat) (root:Nat) (many:Int) (T:Pairs) (frm upr:ByteArray) (h:TreeR w t nv fv Z fl root many) (hg:GoodT (ndsZ Z) fl root T) (hZl:Z.length<=1099511627) (hs:Sorted T) (hT:T.length<=10000000) (hpos:0 < T.length) :
 CallsIn Fence.wide n Try.prog 69 #[.pointer (some ⟨t,0,none⟩),.string frm,.string upr,.int .i64 T.length] w fun e w' =>
  ∃ v,e = .returned v/\SlF w' 127 2 pairC v (rangeT T frm upr)/\Below w.heap.size w w'/\(∀ b,v.ownBlock=some b->w.heap.size<=b):=by
 have h1:1<=n:=by omega
 have H:=H_ h;clear h;have hTz:¬ (T.length:Int) < 1:=by omega
 refine callsIn_of_wp_marks Try.func69 rfl trivial ?_ rfl;simp only [Try.ntmps69,List.size_toArray,List.length_cons,List.length_nil,Nat.reduceAdd,Nat.reduceSub,Array.replicate_succ,Array.replicate_zero,List.push_toArray,List.append_toArray,List.nil_append,List.cons_append]
 gi_wp2_with (refine ⟨trivial,?_⟩;gi_at_call 108;refine (callsIn_wide.2 (zro _ _ _)).mono ?_;rintro e w' ⟨rfl,rfl⟩)
 obtain ⟨W0,hW0⟩:∃ W0,(((((w.alloc (Obj.cells #[Value.string upr] 9)).alloc (Obj.cells #[Value.int IntKind.i64 (T.length:Int)] 3)).alloc (Obj.cells #[Value.slice none 0 0] 124)).alloc
  (Obj.cells #[Value.pointer (some { block:=t,off:=0 })] 118)).alloc (Obj.cells #[Value.string frm] 9))=W0:=⟨_,rfl⟩
 have hsz:W0.heap.size=w.heap.size+5:=by rw [<-hW0];simp
 have b0:W0.heap[w.heap.size]? = some (.cells #[Value.string upr] 9 (0,0)):=by rw [<-hW0];exact zae (zae (zae (zae (zac _ _ _ rfl) _) _) _) _
 have b1:W0.heap[w.heap.size+1]? = some (.cells #[Value.int .i64 (T.length:Int)] 3 (0,0)):=by rw [<-hW0];exact zae (zae (zae (zac _ _ _ (by simp)) _) _) _
 have b2:W0.heap[w.heap.size+1+1]? = some (.cells #[Value.slice none 0 0] 124 (0,0)):=by rw [<-hW0];exact zae (zae (zac _ _ _ (by simp)) _) _
 have b3:W0.heap[w.heap.size+1+1+1]? = some (.cells #[Value.pointer (some { block:=t,off:=0 })] 118 (0,0)):=by rw [<-hW0];exact zae (zac _ _ _ (by simp)) _
 have b4:W0.heap[w.heap.size+1+1+1+1]? = some (.cells #[Value.string frm] 9 (0,0)):=by rw [<-hW0];exact zac _ _ _ (by simp)
 have hF0:Fr No w W0:=by rw [<-hW0];exact (((((Fr.refl No w).alloc _).alloc _).alloc _).alloc _).alloc _
 simp only [hW0];clear hW0;have hTW:TreeR W0 t nv fv Z fl root many:=H.out.fr0 hF0;have htl:=H.out.obj.lt;obtain ⟨i0,hi0,hz0,hz1,hz2⟩:=info_parts info127'
 refine wpIn_rangeFunc_ownH rfl h1 (gf:=127) (lb:=#[.pointer (some ⟨w.heap.size+1+1+1,0,none⟩),.pointer (some ⟨w.heap.size+1+1+1+1,0,none⟩)]) rfl trivial (enters_of Try.func127 (by kernel_rfl) rfl)
  (zpg (n - 1) t W0.heap.size (w.heap.size+1+1) (w.heap.size+1+1+1) (w.heap.size+1+1+1+1) (by omega) nv fv Z fl root many T frm hg W0
    ⟨hTW,Nat.le_refl _,fun b hb=>by have:=H.out.lt b hb;omega,hZl⟩ (by simp [World.cell?,b3]) (by simp [World.cell?,b4]))
  KpR.trans (KpR.putObj (Nat.le_refl _)) (Below.refl _ _) (fun _=>rfl)
  (fun pre W=>RgI w upr T.length W0.heap.size pre W/\Hid ((∀ x∈pre,ahead upr x=true)/\pre.length < T.length))
  (fun c pre W=>match c with
    | .exit id=>id=0/\∃ out,RgI w upr T.length W0.heap.size out W/\Hid ((∃ x,pre=out++[x]/\(∀ y∈out,ahead upr y=true)/\ahead upr x=false)\/(out=pre/\(∀ y∈out,ahead upr y=true)/\out.length=T.length))
    | _=>False)
  (fun s W W' row hs hg hr=>⟨hs.1.own (by omega) hg hr,hs.2⟩)
  (fun c s W W' row hs hg hr=>by
    cases c with
    | exit id=>obtain ⟨h1,out,h2,h3⟩:=hs;exact ⟨h1,out,h2.own (by omega) hg hr,h3⟩
    | _=>exact hs.elim)
  ⟨⟨b0,b1,⟨_,b2,SlF.nil _ _ _ _,by simp [Value.ownBlock]⟩,hF0.below0,Nat.le_refl _⟩,H_ ⟨by simp,by simpa using hpos⟩⟩
  (fun x a' W=>∃ Bx,W0.heap.size<=Bx/\W.heap[Bx]? = some (.cells #[.string x.1,.int .i64 x.2] 127 (0,0))/\a'=⟨#[.pointer (some ⟨t,0,none⟩),.string frm,.string upr,.int .i64 T.length,undef,undef,.pointer (some ⟨w.heap.size,0,none⟩),.pointer (some ⟨w.heap.size+1,0,none⟩),.slice none 0 0,.pointer (some ⟨w.heap.size+1+1,0,none⟩),.pointer (some ⟨Bx,0,none⟩),.int .i64 T.length,.bool false,.pointer (some ⟨t,0,none⟩),.string frm,.func (.func 127) #[] #[.pointer (some ⟨w.heap.size+1+1+1,0,none⟩),.pointer (some ⟨w.heap.size+1+1+1+1,0,none⟩)],.agg #[.string x.1,.int .i64 x.2],undef,undef,undef,undef,undef,undef,undef,undef,undef,undef,undef,undef,undef,undef,undef,undef,undef],[]⟩)
  (fun x a' s W W' row hs hg hr=>by
    obtain ⟨Bx,h1,h2,h3⟩:=hs;exact ⟨Bx,h1,(hg.block Bx (zab h2) fun e'=>by obtain ⟨_,o,ho,hc⟩:=hr Bx e'.symm;rw [h2] at ho;cases ho;cases hc).trans h2,h3⟩)
  ?assign ?body ?done ?stop
 case assign =>
  rintro l pre x W K ⟨hI,hpre⟩ hK;have hK':=H_ hK;clear hK;dsimp only [zde]
  gi_wp2
  exact hK'.out _ _ ((KeepsOthers.alloc _ _).from _) (KpR.of_fr ((Fr.refl No W).alloc _) hI.size fun _ s=>s.elim) ⟨hI.fr ((Fr.refl _ _).alloc _),hpre⟩ ⟨W.heap.size,hI.size,heap_alloc_new _ _,rfl⟩
 case body =>
  rintro l pre x a' W hl ⟨r,hr⟩ ⟨hI,hpre⟩ ⟨Bx,hBx,bX,rfl⟩ hlt;obtain ⟨v,c2,hv,hvn⟩:=hI.b2;obtain ⟨va,vcap,rfl,_,_,_⟩:=hv.shape;have x0:W.cell? ⟨Bx,0,none⟩=some (.string x.1):=cellAt bX 0 rfl;have x1:W.cell? ⟨Bx,1,none⟩=some (.int .i64 x.2):=cellAt bX 1 rfl;have y0:W.cell? ⟨w.heap.size,0,none⟩=some (.string upr):=(by simp [World.cell?,hI.b0]);have y1:W.cell? ⟨w.heap.size+1,0,none⟩=some (.int .i64 T.length):=(by simp [World.cell?,hI.b1]);have y2:W.cell? ⟨w.heap.size+1+1,0,none⟩=some (.slice va pre.length vcap):=cellAt c2 0 rfl;have HP:=hpre;have hpl:=hpre.out.2;have hnew:=zas W [.string x.1,.int .i64 x.2] 127 (0,0);have hBl:=zab bX;have hsl:w.heap.size+1+1 < W.heap.size:=zab c2;have HI:=H_ hI;clear hI hpre;by_cases hah:ahead upr x=true
  · have hcs:upr.toList.isEmpty=true\/(upr.toList.isEmpty=false/\Op.bytesLess x.1.toList upr.toList=true):=by
     unfold ahead klt at hah;cases h0:upr.toList.isEmpty
     · right;refine ⟨rfl,?_⟩;simpa [h0] using hah
     left;rfl
    have HAH:=H_ hah;clear hah;by_cases hlast:pre.length+1=T.length
    · have hd:((pre.length:Int)+1 == (T.length:Int))=true:=by simp;omega
      have HLAST:=H_ hlast;clear hlast;rcases hcs with he | ⟨he,hk⟩
      all_goals
       gi_wp2_with (gi_at_builtin;refine zcv rfl _ _ 124 rfl 127 i0 _ 2 24 Try.underlying124 hi0 hz0 hz1 hz2 rfl (by decide) (.slice va pre.length vcap) pre rfl (hv.alloc _) W.heap.size 1 x rfl (by simpa [pairC] using hnew) rfl (by intro u hu;simp [pairC] at hu;rcases hu with rfl | rfl <;> rfl) (by unfold maxLen;omega) (by omega) ?_)
       intro g o' cap w1 hs1 hg1 hb1 hlt1;obtain ⟨e2,G1,G2,G3⟩:=RgI.grow HI.out (by omega) c2 hv hvn hs1 hg1 (by simpa using hb1);have z2:w1.cell? ⟨w.heap.size+1+1,0,none⟩=some (.slice va pre.length vcap):=cellAt e2 0 rfl;have zf:w1.frozen? ⟨w.heap.size+1+1,0,none⟩=false:=(by simp [World.frozen?,e2]);have HF:Fr (fun b=>(Value.slice va pre.length vcap).ownBlock=some b) W w1:=(((Fr.refl _ W).alloc _).grown hg1 fun k hk=>.inl hk);have z1:=HF.cell y1 (fun e=>by have:=hvn _ e;simp at this;omega);have HG:=H_ (And.intro G1 (And.intro G2 G3));clear hs1 hg1 hb1 G1 G2 G3 HF hnew e2
       gi_wp2
       have hall:∀ y∈pre++[x],ahead upr y=true:=by
        intro y hy;rcases List.mem_append.1 hy with h | h
        · exact HP.out.1 y h
        simp at h;subst h;exact HAH.out
       exact ⟨HG.out.2.1,rfl,_,HG.out.1,H_ (.inr ⟨rfl,hall,by simpa using HLAST.out⟩)⟩
    have hd:((pre.length:Int)+1 == (T.length:Int))=false:=by simp;omega
    rcases hcs with he | ⟨he,hk⟩
    all_goals
     gi_wp2_with (gi_at_builtin;refine zcv rfl _ _ 124 rfl 127 i0 _ 2 24 Try.underlying124 hi0 hz0 hz1 hz2 rfl (by decide) (.slice va pre.length vcap) pre rfl (hv.alloc _) W.heap.size 1 x rfl (by simpa [pairC] using hnew) rfl (by intro u hu;simp [pairC] at hu;rcases hu with rfl | rfl <;> rfl) (by unfold maxLen;omega) (by omega) ?_)
     intro g o' cap w1 hs1 hg1 hb1 hlt1;obtain ⟨e2,G1,G2,G3⟩:=RgI.grow HI.out (by omega) c2 hv hvn hs1 hg1 (by simpa using hb1);have z2:w1.cell? ⟨w.heap.size+1+1,0,none⟩=some (.slice va pre.length vcap):=cellAt e2 0 rfl;have zf:w1.frozen? ⟨w.heap.size+1+1,0,none⟩=false:=(by simp [World.frozen?,e2]);have HF:Fr (fun b=>(Value.slice va pre.length vcap).ownBlock=some b) W w1:=(((Fr.refl _ W).alloc _).grown hg1 fun k hk=>.inl hk);have z1:=HF.cell y1 (fun e=>by have:=hvn _ e;simp at this;omega);have HG:=H_ (And.intro G1 (And.intro G2 G3));clear hs1 hg1 hb1 G1 G2 G3 HF hnew e2
     gi_wp2
     have hall:∀ y∈pre++[x],ahead upr y=true:=by
      intro y hy;rcases List.mem_append.1 hy with h | h
      · exact HP.out.1 y h
      simp at h;subst h;exact HAH.out
     exact ⟨HG.out.2.1,HG.out.2.2,HG.out.1,H_ ⟨hall,by simp;omega⟩⟩
  simp only [Bool.not_eq_true] at hah
  have HAH:=H_ hah
  have hcs:upr.toList.isEmpty=false/\Op.bytesLess x.1.toList upr.toList=false:=by
   unfold ahead klt at hah;simpa using hah
  obtain ⟨he,hk⟩:=hcs;clear hah
  gi_wp2
  exact ⟨KeepsFrom.refl _ _,rfl,pre,HI.out,H_ (.inl ⟨x,rfl,HP.out.1,HAH.out⟩)⟩
 case done =>
  rintro D xs W hD rfl ⟨hI,hpre⟩ hK;obtain ⟨v,c2,hv,hvn⟩:=hI.b2;have y2:W.cell? ⟨w.heap.size+1+1,0,none⟩=some v:=cellAt c2 0 rfl;have hr:Hid (rangeT T frm upr=T.drop (spotOf T frm)):=H_ (by rw [zkn T hs];exact zey hpre.out.1)
  gi_wp2
  refine ⟨by simp,.inl ⟨_,_,rfl,run_takeDeferred hK,?_⟩⟩;have hg:=grownBy_putObj' W D (.deferred none);refine ⟨_,results_tmp rfl _ _ _,v,rfl,?_,hI.below.grown hg hI.below.size (fun k e=>by cases e;omega),fun b hb=>by have:=hvn b hb;omega⟩;rw [hr.out];refine Sl.keep hv fun k hk=>hg.block k (hv.lt k hk) fun e=>?_;cases e
  rcases hv.2 with ⟨rfl,_⟩ | ⟨g',o',cap',cur,rfl,hgg,_⟩
  · simp [Value.ownBlock] at hk
  obtain rfl:g'=D:=by simpa [Value.ownBlock] using hk
  rw [hgg] at hK;cases hK
 case stop =>
  rintro D c pre W hD hSp hIx hK
  cases c with
  | exit id =>
    obtain ⟨rfl,out,hI,HO⟩:=hIx;obtain ⟨v,c2,hv,hvn⟩:=hI.b2;have y2:W.cell? ⟨w.heap.size+1+1,0,none⟩=some v:=cellAt c2 0 rfl
    have hr:Hid (rangeT T frm upr=out):=H_ (by
     rw [zkn T hs];rcases HO.out with ⟨x,rfl,h1,h2⟩ | ⟨rfl,h1,h2⟩
     · obtain ⟨rest,hrest⟩:=hSp
       exact zim (r:=rest) (by rw [<-hrest];simp) h1 h2
     obtain ⟨rest,hrest⟩:=hSp
     have hl:=congrArg List.length hrest;simp at hl;obtain rfl:rest = []:=List.eq_nil_of_length_eq_zero (by omega);rw [<-hrest,List.append_nil];exact zey h1)
    gi_wp2
    refine ⟨by simp,.inl ⟨_,_,rfl,run_takeDeferred hK,?_⟩⟩;have hg:=grownBy_putObj' W D (.deferred none);refine ⟨_,results_tmp rfl _ _ _,v,rfl,?_,hI.below.grown hg hI.below.size (fun k e=>by cases e;omega),fun b hb=>by have:=hvn b hb;omega⟩;rw [hr.out];refine Sl.keep hv fun k hk=>hg.block k (hv.lt k hk) fun e=>?_;cases e
    rcases hv.2 with ⟨rfl,_⟩ | ⟨g',o',cap',cur,rfl,hgg,_⟩
    · simp [Value.ownBlock] at hk
    obtain rfl:g'=D:=by simpa [Value.ownBlock] using hk
    rw [hgg] at hK;cases hK
  | _=>exact hIx.elim
def ztx (w:World) (t:Nat) (T:Pairs) (F:Nat->Prop):Prop :=
 ∃ A fl root,TreeZ w t A fl root T.length F/\GoodT A fl root T/\A.length<=1000002/\T.length<=1000000
theorem zpu:TreeOk ztx 1000000 where
 lt h:=by obtain ⟨A,fl,root,h,_⟩:=h;exact h.lt
 fr h hf hn:=by obtain ⟨A,fl,root,h,h2⟩:=h;exact ⟨A,fl,root,h.fr hf hn,h2⟩
 root h:=by obtain ⟨A,fl,root,⟨nv,fv,Z,_,_,hF⟩,h2⟩:=h;exact (hF _).2 (.inl rfl)
 sorted h:=by obtain ⟨A,fl,root,_,⟨D,hD⟩,_⟩:=h;exact hD.sorted
 new w:=by
  refine (zpj w).mono ?_;rintro e w' ⟨t,rfl,F,h1,h2,h3⟩;exact ⟨t,rfl,F,⟨_,_,_,h1,zsp,by simp,by simp⟩,h2,h3⟩
 len h:=by obtain ⟨A,fl,root,h,_⟩:=h;exact zpk _ _ _ _ _ _ _ h
 get key h:=by obtain ⟨A,fl,root,h,h2,h3,_⟩:=h;exact zpl _ _ _ _ _ _ _ _ key h h2 (by omega)
 set {w t T F} key m h hl:=by
  obtain ⟨A,fl,root,h,h2,h3,_⟩:=h;obtain ⟨g,a1,a2,a3,a4,a5⟩:=ztc h2 key m 1000000 (by omega) hl;refine (zph w t A fl root T.length F T key m h h2 1000000 (Nat.le_refl _) (by omega) hl ⟨by omega,by omega⟩ g a1 a4).mono ?_;rintro e w' ⟨he,F',b1,b2,b3⟩
  have hlen:(insT T key m).length=T.length+if (getT T key).2 then 1 - 1 else 1:=by
   obtain ⟨D,hD⟩:=h2;exact znt key m T hD.sorted
  refine ⟨he,F',⟨_,_,_,?_,a3,by omega,by rw [hlen];split <;> omega⟩,b2,b3⟩
  have e2:((insT T key m).length:Int)=(T.length:Int)+if (setA g (growA A fl root).1 (growA A fl root).2.1 (growA A fl root).2.2 key m).2.2 then 1 else 0:=by
   rw [a2,hlen];cases (getT T key).2 <;> simp
  rw [e2];exact b1
 range {w t T F} frm upr h:=by
  obtain ⟨A,fl,root,⟨nv,fv,Z,h,rfl,hF⟩,h2,h3,h4⟩:=h;rcases Nat.eq_zero_or_pos T.length with h0 | hp
  · obtain rfl:=List.eq_nil_of_length_eq_zero h0
    refine (zpi w t frm upr).mono ?_;rintro e w' ⟨rfl,hf⟩;exact ⟨_,rfl,SlF.nil _ _ _ _,hf,by simp [Value.ownBlock]⟩
  have hsT:Sorted T:=by obtain ⟨D,hD⟩:=h2;exact hD.sorted
  rw [zaz] at h3;refine (callsIn_wide.1 (zrp 6 (by omega) w t nv fv Z fl root T.length T frm upr h h2 (by omega) hsT (by omega) hp)).mono ?_;rintro e w' ⟨v,rfl,h1,h2,h3⟩;exact ⟨v,rfl,h1,Fr.of_below h2,h3⟩
open Go Go.Proofs Go.RowKit
def KeyAt (w:World) (g:Nat) (K:List Gen) (last:Int) (F:Nat->Prop):Prop :=
 ∃ gv Z,KeyRep w g gv Z last/\Z.map (·.1)=K/\∀ b,F b ↔ keyF g gv Z b
theorem ztl {w:World} {g:Nat} {gv:Value} {Z:List (Gen × Value)} {last:Int} (h:KeyRep w g gv Z last):∀ b,keyF g gv Z b->b < w.heap.size:=by
 rintro b (rfl | e | ⟨i,p,hp,e⟩)
 · exact h.obj.lt
 · exact h.gens.lt b e
 exact (h.puts i p hp).lt b e
theorem KeyAt.lt {w:World} {g:Nat} {K:List Gen} {last:Int} {F:Nat->Prop} (h:KeyAt w g K last F):∀ b,F b->b < w.heap.size:=by
 obtain ⟨gv,Z,h,_,hF⟩:=h;exact fun b hb=>ztl h b ((hF b).1 hb)
theorem KeyRep.fr {w w':World} {g:Nat} {gv:Value} {Z:List (Gen × Value)} {last:Int} {S:Nat->Prop} (h:KeyRep w g gv Z last) (hf:Fr S w w') (hn:∀ b,keyF g gv Z b->¬ S b):KeyRep w' g gv Z last :=
 ⟨h.obj.fr hf (hn g (.inl rfl)),h.gens.fr hf fun k hk=>hn k (.inr (.inl hk)),fun i p hp=>(h.puts i p hp).fr hf fun k hk=>hn k (.inr (.inr ⟨i,p,hp,hk⟩)),h.apart,h.apart2,h.own⟩
theorem KeyAt.fr {w w':World} {g:Nat} {K:List Gen} {last:Int} {F S:Nat->Prop} (h:KeyAt w g K last F) (hf:Fr S w w') (hn:∀ b,F b->¬ S b):KeyAt w' g K last F:=by
 obtain ⟨gv,Z,h,hZ,hF⟩:=h;exact ⟨gv,Z,h.fr hf fun b hb=>hn b ((hF b).2 hb),hZ,hF⟩
def putK (K:List Gen) (rev:Int):List Gen :=
 if isOpen K then K.modify (K.length - 1) fun x=>{ x with puts:=x.puts++[rev] } else K++[{ create:=rev,cut:=0,puts:=[rev],end_:=0 }]
def Fits (K:List Gen):Prop:=K.length<=1099511627/\∀ x∈K,x.puts.length<=1099511627/\0<=x.cut/\x.cut<=1099511627776
theorem zqf (w:World) (g:Nat) (K:List Gen) (last rev:Int) (F:Nat->Prop) (h:KeyAt w g K last F) (hK:Fits K) :
 Calls Try.prog 145 #[.pointer (some ⟨g,0,none⟩),.int .i64 rev] w fun e w'=>e = .returned (.int .i64 0) ∧
  ∃ F',KeyAt w' g (putK K rev) last F'/\Fr F w w'/\(∀ b,F' b->F b\/w.heap.size<=b):=by
 obtain ⟨gv,Z,h,rfl,hF⟩:=h;have hl:Z.length<=1099511627:=by have:=hK.1;simpa using this
 by_cases ho:isOpen (Z.map (·.1))=true
 · have hz:Z.length≠0:=by
    intro hz;obtain rfl:=List.eq_nil_of_length_eq_zero hz;simp [isOpen] at ho
   obtain ⟨x,pv,hx⟩:∃ x pv,Z[Z.length - 1]? = some (x,pv):=⟨_,_,List.getElem?_eq_getElem (by omega)⟩;have hp:x.puts.length<=1099511627:=(hK.2 x (List.mem_map.2 ⟨_,List.mem_of_getElem? hx,rfl⟩)).1;refine (zrz w g gv Z last rev x pv h hx ho (by omega) (by omega)).mono ?_;rintro e w' ⟨rfl,v',h',hf,hv⟩;refine ⟨rfl,_,⟨gv,_,h',?_,fun b=>Iff.rfl⟩,hf.mono fun b _ hb=>(hF b).2 hb,?_⟩
   · unfold putK
     rw [if_pos ho];apply List.ext_getElem?;intro i;have hzl:Z.length - 1 < Z.length:=(by omega);by_cases hi:Z.length - 1=i
     · subst hi
       have hx':Z[Z.length - 1] = (x,pv):=(List.getElem?_eq_some_iff.1 hx).2;simp [hzl,hx']
     simp [hi]
   rintro b (rfl | e | ⟨i,q,hq,e⟩)
   · exact .inl ((hF _).2 (.inl rfl))
   · exact .inl ((hF _).2 (.inr (.inl e)))
   rw [List.getElem?_set] at hq
   split at hq
   · split at hq
     · simp at hq
       subst hq;rcases hv b e with e | e
       · exact .inl ((hF _).2 (.inr (.inr ⟨_,_,hx,e⟩)))
       exact .inr e
     cases hq
   exact .inl ((hF _).2 (.inr (.inr ⟨_,_,hq,e⟩)))
 simp only [Bool.not_eq_true] at ho
 refine (zte w g gv Z last rev h ho hl).mono ?_;rintro e w' ⟨rfl,gv',v',h',hf,hv,hgv⟩;refine ⟨rfl,_,⟨gv',_,h',?_,fun b=>Iff.rfl⟩,hf.mono fun b _ hb=>(hF b).2 hb,?_⟩
 · unfold putK
   rw [ho];simp [zbl]
 rintro b (rfl | e | ⟨i,q,hq,e⟩)
 · exact .inl ((hF _).2 (.inl rfl))
 · rcases hgv b e with e | e
   · exact .inl ((hF _).2 (.inr (.inl e)))
   exact .inr e
 rw [List.getElem?_append] at hq
 split at hq
 · exact .inl ((hF _).2 (.inr (.inr ⟨_,_,hq,e⟩)))
 rw [List.getElem?_singleton] at hq
 split at hq
 · simp at hq
   subst hq;exact .inr (hv b e)
 cases hq
theorem KeyAt.setLast {w w':World} {g:Nat} {K:List Gen} {last:Int} {F:Nat->Prop} (h:KeyAt w g K last F) (rev:Int) (hw:w'=w.setCell ⟨g,1,none⟩ (.int .i64 rev)):KeyAt w' g K rev F:=by
 subst hw;obtain ⟨gv,Z,h,hZ,hF⟩:=h;refine ⟨gv,Z,⟨h.obj.set 1 _,h.gens.other _ _ h.own,fun i p hp=>(h.puts i p hp).other _ _ fun e=>(h.apart i p hp _ e).1 rfl,h.apart,h.apart2,h.own⟩,hZ,hF⟩
theorem KeyAt.cells {w:World} {g:Nat} {K:List Gen} {last:Int} {F:Nat->Prop} (h:KeyAt w g K last F):w.cell? ⟨g,1,none⟩=some (.int .i64 last)/\w.frozen? ⟨g,1,none⟩=false/\F g/\g < w.heap.size:=by
 obtain ⟨gv,Z,h,hZ,hF⟩:=h;exact ⟨h.obj.cell 1 rfl,h.obj.free 1,(hF g).2 (.inl rfl),h.obj.lt⟩
theorem zlm (w:World) (g:Nat) (K:List Gen) (last rev:Int) (F:Nat->Prop) (h:KeyAt w g K last F) (hK:Fits K) (h1:1<=rev) (h2:rev<=1099511627776) (h3:last < rev) :
 Calls Try.prog 125 #[.pointer (some ⟨g,0,none⟩),.int .i64 rev] w fun e w'=>e = .returned (.int .i64 0) ∧
  ∃ F',KeyAt w' g (putK K rev) rev F'/\Fr F w w'/\(∀ b,F' b->F b\/w.heap.size<=b):=by
 have hput:=zqf w g K last rev F h hK;obtain ⟨hc,hfr,hFg,hgl⟩:=h.cells;have hmf:∀ (fn:Fn) (first cap:Array Value) (w:World),(Instr.makeFunc fn first cap).run Try.prog w = .ok (.func fn first cap) w:=fun _ _ _ _=>rfl;have t1:¬ rev < 1:=by omega
 have t2:¬ 1099511627776 < rev:=by omega
 have t3:¬ rev<=last:=by omega
 clear h hK;go_enter Try.func125,Try.ntmps125
 go_wp2_with (first
  | (go_at_call 145;refine hput.mono ?_;clear hput;rintro e w1 ⟨rfl,F',hk1,hf1,hF1⟩;obtain ⟨hc1,hfr1,_,_⟩:=hk1.cells;have HK:=H_ hk1;clear hk1)
  | (go_at_call 131;go_in))
 go_ret;refine ⟨rfl,F',HK.out.setLast rev rfl,hf1.setCell (.inl hFg) _,hF1⟩
def tombK (K:List Gen) (rev:Int):List Gen:=K.modify (K.length - 1) fun x=>{ x with end_:=rev }
theorem zgt (w:World) (g:Nat) (K:List Gen) (last rev:Int) (F:Nat->Prop) (h:KeyAt w g K last F) (hK:Fits K) (ho:isOpen K=true) :
 Calls Try.prog 132 #[.pointer (some ⟨g,0,none⟩),.int .i64 rev] w fun e w'=>e = .returned (.int .i64 0)/\KeyAt w' g (tombK K rev) last F/\Fr F w w':=by
 obtain ⟨gv,Z,h,rfl,hF⟩:=h;have hl:Z.length<=1099511627:=by have:=hK.1;simpa using this
 have hz:Z.length≠0:=by
  intro hz;obtain rfl:=List.eq_nil_of_length_eq_zero hz;simp [isOpen] at ho
 obtain ⟨x,pv,hx⟩:∃ x pv,Z[Z.length - 1]? = some (x,pv):=⟨_,_,List.getElem?_eq_getElem (by omega)⟩;obtain ⟨a,cap,rfl,hc1,hc2,ha⟩:=h.gens.shape;obtain ⟨gb,go,rfl⟩:=ha (by omega);have hopen:=zhh w g gb go cap Z last h ho (by omega);have hc:=h.gens.cell zax (Z.length - 1) 3 hx rfl;have hfr:=h.gens.free (go+(Z.length - 1) * 4+3);have hzl:Z.length - 1 < Z.length:=by omega
 have hgb:gb < w.heap.size:=h.gens.lt gb rfl;have H:=H_ h;clear h;have HX:=H_ hx;clear hx;clear ha ho hK hz;have HF:=H_ hF;clear hF;go_enter Try.func132,Try.ntmps132;go_wp2_with (go_at_call 148;refine hopen.mono ?_;clear hopen;rintro e w' ⟨rfl,rfl⟩);go_ret;have h:=H.out;have hx:=HX.out;have hF:=HF.out;refine ⟨rfl,⟨.slice (some ⟨gb,go,none⟩) Z.length cap,Z.set (Z.length - 1) ({ x with end_:=rev },pv),?_,?_,?_⟩,(Fr.refl _ w).setCell (p:=⟨gb,go+(Z.length - 1) * 4+3,none⟩) (.inl ((hF gb).2 (.inr (.inl rfl)))) _⟩
 · constructor
   · exact h.obj.other _ _ fun e=>h.own (by rw [e];rfl)
   · simpa using h.gens.set zax _ 3 (by omega) (x,pv) ({ x with end_:=rev },pv) _ hx rfl
   · intro i q hq
     rw [List.getElem?_set] at hq
     split at hq
     · simp at hq
       subst hq;exact (h.puts _ _ hx).other _ _ fun e=>(h.apart _ _ hx _ e).2 rfl
     exact (h.puts _ _ hq).other _ _ fun e=>(h.apart _ _ hq _ e).2 rfl
   · intro i q hq b hb
     rw [List.getElem?_set] at hq
     split at hq
     · simp at hq
       subst hq;exact h.apart _ _ hx b hb
     exact h.apart _ _ hq b hb
   · intro i j q r hq hr b hb hb'
     rw [List.getElem?_set] at hq hr
     split at hq <;> split at hr
     · omega
     · rename_i e1 e2
       simp at hq;subst hq;exact e1 ▸ h.apart2 _ _ _ _ hx hr b hb hb'
     · rename_i e1 e2
       simp at hr;subst hr;exact e2 ▸ h.apart2 _ _ _ _ hq hx b hb hb'
     exact h.apart2 _ _ _ _ hq hr b hb hb'
   exact h.own
 · unfold tombK
   apply List.ext_getElem?;intro i;by_cases hi:Z.length - 1=i
   · subst hi
     have hx':Z[Z.length - 1] = (x,pv):=(List.getElem?_eq_some_iff.1 hx).2;simp [hzl,hx']
   simp [hi]
 intro b
 rw [hF]
 constructor
 · rintro (rfl | e | ⟨i,q,hq,e⟩)
   · exact .inl rfl
   · exact .inr (.inl e)
   by_cases hi:Z.length - 1=i
   · subst hi
     rw [hx] at hq;cases hq
     exact .inr (.inr ⟨Z.length - 1,({ x with end_:=rev },pv),by simp [hzl],e⟩)
   exact .inr (.inr ⟨i,q,by simp [hi,hq],e⟩)
 rintro (rfl | e | ⟨i,q,hq,e⟩)
 · exact .inl rfl
 · exact .inr (.inl e)
 rw [List.getElem?_set] at hq
 split at hq
 · simp at hq
   subst hq;exact .inr (.inr ⟨_,_,hx,e⟩)
 exact .inr (.inr ⟨_,_,hq,e⟩)
theorem zih (w:World) (g:Nat) (K:List Gen) (last rev:Int) (F:Nat->Prop) (h:KeyAt w g K last F) (hK:Fits K) (ho:isOpen K=true) (h1:1<=rev) (h2:rev<=1099511627776) (h3:last < rev) :
 Calls Try.prog 113 #[.pointer (some ⟨g,0,none⟩),.int .i64 rev] w fun e w'=>e = .returned (.int .i64 0)/\KeyAt w' g (tombK K rev) rev F/\Fr F w w':=by
 have htomb:=zgt w g K last rev F h hK ho;obtain ⟨hc,hfr,hFg,hgl⟩:=h.cells;have hmf:∀ (fn:Fn) (first cap:Array Value) (w:World),(Instr.makeFunc fn first cap).run Try.prog w = .ok (.func fn first cap) w:=fun _ _ _ _=>rfl;have t1:¬ rev < 1:=by omega
 have t2:¬ 1099511627776 < rev:=by omega
 have t3:¬ rev<=last:=by omega
 clear h hK ho;go_enter Try.func113,Try.ntmps113
 go_wp2_with (first
  | (go_at_call 132;refine htomb.mono ?_;clear htomb;rintro e w1 ⟨rfl,hk1,hf1⟩;obtain ⟨hc1,hfr1,_,_⟩:=hk1.cells;have HK:=H_ hk1;clear hk1)
  | (go_at_call 131;go_in))
 go_ret;exact ⟨rfl,HK.out.setLast rev rfl,hf1.setCell (.inl hFg) _⟩
theorem zfj (w:World):Calls Try.prog 124 #[] w fun e w'=>∃ g,e = .returned (.pointer (some ⟨g,0,none⟩))/\∃ F,KeyAt w' g [] 0 F/\Fr No w w'/\(∀ b,F b->w.heap.size<=b):=by
 go_enter Try.func124,Try.ntmps124;go_wp2;go_ret;refine ⟨_,rfl,keyF w.heap.size (.slice none 0 0) [],⟨.slice none 0 0,[],⟨Has.new w _ _,SlF.nil _ _ _ _,by simp,by simp,by simp,by simp [Value.ownBlock]⟩,rfl,fun b=>Iff.rfl⟩,(Fr.refl _ w).alloc _,?_⟩;rintro b (rfl | e | ⟨i,q,hq,e⟩)
 · omega
 · simp [Value.ownBlock] at e
 simp at hq
end Go.Proofs.Ythljnnjpmdgkoaa