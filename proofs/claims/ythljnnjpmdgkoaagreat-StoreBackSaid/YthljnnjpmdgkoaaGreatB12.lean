/- Own lemmas and contracts that the claim's proof needs, laid together. The conditions stand in each. -/
import Derived.Test.YthljnnjpmdgkoaaGreatB11
import Derived.Test.YthljnnjpmdgkoaaGreatB10
import Derived.Test.YthljnnjpmdgkoaaGreatB05
namespace Go.Proofs.YthljnnjpmdgkoaaGreat
open Go Go.Proofs Go.RowKit Go.Shelf
set_option maxRecDepth 100000
attribute [local go_sem] Oper.semAt_some
theorem zov (l t n₀ Bo:Nat) (hBo:Bo < n₀) (nv fv:Value) (Z:List Nz) (fl:List Nat) (root:Nat) (many:Int) (frm:ByteArray) (J Jx:Pairs->World->Prop) (N:Nat)
 (hJ:∀ pre W W',J pre W->Fr No W W'->J pre W')
 (hY:∀ m pre x W,J pre W->pre.length < N->YieldAt Fence.wide m Tryz.prog l (zdt x) W fun e W' =>
   (e = .returned (.bool true)/\J (pre++[x]) W'/\KpR n₀ Bo W W')\/(e = .returned (.bool false)/\Jx (pre++[x]) W')) :
 ∀ (d n at_:Nat) (pre0:Pairs) (W:World),zeh W t n₀ Bo nv fv Z fl root many->nWf (ndsZ Z) d (ndA (ndsZ Z) at_)->at_ < (ndsZ Z).length->(ndA (ndsZ Z) at_).pairs.length<=9->Sorted (trav (ndsZ Z) d at_) →
  pre0.length+(fromT (trav (ndsZ Z) d at_) frm).length<=N->J pre0 W →
  CallsIn Fence.wide n Tryz.prog 153 #[.pointer (some ⟨t,0,none⟩),.int .i64 at_,.string frm,.func (.yield l) #[] #[]] W (zhj n₀ Bo J Jx pre0 (fromT (trav (ndsZ Z) d at_) frm) W)
 | 0,n,at_,pre0,W,h,hw,hl,h9,hs,hN,h0=>by
   obtain ⟨z,hz,hnd⟩:=zcm hl;have hf:=zrm (frm:=frm) hs;rw [hnd] at hf h9;have hk0:z.nd.kids = []:=(by rw [<-hnd];exact hw);rw [hf] at hN ⊢
   exact ztv n l t n₀ Bo hBo nv fv Z fl root many frm J Jx N hJ hY at_ z hz h9 hk0 pre0 hN W h h0
 | d+1,n,at_,pre0,W,h,hw,hl,h9,hs,hN,h0=>by
   obtain ⟨z,hz,hnd⟩:=zcm hl;have hf:=zpz (frm:=frm) hw hs;have hkl:(ndA (ndsZ Z) at_).kids.length=(ndA (ndsZ Z) at_).pairs.length+1:=hw.1
   have hK:∀ c∈(ndA (ndsZ Z) at_).kids,Sorted (trav (ndsZ Z) d c):=by
    intro c hc;obtain ⟨K1,K2,e⟩:=List.append_of_mem hc;have hlen:K1.length+1+K2.length=(ndA (ndsZ Z) at_).pairs.length+1:=(by rw [e] at hkl;simp at hkl;omega)
    have hn:ndA (ndsZ Z) at_=⟨(ndA (ndsZ Z) at_).pairs.take K1.length++[]++(ndA (ndsZ Z) at_).pairs.drop K1.length,K1++[c]++K2⟩:=by
     rw [List.append_nil,List.take_append_drop,List.append_assoc,List.singleton_append,<-e]
    have ht:=zbc (d:=d) hn (by simp;omega) (by simp;omega) rfl;rw [ht] at hs;exact hs.left.right
   have hww:=hw.2;unfold kidA at hf;rw [hnd] at hf h9 hkl hK hww;rw [hf] at hN ⊢
   exact zrn n l t n₀ Bo hBo nv fv Z fl root many frm J Jx N hJ hY at_ z hz h9 hkl (fun k=>fromT (trav (ndsZ Z) d k) frm)
    (fun m c pre W' hc hW hp hJ'=>zov l t n₀ Bo hBo nv fv Z fl root many frm J Jx N hJ hY d m c pre W' hW (hww c hc).2.2.2 (hww c hc).1 (hww c hc).2.2.1 (hK c hc) hp hJ') pre0 _ rfl hN W h h0
theorem zwh (n l t n₀ Bo Bt Bf:Nat) (hBo:Bo < n₀) (nv fv:Value) (Z:List Nz) (fl:List Nat) (root:Nat) (many:Int) (T:Pairs) (frm:ByteArray) (hg:GoodT (ndsZ Z) fl root T) (J Jx:Pairs->World->Prop)
 (hJ:∀ pre W W',J pre W->Fr No W W'->J pre W')
 (hY:∀ m pre x W,J pre W->pre.length < T.length->YieldAt Fence.wide m Tryz.prog l (zdt x) W fun e W' =>
   (e = .returned (.bool true)/\J (pre++[x]) W'/\KpR n₀ Bo W W')\/(e = .returned (.bool false)/\Jx (pre++[x]) W'))
 (W:World) (h:zeh W t n₀ Bo nv fv Z fl root many)
 (hbt:W.cell? ⟨Bt,0,none⟩=some (.pointer (some ⟨t,0,none⟩))) (hbf:W.cell? ⟨Bf,0,none⟩=some (.string frm)) (h0:J [] W) :
 CallsIn Fence.wide n Tryz.prog 152 #[.func (.yield l) #[] #[],.pointer (some ⟨Bt,0,none⟩),.pointer (some ⟨Bf,0,none⟩)] W fun e W'=>(∃ v,e = .returned v) ∧
  ((∃ ys,ys=T.drop (spotOf T frm)/\J ys W')\/(∃ pre,pre <+: T.drop (spotOf T frm)/\Jx pre W')):=by
 have c2:=h.r.obj.cell 2 rfl;obtain ⟨D,hD⟩:=hg;have hft:fromT (trav (ndsZ Z) D root) frm=T.drop (spotOf T frm):=by rw [hD.trav];exact (zdm T hD.sorted frm).symm
 have hw:=zov l t n₀ Bo hBo nv fv Z fl root many frm J Jx T.length hJ hY D (n - 1) root [] W.drew (h.kp (KpR.of_fr (Fr.refl No W).drew h.size fun _ s=>s.elim)) hD.pt.wf hD.pt.lt hD.hi (by rw [hD.trav];exact hD.sorted)
  (by rw [hft];simp) (hJ _ _ _ h0 (Fr.refl _ _).drew)
 rw [hft] at hw;unfold zhj at hw;simp only [List.nil_append] at hw;clear hJ hY h h0 hft hD;refine callsIn_of_wp Tryz.func152 rfl trivial ?_ rfl;simp only [Tryz.ntmps152,List.size_toArray,List.length_cons,List.length_nil,Nat.reduceAdd,Nat.reduceSub,Array.replicate_succ,Array.replicate_zero,List.push_toArray,List.append_toArray,List.nil_append,List.cons_append]
 gi_wp2
 refine zch 7 (fun _=>trivial) rfl (fun f args w R h=>callsIn_wide.2 h) (by kernel_rfl) (by kernel_rfl) ?_;simp only [List.take_succ_cons,List.take_zero,List.drop_succ_cons,List.drop_zero]
 repeat (refine wpStill_step (fun K hK=>?_);go_simp;(try go_bits);refine hK _ ?_;clear hK K)
 refine wpStill_nil ?_
 gi_wp2_with (refine ⟨trivial,hdd _,?_⟩;gi_at_call 153;refine hw.mono ?_;clear hw;rintro e W1 (⟨rfl,hJ1,hkk⟩ | ⟨rfl,q,hq,hx⟩))
 · go_end0
   exact ⟨⟨_,rfl⟩,.inl ⟨_,rfl,hJ1⟩⟩
 go_end0
 exact ⟨⟨_,rfl⟩,.inr ⟨q,hq,hx⟩⟩
theorem zre (n t n₀ Bo Bt Bf:Nat) (hBo:Bo < n₀) (nv fv:Value) (Z:List Nz) (fl:List Nat) (root:Nat) (many:Int) (T:Pairs) (frm:ByteArray) (hg:GoodT (ndsZ Z) fl root T)
 (w:World) (h:zeh w t n₀ Bo nv fv Z fl root many)
 (hbt:w.cell? ⟨Bt,0,none⟩=some (.pointer (some ⟨t,0,none⟩))) (hbf:w.cell? ⟨Bf,0,none⟩=some (.string frm)) :
 SeqStopsK Fence.wide n Tryz.prog 152 #[.pointer (some ⟨Bt,0,none⟩),.pointer (some ⟨Bf,0,none⟩)] zdt (KpR n₀ Bo) (fun ys=>ys=T.drop (spotOf T frm)) (fun pre=>pre <+: T.drop (spotOf T frm)) T.length w:=fun l J Jx W hW hJ _ hY h0=>by
 have hf:Fr No w W:=⟨hW.os,hW.tape,hW.output,hW.size,fun k hk _=>hW.block k hk⟩
 refine zwh n l t n₀ Bo Bt Bf hBo nv fv Z fl root many T frm hg J Jx (fun pre A B hA hAB=>?_) (fun m pre x W1 h1 h2=>ziw rfl m (hY pre x W1 h1 h2)) W
  (h.kp (KpR.of_fr hf h.size fun _ s=>s.elim)) (hf.cell0 hbt) (hf.cell0 hbf) h0
 exact hJ _ _ _ none hA (zns hAB) (fun r e=>by cases e)
set_option maxHeartbeats 1000000 in
theorem ztu (n:Nat) (hn:6<=n) (w:World) (t:Nat) (nv fv:Value) (Z:List Nz) (fl:List Nat) (root:Nat) (many:Int) (T:Pairs) (frm upr:ByteArray) (h:TreeR w t nv fv Z fl root many) (hg:GoodT (ndsZ Z) fl root T) (hZl:Z.length<=1099511627) (hs:Sorted T) (hT:T.length<=10000000) (hpos:0 < T.length) :
 CallsIn Fence.wide n Tryz.prog 60 #[.pointer (some ⟨t,0,none⟩),.string frm,.string upr,.int .i64 T.length] w fun e w' =>
  ∃ v,e = .returned v/\SlF w' 122 2 pairC v (rangeT T frm upr)/\Below w.heap.size w w'/\(∀ b,v.ownBlock=some b->w.heap.size<=b):=by
 have h1:1<=n:=by omega
 have H:=H_ h;clear h;have hTz:¬ (T.length:Int) < 1:=by omega
 refine callsIn_of_wp_marks Tryz.func60 rfl trivial ?_ rfl;simp only [Tryz.ntmps60,List.size_toArray,List.length_cons,List.length_nil,Nat.reduceAdd,Nat.reduceSub,Array.replicate_succ,Array.replicate_zero,List.push_toArray,List.append_toArray,List.nil_append,List.cons_append]
 gi_wp2_with (refine ⟨trivial,?_⟩;gi_at_call 114;refine (callsIn_wide.2 (ztr _ _ _)).mono ?_;rintro e w' ⟨rfl,rfl⟩)
 obtain ⟨W0,hW0⟩:∃ W0,(((((w.alloc (Obj.cells #[Value.string upr] 9)).alloc (Obj.cells #[Value.int IntKind.i64 (T.length:Int)] 3)).alloc (Obj.cells #[Value.slice none 0 0] 119)).alloc
  (Obj.cells #[Value.pointer (some { block:=t,off:=0 })] 103)).alloc (Obj.cells #[Value.string frm] 9))=W0:=⟨_,rfl⟩
 have hsz:W0.heap.size=w.heap.size+5:=by rw [<-hW0];simp
 have b0:W0.heap[w.heap.size]? = some (.cells #[Value.string upr] 9 (0,0)):=by rw [<-hW0];exact zaj (zaj (zaj (zaj (zad _ _ _ rfl) _) _) _) _
 have b1:W0.heap[w.heap.size+1]? = some (.cells #[Value.int .i64 (T.length:Int)] 3 (0,0)):=by rw [<-hW0];exact zaj (zaj (zaj (zad _ _ _ (by simp)) _) _) _
 have b2:W0.heap[w.heap.size+1+1]? = some (.cells #[Value.slice none 0 0] 119 (0,0)):=by rw [<-hW0];exact zaj (zaj (zad _ _ _ (by simp)) _) _
 have b3:W0.heap[w.heap.size+1+1+1]? = some (.cells #[Value.pointer (some { block:=t,off:=0 })] 103 (0,0)):=by rw [<-hW0];exact zaj (zad _ _ _ (by simp)) _
 have b4:W0.heap[w.heap.size+1+1+1+1]? = some (.cells #[Value.string frm] 9 (0,0)):=by rw [<-hW0];exact zad _ _ _ (by simp)
 have hF0:Fr No w W0:=by rw [<-hW0];exact (((((Fr.refl No w).alloc _).alloc _).alloc _).alloc _).alloc _
 simp only [hW0];clear hW0;have hTW:TreeR W0 t nv fv Z fl root many:=H.out.fr0 hF0;have htl:=H.out.obj.lt;obtain ⟨i0,hi0,hz0,hz1,hz2⟩:=info_parts info127'
 refine wpIn_rangeFunc_ownH rfl h1 (gf:=152) (lb:=#[.pointer (some ⟨w.heap.size+1+1+1,0,none⟩),.pointer (some ⟨w.heap.size+1+1+1+1,0,none⟩)]) rfl trivial (enters_of Tryz.func152 (by kernel_rfl) rfl)
  (zre (n - 1) t W0.heap.size (w.heap.size+1+1) (w.heap.size+1+1+1) (w.heap.size+1+1+1+1) (by omega) nv fv Z fl root many T frm hg W0
    ⟨hTW,Nat.le_refl _,fun b hb=>by have:=H.out.lt b hb;omega,hZl⟩ (by simp [World.cell?,b3]) (by simp [World.cell?,b4]))
  KpR.trans (KpR.putObj (Nat.le_refl _)) (Below.refl _ _) (fun _=>rfl)
  (fun pre W=>RgI w upr T.length W0.heap.size pre W/\Hid ((∀ x∈pre,ahead upr x=true)/\pre.length < T.length))
  (fun c pre W=>match c with
    | .exit id=>id=0/\∃ out,RgI w upr T.length W0.heap.size out W/\Hid ((∃ x,pre=out++[x]/\(∀ y∈out,ahead upr y=true)/\ahead upr x=false)\/(out=pre/\(∀ y∈out,ahead upr y=true)/\out.length=T.length))
    | _=>False)
  (fun s W W' row hs hg hr=>⟨hs.1.own (by omega) hg hr,hs.2⟩)
  (fun c s W W' row hs hg hr=>by
    cases c with
    | exit id=>obtain ⟨h1,out,h2,h3⟩:=hs;exact ⟨h1,out,h2.own (by omega) hg hr,h3⟩
    | _=>exact hs.elim)
  ⟨⟨b0,b1,⟨_,b2,SlF.nil _ _ _ _,by simp [Value.ownBlock]⟩,hF0.below0,Nat.le_refl _⟩,H_ ⟨by simp,by simpa using hpos⟩⟩
  (fun x a' W=>∃ Bx,W0.heap.size<=Bx/\W.heap[Bx]? = some (.cells #[.string x.1,.int .i64 x.2] 122 (0,0))/\a'=⟨#[.pointer (some ⟨t,0,none⟩),.string frm,.string upr,.int .i64 T.length,undef,undef,.pointer (some ⟨w.heap.size,0,none⟩),.pointer (some ⟨w.heap.size+1,0,none⟩),.slice none 0 0,.pointer (some ⟨w.heap.size+1+1,0,none⟩),.pointer (some ⟨Bx,0,none⟩),.int .i64 T.length,.bool false,.pointer (some ⟨t,0,none⟩),.string frm,.func (.func 152) #[] #[.pointer (some ⟨w.heap.size+1+1+1,0,none⟩),.pointer (some ⟨w.heap.size+1+1+1+1,0,none⟩)],.agg #[.string x.1,.int .i64 x.2],undef,undef,undef,undef,undef,undef,undef,undef,undef,undef,undef,undef,undef,undef,undef,undef,undef],[]⟩)
  (fun x a' s W W' row hs hg hr=>by
    obtain ⟨Bx,h1,h2,h3⟩:=hs;exact ⟨Bx,h1,(hg.block Bx (zac h2) fun e'=>by obtain ⟨_,o,ho,hc⟩:=hr Bx e'.symm;rw [h2] at ho;cases ho;cases hc).trans h2,h3⟩)
  ?assign ?body ?done ?stop
 case assign =>
  rintro l pre x W K ⟨hI,hpre⟩ hK;have hK':=H_ hK;clear hK;dsimp only [zdt]
  gi_wp2
  exact hK'.out _ _ ((KeepsOthers.alloc _ _).from _) (KpR.of_fr ((Fr.refl No W).alloc _) hI.size fun _ s=>s.elim) ⟨hI.fr ((Fr.refl _ _).alloc _),hpre⟩ ⟨W.heap.size,hI.size,heap_alloc_new _ _,rfl⟩
 case body =>
  rintro l pre x a' W hl ⟨r,hr⟩ ⟨hI,hpre⟩ ⟨Bx,hBx,bX,rfl⟩ hlt;obtain ⟨v,c2,hv,hvn⟩:=hI.b2;obtain ⟨va,vcap,rfl,_,_,_⟩:=hv.shape;have x0:W.cell? ⟨Bx,0,none⟩=some (.string x.1):=cellAt bX 0 rfl;have x1:W.cell? ⟨Bx,1,none⟩=some (.int .i64 x.2):=cellAt bX 1 rfl;have y0:W.cell? ⟨w.heap.size,0,none⟩=some (.string upr):=(by simp [World.cell?,hI.b0]);have y1:W.cell? ⟨w.heap.size+1,0,none⟩=some (.int .i64 T.length):=(by simp [World.cell?,hI.b1]);have y2:W.cell? ⟨w.heap.size+1+1,0,none⟩=some (.slice va pre.length vcap):=cellAt c2 0 rfl;have HP:=hpre;have hpl:=hpre.out.2;have hnew:=zay W [.string x.1,.int .i64 x.2] 122 (0,0);have hBl:=zac bX;have hsl:w.heap.size+1+1 < W.heap.size:=zac c2;have HI:=H_ hI;clear hI hpre;by_cases hah:ahead upr x=true
  · have hcs:upr.toList.isEmpty=true\/(upr.toList.isEmpty=false/\Op.bytesLess x.1.toList upr.toList=true):=by
     unfold ahead klt at hah;cases h0:upr.toList.isEmpty
     · right;refine ⟨rfl,?_⟩;simpa [h0] using hah
     left;rfl
    have HAH:=H_ hah;clear hah;by_cases hlast:pre.length+1=T.length
    · have hd:((pre.length:Int)+1 == (T.length:Int))=true:=by simp;omega
      have HLAST:=H_ hlast;clear hlast;rcases hcs with he | ⟨he,hk⟩
      all_goals
       gi_wp2_with (gi_at_builtin;refine zde rfl _ _ 119 rfl 122 i0 _ 2 24 Tryz.underlying119 hi0 hz0 hz1 hz2 rfl (by decide) (.slice va pre.length vcap) pre rfl (hv.alloc _) W.heap.size 1 x rfl (by simpa [pairC] using hnew) rfl (by intro u hu;simp [pairC] at hu;rcases hu with rfl | rfl <;> rfl) (by unfold maxLen;omega) (by omega) ?_)
       intro g o' cap w1 hs1 hg1 hb1 hlt1;obtain ⟨e2,G1,G2,G3⟩:=RgI.grow HI.out (by omega) c2 hv hvn hs1 hg1 (by simpa using hb1);have z2:w1.cell? ⟨w.heap.size+1+1,0,none⟩=some (.slice va pre.length vcap):=cellAt e2 0 rfl;have zf:w1.frozen? ⟨w.heap.size+1+1,0,none⟩=false:=(by simp [World.frozen?,e2]);have HF:Fr (fun b=>(Value.slice va pre.length vcap).ownBlock=some b) W w1:=(((Fr.refl _ W).alloc _).grown hg1 fun k hk=>.inl hk);have z1:=HF.cell y1 (fun e=>by have:=hvn _ e;simp at this;omega);have HG:=H_ (And.intro G1 (And.intro G2 G3));clear hs1 hg1 hb1 G1 G2 G3 HF hnew e2
       gi_wp2
       have hall:∀ y∈pre++[x],ahead upr y=true:=by
        intro y hy;rcases List.mem_append.1 hy with h | h
        · exact HP.out.1 y h
        simp at h;subst h;exact HAH.out
       exact ⟨HG.out.2.1,rfl,_,HG.out.1,H_ (.inr ⟨rfl,hall,by simpa using HLAST.out⟩)⟩
    have hd:((pre.length:Int)+1 == (T.length:Int))=false:=by simp;omega
    rcases hcs with he | ⟨he,hk⟩
    all_goals
     gi_wp2_with (gi_at_builtin;refine zde rfl _ _ 119 rfl 122 i0 _ 2 24 Tryz.underlying119 hi0 hz0 hz1 hz2 rfl (by decide) (.slice va pre.length vcap) pre rfl (hv.alloc _) W.heap.size 1 x rfl (by simpa [pairC] using hnew) rfl (by intro u hu;simp [pairC] at hu;rcases hu with rfl | rfl <;> rfl) (by unfold maxLen;omega) (by omega) ?_)
     intro g o' cap w1 hs1 hg1 hb1 hlt1;obtain ⟨e2,G1,G2,G3⟩:=RgI.grow HI.out (by omega) c2 hv hvn hs1 hg1 (by simpa using hb1);have z2:w1.cell? ⟨w.heap.size+1+1,0,none⟩=some (.slice va pre.length vcap):=cellAt e2 0 rfl;have zf:w1.frozen? ⟨w.heap.size+1+1,0,none⟩=false:=(by simp [World.frozen?,e2]);have HF:Fr (fun b=>(Value.slice va pre.length vcap).ownBlock=some b) W w1:=(((Fr.refl _ W).alloc _).grown hg1 fun k hk=>.inl hk);have z1:=HF.cell y1 (fun e=>by have:=hvn _ e;simp at this;omega);have HG:=H_ (And.intro G1 (And.intro G2 G3));clear hs1 hg1 hb1 G1 G2 G3 HF hnew e2
     gi_wp2
     have hall:∀ y∈pre++[x],ahead upr y=true:=by
      intro y hy;rcases List.mem_append.1 hy with h | h
      · exact HP.out.1 y h
      simp at h;subst h;exact HAH.out
     exact ⟨HG.out.2.1,HG.out.2.2,HG.out.1,H_ ⟨hall,by simp;omega⟩⟩
  simp only [Bool.not_eq_true] at hah
  have HAH:=H_ hah
  have hcs:upr.toList.isEmpty=false/\Op.bytesLess x.1.toList upr.toList=false:=by
   unfold ahead klt at hah;simpa using hah
  obtain ⟨he,hk⟩:=hcs;clear hah
  gi_wp2
  exact ⟨KeepsFrom.refl _ _,rfl,pre,HI.out,H_ (.inl ⟨x,rfl,HP.out.1,HAH.out⟩)⟩
 case done =>
  rintro D xs W hD rfl ⟨hI,hpre⟩ hK;obtain ⟨v,c2,hv,hvn⟩:=hI.b2;have y2:W.cell? ⟨w.heap.size+1+1,0,none⟩=some v:=cellAt c2 0 rfl;have hr:Hid (rangeT T frm upr=T.drop (spotOf T frm)):=H_ (by rw [zlo T hs];exact zfx hpre.out.1)
  gi_wp2
  refine ⟨by simp,.inl ⟨_,_,rfl,run_takeDeferred hK,?_⟩⟩;have hg:=grownBy_putObj' W D (.deferred none);refine ⟨_,results_tmp rfl _ _ _,v,rfl,?_,hI.below.grown hg hI.below.size (fun k e=>by cases e;omega),fun b hb=>by have:=hvn b hb;omega⟩;rw [hr.out];refine Sl.keep hv fun k hk=>hg.block k (hv.lt k hk) fun e=>?_;cases e
  rcases hv.2 with ⟨rfl,_⟩ | ⟨g',o',cap',cur,rfl,hgg,_⟩
  · simp [Value.ownBlock] at hk
  obtain rfl:g'=D:=by simpa [Value.ownBlock] using hk
  rw [hgg] at hK;cases hK
 case stop =>
  rintro D c pre W hD hSp hIx hK
  cases c with
  | exit id =>
    obtain ⟨rfl,out,hI,HO⟩:=hIx;obtain ⟨v,c2,hv,hvn⟩:=hI.b2;have y2:W.cell? ⟨w.heap.size+1+1,0,none⟩=some v:=cellAt c2 0 rfl
    have hr:Hid (rangeT T frm upr=out):=H_ (by
     rw [zlo T hs];rcases HO.out with ⟨x,rfl,h1,h2⟩ | ⟨rfl,h1,h2⟩
     · obtain ⟨rest,hrest⟩:=hSp
       exact ziy (r:=rest) (by rw [<-hrest];simp) h1 h2
     obtain ⟨rest,hrest⟩:=hSp
     have hl:=congrArg List.length hrest;simp at hl;obtain rfl:rest = []:=List.eq_nil_of_length_eq_zero (by omega);rw [<-hrest,List.append_nil];exact zfx h1)
    gi_wp2
    refine ⟨by simp,.inl ⟨_,_,rfl,run_takeDeferred hK,?_⟩⟩;have hg:=grownBy_putObj' W D (.deferred none);refine ⟨_,results_tmp rfl _ _ _,v,rfl,?_,hI.below.grown hg hI.below.size (fun k e=>by cases e;omega),fun b hb=>by have:=hvn b hb;omega⟩;rw [hr.out];refine Sl.keep hv fun k hk=>hg.block k (hv.lt k hk) fun e=>?_;cases e
    rcases hv.2 with ⟨rfl,_⟩ | ⟨g',o',cap',cur,rfl,hgg,_⟩
    · simp [Value.ownBlock] at hk
    obtain rfl:g'=D:=by simpa [Value.ownBlock] using hk
    rw [hgg] at hK;cases hK
  | _=>exact hIx.elim
def zts (w:World) (t:Nat) (T:Pairs) (F:Nat->Prop):Prop :=
 ∃ A fl root,TreeZ w t A fl root T.length F/\GoodT A fl root T/\A.length<=1000002/\T.length<=1000000
theorem zrr:TreeOk zts 1000000 where
 lt h:=by obtain ⟨A,fl,root,h,_⟩:=h;exact h.lt
 fr h hf hn:=by obtain ⟨A,fl,root,h,h2⟩:=h;exact ⟨A,fl,root,h.fr hf hn,h2⟩
 root h:=by obtain ⟨A,fl,root,⟨nv,fv,Z,_,_,hF⟩,h2⟩:=h;exact (hF _).2 (.inl rfl)
 sorted h:=by obtain ⟨A,fl,root,_,⟨D,hD⟩,_⟩:=h;exact hD.sorted
 new w:=by
  refine (zrh w).mono ?_;rintro e w' ⟨t,rfl,F,h1,h2,h3⟩;exact ⟨t,rfl,F,⟨_,_,_,h1,zva,by simp,by simp⟩,h2,h3⟩
 len h:=by obtain ⟨A,fl,root,h,_⟩:=h;exact zri _ _ _ _ _ _ _ h
 get key h:=by obtain ⟨A,fl,root,h,h2,h3,_⟩:=h;exact zjt _ _ _ _ _ _ _ _ key h h2 (by omega)
 set {w t T F} key m h hl:=by
  obtain ⟨A,fl,root,h,h2,h3,_⟩:=h;obtain ⟨g,a1,a2,a3,a4,a5⟩:=zvp h2 key m 1000000 (by omega) hl;refine (zrf w t A fl root T.length F T key m h h2 1000000 (Nat.le_refl _) (by omega) hl ⟨by omega,by omega⟩ g a1 a4).mono ?_;rintro e w' ⟨he,F',b1,b2,b3⟩
  have hlen:(insT T key m).length=T.length+if (getT T key).2 then 1 - 1 else 1:=by
   obtain ⟨D,hD⟩:=h2;exact zpm key m T hD.sorted
  refine ⟨he,F',⟨_,_,_,?_,a3,by omega,by rw [hlen];split <;> omega⟩,b2,b3⟩
  have e2:((insT T key m).length:Int)=(T.length:Int)+if (setA g (growA A fl root).1 (growA A fl root).2.1 (growA A fl root).2.2 key m).2.2 then 1 else 0:=by
   rw [a2,hlen];cases (getT T key).2 <;> simp
  rw [e2];exact b1
 range {w t T F} frm upr h:=by
  obtain ⟨A,fl,root,⟨nv,fv,Z,h,rfl,hF⟩,h2,h3,h4⟩:=h;rcases Nat.eq_zero_or_pos T.length with h0 | hp
  · obtain rfl:=List.eq_nil_of_length_eq_zero h0
    refine (zrg w t frm upr).mono ?_;rintro e w' ⟨rfl,hf⟩;exact ⟨_,rfl,SlF.nil _ _ _ _,hf,by simp [Value.ownBlock]⟩
  have hsT:Sorted T:=by obtain ⟨D,hD⟩:=h2;exact hD.sorted
  rw [zav] at h3;refine (callsIn_wide.1 (ztu 6 (by omega) w t nv fv Z fl root T.length T frm upr h h2 (by omega) hsT (by omega) hp)).mono ?_;rintro e w' ⟨v,rfl,h1,h2,h3⟩;exact ⟨v,rfl,h1,Fr.of_below h2,h3⟩
open Go Go.Proofs Go.RowKit
theorem zmk {T:Pairs} {key:ByteArray} {n:Int} (h:getT T key=(n,false)):n=0/\delT T key=T:=by
 unfold getT at h
 split at h
 · simp at h
 rename_i hf
 refine ⟨by simp at h;exact h.symm,?_⟩;unfold delT;refine List.filter_eq_self.2 fun p hp=>?_;have:=List.find?_eq_none.1 hf p hp;simpa using this
def DelEnd (w:World) (t:Nat) (A:Arr) (many:Int) (F:Nat->Prop) (T:Pairs) (key:ByteArray) (e:Ending) (w':World):Prop :=
 e = .returned (zck (getT T key))/\∃ A' fl' root' F',TreeZ w' t A' fl' root' (many - if (getT T key).2 then 1 else 0) F'/\GoodT A' fl' root' (delT T key)/\A'.length=A.length/\Fr F w w'/\(∀ b,F' b->F b\/w.heap.size<=b)
set_option maxHeartbeats 4000000 in
theorem zrl (w:World) (t:Nat) (A:Arr) (fl:List Nat) (root:Nat) (many:Int) (F:Nat->Prop) (T:Pairs) (key:ByteArray) (h:TreeZ w t A fl root many F) (hg:GoodT A fl root T) (hA:A.length<=109951162) (hm:0<=many/\many<=1000000) :
 Calls Tryz.prog 103 #[.pointer (some ⟨t,0,none⟩),.string key] w (DelEnd w t A many F T key):=by
 have hget:=zjt w t A fl root many F T key h hg hA;have HZ:=H_ h;unfold DelEnd
 cases hgt:getT T key with
 | mk n ok =>
 rw [hgt] at hget;unfold zck at hget ⊢
 cases ok with
 | false =>
   obtain ⟨hn,hd⟩:=zmk hgt;subst hn;rw [hd];have HG:=H_ hg;clear hg h hgt hd;go_enter Tryz.func103,Tryz.ntmps103;go_wp2_with (go_at_call 121;refine hget.mono ?_;clear hget;rintro e w1 ⟨rfl,hf1⟩)
   go_ret2
   exact ⟨rfl,A,fl,root,F,by simpa using HZ.out.fr0 hf1,HG.out,rfl,hf1.mono fun _ _ s=>s.elim,fun b hb=>.inl hb⟩
 | true =>
   obtain ⟨g,d1,d2,d3,d4,d5,d6,d7⟩:=zwc hg key (by rw [hgt]);have hrem:=fun (W:World) (hz:TreeZ W t A fl root many F)=>zln W t A fl root many F hz root key g d1 hA;generalize delA g A fl root key=r at hrem d2 d4 d5 d6 d7;obtain ⟨A1,fl1⟩:=r;dsimp only at hrem d2 d4 d5 d6 d7;obtain ⟨nv,fv,Z,hR,hZ,hF⟩:=h;have c2:=hR.obj.cell 2 rfl;have HD5:=H_ d5;have HD6:=H_ d6;have HD7:=H_ d7;clear d1 d5 d6 d7 hR hZ hF hg hgt;go_enter Tryz.func103,Tryz.ntmps103
   go_upto_region 5 with (first
    | (go_at_call 121;refine hget.mono ?_;clear hget;rintro e w1 ⟨rfl,hf1⟩;replace c2:=hf1.cell0 c2)
    | (go_at_call 148;refine (hrem _ (HZ.out.fr0 hf1)).mono ?_;clear hrem;rintro e w2 ⟨⟨v,rfl⟩,F1,hz1,hf2,hn1⟩))
   obtain ⟨nv1,fv1,Z1,hR1,hZ1,hF1⟩:=hz1;obtain ⟨z1,hzz,hnd⟩:=zbj hZ1 (i:=root) (by omega);have hrl:root < Z1.length:=(List.getElem?_eq_some_iff.1 hzz).1;have hzl:Z1.length<=109951162:=(by rw [<-zav,hZ1];omega);obtain ⟨nb,no,cap,rfl,hcap⟩:=hR1.headLen (by omega);rw [<-hnd] at d4;have x3:=hR1.obj.cell 3 rfl;have x3f:=hR1.obj.free 3;have hlt:t < w2.heap.size:=hR1.obj.lt;have ho:=hR1.obj.set 3 (.int .i64 (many - 1));have hfs:Fr (fun b=>b=t) w2 (w2.setCell ⟨t,3,none⟩ (.int .i64 (many - 1))):=(Fr.refl _ w2).setAt _ _;have hR2:=hR1.setObj hfs root (many - 1) ho;have HR2:=H_ hR2;have HFS:=H_ hfs;have HF1:=H_ hF1;have HZ1:=H_ hZ1;have HZZ:=H_ hzz;have HND:=H_ hnd;have HN1:=H_ hn1;have HFW:Hid (Fr F w w2):=H_ ((hf1.mono fun _ _ s=>s.elim).trans hf2 fun b _ e=>e)
   have HSZ:Hid (w.heap.size<=w1.heap.size):=H_ hf1.size;have hm1:IntKind.i64.wrap (many - 1)=many - 1:=(by rw [IntKind.wrap_i64];omega);clear hR1 hZ1 hF1 hzz hnd hn1 hf2 hfs hR2 ho hf1 c2;go_upto_region 6 with fail;generalize w2.setCell ⟨t,3,none⟩ (.int .i64 (many - 1))=W3 at HR2 HFS ⊢
   clear hlt x3 x3f hm1;obtain ⟨a1,a2,a3,a4⟩:=HR2.out.look root z1 HZZ.out;have c0:=HR2.out.obj.cell 0 rfl;have c2:=HR2.out.obj.cell 2 rfl;have c2f:=HR2.out.obj.free 2;have hP:=HR2.out.pairs root z1 HZZ.out;have hK:=HR2.out.kids root z1 HZZ.out;obtain ⟨pa,pcap,hpv,hp1,hp2,hpa⟩:=hP.shape;obtain ⟨ka,kcap,hkv,hk1,hk2,hka⟩:=hK.shape;rw [hpv] at a1;rw [hkv] at a2 hK;have hiz:(root:Int) < (Z1.length:Int):=(by omega);have hlt3:t < W3.heap.size:=HR2.out.obj.lt;have hnl3:nb < W3.heap.size:=HR2.out.nodes.lt nb rfl
   have hkey:∀ b,treeF t (.slice (some ⟨nb,no,none⟩) Z1.length cap) fv1 Z1 b->F b\/w.heap.size<=b:=fun b hb=>by
    rcases HN1.out b ((HF1.out b).2 hb) with e | e
    · exact .inl e
    exact .inr (by have:=HSZ.out;omega)
   have hFW3:Fr F w W3:=HFW.out.trans HFS.out fun b hb e=>by
    rcases hkey b (.inl e) with e | e
    · exact e
    omega
   have HKEY:=H_ hkey;have HFW3:=H_ hFW3;clear hkey hFW3 hP hpv hkv hpa;have hlenz:z1.nd.pairs.length<=9:=d4
   go_region
   have hf4:=((Fr.refl No W3).alloc (.cells #[.slice pa z1.nd.pairs.length pcap,.slice ka z1.nd.kids.length kcap] 231)).drew;have hal:=zad W3 (.cells #[.slice pa z1.nd.pairs.length pcap,.slice ka z1.nd.kids.length kcap] 231) _ rfl;have y0:(W3.alloc (.cells #[.slice pa z1.nd.pairs.length pcap,.slice ka z1.nd.kids.length kcap] 231)).drew.cell? ⟨W3.heap.size,0,none⟩=some (.slice pa z1.nd.pairs.length pcap):=((Fr.refl No _).drew).cell0 (by unfold World.cell?;dsimp only;rw [hal];rfl);have y1:(W3.alloc (.cells #[.slice pa z1.nd.pairs.length pcap,.slice ka z1.nd.kids.length kcap] 231)).drew.cell? ⟨W3.heap.size,1,none⟩=some (.slice ka z1.nd.kids.length kcap):=((Fr.refl No _).drew).cell0 (by unfold World.cell?;dsimp only;rw [hal];rfl);generalize (W3.alloc (.cells #[.slice pa z1.nd.pairs.length pcap,.slice ka z1.nd.kids.length kcap] 231)).drew=W4 at hf4 y0 y1 ⊢
   have HR4:=H_ (HR2.out.fr0 hf4);have HF4:=H_ hf4
   replace c2:=hf4.cell0 c2
   have c2f4:=HR4.out.obj.free 2;have hlt4:t < W4.heap.size:=HR4.out.obj.lt;clear c0 a1 a2 a3 a4 hal c2f hf4;by_cases hsh:z1.nd.pairs.length=0/\z1.nd.kids≠[]
   · have hkl:0 < z1.nd.kids.length:=List.length_pos_iff.2 hsh.2
     obtain ⟨kb,ko,rfl⟩:=hka hkl;have hc:=HD6.out (by rw [<-HND.out];exact hsh.2);have hsk:zcu A1 fl1 root=(A1.set root nd0,fl1++[root],kidA A1 root 0):=(by unfold zcu;rw [if_pos (by rw [<-HND.out];exact hsh)]);rw [<-HND.out] at hc;generalize kidA A1 root 0=kid at hc hsk;have hkc:=(HF4.out.cell0 (hK.cell1 zag 0 hc rfl));simp only [Nat.add_zero] at hkc;have hp0:((z1.nd.pairs.length:Int) == 0)=true:=(by rw [beq_iff_eq];omega);have hk0:(0:Int) < (z1.nd.kids.length:Int):=(by omega);have ho:=HR4.out.obj.set 2 (.int .i64 (kid:Int));have hfs:=(Fr.refl (fun b=>b=t) W4).setAt 2 (.int .i64 (kid:Int));have hR5:=HR4.out.setObj hfs kid (many - 1) ho
     have hz5:TreeZ (W4.setCell ⟨t,2,none⟩ (.int .i64 (kid:Int))) t A1 fl1 kid (many - 1) (treeF t (.slice (some ⟨nb,no,none⟩) Z1.length cap) fv1 Z1):=⟨_,_,_,hR5,HZ1.out,fun b=>Iff.rfl⟩;have HZ5:=H_ hz5;have HFS5:=H_ hfs;have HSK:=H_ hsk;have hfl5:fl1.length<=1099511627:=(by have:=HD5.out;omega);have hA5:A1.length<=1099511627:=(by omega);have hrl5:root < A1.length:=(by rw [<-HZ1.out,zav];exact hrl);clear hsh hkl hc hsk ho hfs hR5 hz5 hK hka;go_wp2_with (go_at_call 149;refine (zjo _ t A1 fl1 kid (many - 1) _ HZ5.out root hrl5 hA5 hfl5).mono ?_;rintro e w6 ⟨rfl,F6,hz6,hf6,hn6⟩)
     go_ret2
     have hg7:=HD7.out;rw [HSK.out] at hg7;have hsz3:=HFW3.out.size;have hsz4:=HF4.out.size;have hsz5:=HFS5.out.size;refine ⟨rfl,_,_,kid,F6,by simpa using hz6,hg7,by simp;exact d2,?_,fun b hb=>?_⟩
     · refine ((HFW3.out.trans HF4.out fun _ _ s=>s.elim).trans HFS5.out fun b hb e=>?_).trans hf6 fun b hb e=>?_
       · rcases HKEY.out b (.inl e) with e | e
         · exact e
         omega
       rcases HKEY.out b e with e | e
       · exact e
       omega
     rcases hn6 b hb with e | e
     · exact HKEY.out b e
     exact .inr (by omega)
   have hsk:zcu A1 fl1 root=(A1,fl1,root):=by unfold zcu;rw [if_neg (by rw [<-HND.out];exact hsh)]
   have hg7:=HD7.out;rw [hsk] at hg7;have HG7:=H_ hg7
   have hend:Hid (∀ W,Fr No W4 W->∃ A' fl' root' F',TreeZ W t A' fl' root' (many - 1) F'/\GoodT A' fl' root' (delT T key)/\A'.length=A.length/\Fr F w W/\(∀ b,F' b->F b\/w.heap.size<=b)):=H_ fun W hW =>
    ⟨A1,fl1,root,_,⟨_,_,_,HR4.out.fr0 hW,HZ1.out,fun b=>Iff.rfl⟩,HG7.out,d2,(HFW3.out.trans HF4.out fun _ _ s=>s.elim).trans hW fun _ _ s=>s.elim,HKEY.out⟩
   by_cases hp:z1.nd.pairs.length=0
   · have hp0:((z1.nd.pairs.length:Int) == 0)=true:=by rw [beq_iff_eq];omega
     have hkn:z1.nd.kids = []:=Classical.byContradiction fun e=>hsh ⟨hp,e⟩;have hkl:z1.nd.kids.length=0:=(by rw [hkn];rfl);rw [hkl] at y1;clear hsh hsk hg7 hK hka hkn;go_wp2_with fail
     go_ret2
     obtain ⟨A',fl',root',F',hb1,hb2⟩:=hend.out _ (Fr.refl No _);exact ⟨rfl,A',fl',root',F',by simpa using hb1,hb2⟩
   have hp0:((z1.nd.pairs.length:Int) == 0)=false:=by rw [beq_eq_false_iff_ne];omega
   clear hsh hsk hg7 hK hka;go_wp2_with fail
   go_ret2
   obtain ⟨A',fl',root',F',hb1,hb2⟩:=hend.out _ (Fr.refl No _);exact ⟨rfl,A',fl',root',F',by simpa using hb1,hb2⟩
structure zwi (TA:zar):Prop where
 del:∀ {w t T F} (key:ByteArray),TA w t T F->Calls Tryz.prog 103 #[.pointer (some ⟨t,0,none⟩),.string key] w fun e w'=>e = .returned (zck (getT T key))/\∃ F',TA w' t (delT T key) F'/\Fr F w w'/\(∀ b,F' b->F b\/w.heap.size<=b)
theorem ztw:zwi zts where
 del {w t T F} key h:=by
  obtain ⟨A,fl,root,h,h2,h3,h4⟩:=h;refine (zrl w t A fl root T.length F T key h h2 (by omega) ⟨by omega,by omega⟩).mono ?_;rintro e w' ⟨he,A',fl',root',F',b1,b2,b3,b4,b5⟩;have hsT:Sorted T:=(by obtain ⟨D,hD⟩:=h2;exact hD.sorted)
  have hl:((delT T key).length:Int)=(T.length:Int) - if (getT T key).2 then 1 else 0:=by
   cases hg:getT T key with
   | mk n ok =>
   cases ok with
   | false=>rw [(zmk hg).2];simp
   | true=>have:=zvf key T hsT (by rw [hg]);simp;omega
  have hle:(delT T key).length<=T.length:=List.length_filter_le _ _;exact ⟨he,F',⟨A',fl',root',by rw [hl];exact b1,b2,by omega,by omega⟩,b4,b5⟩
def KeyAt (w:World) (g:Nat) (K:List Gen) (last:Int) (F:Nat->Prop):Prop :=
 ∃ gv Z,KeyRep w g gv Z last/\Z.map (·.1)=K/\∀ b,F b ↔ keyF g gv Z b
theorem zvy {w:World} {g:Nat} {gv:Value} {Z:List (Gen × Value)} {last:Int} (h:KeyRep w g gv Z last):∀ b,keyF g gv Z b->b < w.heap.size:=by
 rintro b (rfl | e | ⟨i,p,hp,e⟩)
 · exact h.obj.lt
 · exact h.gens.lt b e
 exact (h.puts i p hp).lt b e
theorem KeyAt.lt {w:World} {g:Nat} {K:List Gen} {last:Int} {F:Nat->Prop} (h:KeyAt w g K last F):∀ b,F b->b < w.heap.size:=by
 obtain ⟨gv,Z,h,_,hF⟩:=h;exact fun b hb=>zvy h b ((hF b).1 hb)
theorem KeyRep.fr {w w':World} {g:Nat} {gv:Value} {Z:List (Gen × Value)} {last:Int} {S:Nat->Prop} (h:KeyRep w g gv Z last) (hf:Fr S w w') (hn:∀ b,keyF g gv Z b->¬ S b):KeyRep w' g gv Z last :=
 ⟨h.obj.fr hf (hn g (.inl rfl)),h.gens.fr hf fun k hk=>hn k (.inr (.inl hk)),fun i p hp=>(h.puts i p hp).fr hf fun k hk=>hn k (.inr (.inr ⟨i,p,hp,hk⟩)),h.apart,h.apart2,h.own⟩
theorem KeyAt.fr {w w':World} {g:Nat} {K:List Gen} {last:Int} {F S:Nat->Prop} (h:KeyAt w g K last F) (hf:Fr S w w') (hn:∀ b,F b->¬ S b):KeyAt w' g K last F:=by
 obtain ⟨gv,Z,h,hZ,hF⟩:=h;exact ⟨gv,Z,h.fr hf fun b hb=>hn b ((hF b).2 hb),hZ,hF⟩
def putK (K:List Gen) (rev:Int):List Gen :=
 if isOpen K then K.modify (K.length - 1) fun x=>{ x with puts:=x.puts++[rev] } else K++[{ create:=rev,cut:=0,puts:=[rev],end_:=0 }]
def Fits (K:List Gen):Prop:=K.length<=1099511627/\∀ x∈K,x.puts.length<=1099511627/\0<=x.cut/\x.cut<=1099511627776
theorem zsf (w:World) (g:Nat) (K:List Gen) (last rev:Int) (F:Nat->Prop) (h:KeyAt w g K last F) (hK:Fits K) :
 Calls Tryz.prog 160 #[.pointer (some ⟨g,0,none⟩),.int .i64 rev] w fun e w'=>e = .returned (.int .i64 0) ∧
  ∃ F',KeyAt w' g (putK K rev) last F'/\Fr F w w'/\(∀ b,F' b->F b\/w.heap.size<=b):=by
 obtain ⟨gv,Z,h,rfl,hF⟩:=h;have hl:Z.length<=1099511627:=by have:=hK.1;simpa using this
 by_cases ho:isOpen (Z.map (·.1))=true
 · have hz:Z.length≠0:=by
    intro hz;obtain rfl:=List.eq_nil_of_length_eq_zero hz;simp [isOpen] at ho
   obtain ⟨x,pv,hx⟩:∃ x pv,Z[Z.length - 1]? = some (x,pv):=⟨_,_,List.getElem?_eq_getElem (by omega)⟩;have hp:x.puts.length<=1099511627:=(hK.2 x (List.mem_map.2 ⟨_,List.mem_of_getElem? hx,rfl⟩)).1;refine (zug w g gv Z last rev x pv h hx ho (by omega) (by omega)).mono ?_;rintro e w' ⟨rfl,v',h',hf,hv⟩;refine ⟨rfl,_,⟨gv,_,h',?_,fun b=>Iff.rfl⟩,hf.mono fun b _ hb=>(hF b).2 hb,?_⟩
   · unfold putK
     rw [if_pos ho];apply List.ext_getElem?;intro i;have hzl:Z.length - 1 < Z.length:=(by omega);by_cases hi:Z.length - 1=i
     · subst hi
       have hx':Z[Z.length - 1] = (x,pv):=(List.getElem?_eq_some_iff.1 hx).2;simp [hzl,hx']
     simp [hi]
   rintro b (rfl | e | ⟨i,q,hq,e⟩)
   · exact .inl ((hF _).2 (.inl rfl))
   · exact .inl ((hF _).2 (.inr (.inl e)))
   rw [List.getElem?_set] at hq
   split at hq
   · split at hq
     · simp at hq
       subst hq;rcases hv b e with e | e
       · exact .inl ((hF _).2 (.inr (.inr ⟨_,_,hx,e⟩)))
       exact .inr e
     cases hq
   exact .inl ((hF _).2 (.inr (.inr ⟨_,_,hq,e⟩)))
 simp only [Bool.not_eq_true] at ho
 refine (zvu w g gv Z last rev h ho hl).mono ?_;rintro e w' ⟨rfl,gv',v',h',hf,hv,hgv⟩;refine ⟨rfl,_,⟨gv',_,h',?_,fun b=>Iff.rfl⟩,hf.mono fun b _ hb=>(hF b).2 hb,?_⟩
 · unfold putK
   rw [ho];simp [zbz]
 rintro b (rfl | e | ⟨i,q,hq,e⟩)
 · exact .inl ((hF _).2 (.inl rfl))
 · rcases hgv b e with e | e
   · exact .inl ((hF _).2 (.inr (.inl e)))
   exact .inr e
 rw [List.getElem?_append] at hq
 split at hq
 · exact .inl ((hF _).2 (.inr (.inr ⟨_,_,hq,e⟩)))
 rw [List.getElem?_singleton] at hq
 split at hq
 · simp at hq
   subst hq;exact .inr (hv b e)
 cases hq
theorem KeyAt.setLast {w w':World} {g:Nat} {K:List Gen} {last:Int} {F:Nat->Prop} (h:KeyAt w g K last F) (rev:Int) (hw:w'=w.setCell ⟨g,1,none⟩ (.int .i64 rev)):KeyAt w' g K rev F:=by
 subst hw;obtain ⟨gv,Z,h,hZ,hF⟩:=h;refine ⟨gv,Z,⟨h.obj.set 1 _,h.gens.other _ _ h.own,fun i p hp=>(h.puts i p hp).other _ _ fun e=>(h.apart i p hp _ e).1 rfl,h.apart,h.apart2,h.own⟩,hZ,hF⟩
theorem KeyAt.cells {w:World} {g:Nat} {K:List Gen} {last:Int} {F:Nat->Prop} (h:KeyAt w g K last F):w.cell? ⟨g,1,none⟩=some (.int .i64 last)/\w.frozen? ⟨g,1,none⟩=false/\F g/\g < w.heap.size:=by
 obtain ⟨gv,Z,h,hZ,hF⟩:=h;exact ⟨h.obj.cell 1 rfl,h.obj.free 1,(hF g).2 (.inl rfl),h.obj.lt⟩
theorem zmv (w:World) (g:Nat) (K:List Gen) (last rev:Int) (F:Nat->Prop) (h:KeyAt w g K last F) (hK:Fits K) (h1:1<=rev) (h2:rev<=1099511627776) (h3:last < rev) :
 Calls Tryz.prog 118 #[.pointer (some ⟨g,0,none⟩),.int .i64 rev] w fun e w'=>e = .returned (.int .i64 0) ∧
  ∃ F',KeyAt w' g (putK K rev) rev F'/\Fr F w w'/\(∀ b,F' b->F b\/w.heap.size<=b):=by
 have hput:=zsf w g K last rev F h hK;obtain ⟨hc,hfr,hFg,hgl⟩:=h.cells;have hmf:∀ (fn:Fn) (first cap:Array Value) (w:World),(Instr.makeFunc fn first cap).run Tryz.prog w = .ok (.func fn first cap) w:=fun _ _ _ _=>rfl;have t1:¬ rev < 1:=by omega
 have t2:¬ 1099511627776 < rev:=by omega
 have t3:¬ rev<=last:=by omega
 clear h hK;go_enter Tryz.func118,Tryz.ntmps118
 go_wp2_with (first
  | (go_at_call 160;refine hput.mono ?_;clear hput;rintro e w1 ⟨rfl,F',hk1,hf1,hF1⟩;obtain ⟨hc1,hfr1,_,_⟩:=hk1.cells;have HK:=H_ hk1;clear hk1)
  | (go_at_call 159;go_in))
 go_ret;refine ⟨rfl,F',HK.out.setLast rev rfl,hf1.setCell (.inl hFg) _,hF1⟩
def tombK (K:List Gen) (rev:Int):List Gen:=K.modify (K.length - 1) fun x=>{ x with end_:=rev }
theorem zhn (w:World) (g:Nat) (K:List Gen) (last rev:Int) (F:Nat->Prop) (h:KeyAt w g K last F) (hK:Fits K) (ho:isOpen K=true) :
 Calls Tryz.prog 163 #[.pointer (some ⟨g,0,none⟩),.int .i64 rev] w fun e w'=>e = .returned (.int .i64 0)/\KeyAt w' g (tombK K rev) last F/\Fr F w w':=by
 obtain ⟨gv,Z,h,rfl,hF⟩:=h;have hl:Z.length<=1099511627:=by have:=hK.1;simpa using this
 have hz:Z.length≠0:=by
  intro hz;obtain rfl:=List.eq_nil_of_length_eq_zero hz;simp [isOpen] at ho
 obtain ⟨x,pv,hx⟩:∃ x pv,Z[Z.length - 1]? = some (x,pv):=⟨_,_,List.getElem?_eq_getElem (by omega)⟩;obtain ⟨a,cap,rfl,hc1,hc2,ha⟩:=h.gens.shape;obtain ⟨gb,go,rfl⟩:=ha (by omega);have hopen:=zhw w g gb go cap Z last h ho (by omega);have hc:=h.gens.cell zal (Z.length - 1) 3 hx rfl;have hfr:=h.gens.free (go+(Z.length - 1) * 4+3);have hzl:Z.length - 1 < Z.length:=by omega
 have hgb:gb < w.heap.size:=h.gens.lt gb rfl;have H:=H_ h;clear h;have HX:=H_ hx;clear hx;clear ha ho hK hz;have HF:=H_ hF;clear hF;go_enter Tryz.func163,Tryz.ntmps163;go_wp2_with (go_at_call 178;refine hopen.mono ?_;clear hopen;rintro e w' ⟨rfl,rfl⟩);go_ret;have h:=H.out;have hx:=HX.out;have hF:=HF.out;refine ⟨rfl,⟨.slice (some ⟨gb,go,none⟩) Z.length cap,Z.set (Z.length - 1) ({ x with end_:=rev },pv),?_,?_,?_⟩,(Fr.refl _ w).setCell (p:=⟨gb,go+(Z.length - 1) * 4+3,none⟩) (.inl ((hF gb).2 (.inr (.inl rfl)))) _⟩
 · constructor
   · exact h.obj.other _ _ fun e=>h.own (by rw [e];rfl)
   · simpa using h.gens.set zal _ 3 (by omega) (x,pv) ({ x with end_:=rev },pv) _ hx rfl
   · intro i q hq
     rw [List.getElem?_set] at hq
     split at hq
     · simp at hq
       subst hq;exact (h.puts _ _ hx).other _ _ fun e=>(h.apart _ _ hx _ e).2 rfl
     exact (h.puts _ _ hq).other _ _ fun e=>(h.apart _ _ hq _ e).2 rfl
   · intro i q hq b hb
     rw [List.getElem?_set] at hq
     split at hq
     · simp at hq
       subst hq;exact h.apart _ _ hx b hb
     exact h.apart _ _ hq b hb
   · intro i j q r hq hr b hb hb'
     rw [List.getElem?_set] at hq hr
     split at hq <;> split at hr
     · omega
     · rename_i e1 e2
       simp at hq;subst hq;exact e1 ▸ h.apart2 _ _ _ _ hx hr b hb hb'
     · rename_i e1 e2
       simp at hr;subst hr;exact e2 ▸ h.apart2 _ _ _ _ hq hx b hb hb'
     exact h.apart2 _ _ _ _ hq hr b hb hb'
   exact h.own
 · unfold tombK
   apply List.ext_getElem?;intro i;by_cases hi:Z.length - 1=i
   · subst hi
     have hx':Z[Z.length - 1] = (x,pv):=(List.getElem?_eq_some_iff.1 hx).2;simp [hzl,hx']
   simp [hi]
 intro b
 rw [hF]
 constructor
 · rintro (rfl | e | ⟨i,q,hq,e⟩)
   · exact .inl rfl
   · exact .inr (.inl e)
   by_cases hi:Z.length - 1=i
   · subst hi
     rw [hx] at hq;cases hq
     exact .inr (.inr ⟨Z.length - 1,({ x with end_:=rev },pv),by simp [hzl],e⟩)
   exact .inr (.inr ⟨i,q,by simp [hi,hq],e⟩)
 rintro (rfl | e | ⟨i,q,hq,e⟩)
 · exact .inl rfl
 · exact .inr (.inl e)
 rw [List.getElem?_set] at hq
 split at hq
 · simp at hq
   subst hq;exact .inr (.inr ⟨_,_,hx,e⟩)
 exact .inr (.inr ⟨_,_,hq,e⟩)
theorem ziu (w:World) (g:Nat) (K:List Gen) (last rev:Int) (F:Nat->Prop) (h:KeyAt w g K last F) (hK:Fits K) (ho:isOpen K=true) (h1:1<=rev) (h2:rev<=1099511627776) (h3:last < rev) :
 Calls Tryz.prog 123 #[.pointer (some ⟨g,0,none⟩),.int .i64 rev] w fun e w'=>e = .returned (.int .i64 0)/\KeyAt w' g (tombK K rev) rev F/\Fr F w w':=by
 have htomb:=zhn w g K last rev F h hK ho;obtain ⟨hc,hfr,hFg,hgl⟩:=h.cells;have hmf:∀ (fn:Fn) (first cap:Array Value) (w:World),(Instr.makeFunc fn first cap).run Tryz.prog w = .ok (.func fn first cap) w:=fun _ _ _ _=>rfl;have t1:¬ rev < 1:=by omega
 have t2:¬ 1099511627776 < rev:=by omega
 have t3:¬ rev<=last:=by omega
 clear h hK ho;go_enter Tryz.func123,Tryz.ntmps123
 go_wp2_with (first
  | (go_at_call 163;refine htomb.mono ?_;clear htomb;rintro e w1 ⟨rfl,hk1,hf1⟩;obtain ⟨hc1,hfr1,_,_⟩:=hk1.cells;have HK:=H_ hk1;clear hk1)
  | (go_at_call 159;go_in))
 go_ret;exact ⟨rfl,HK.out.setLast rev rfl,hf1.setCell (.inl hFg) _⟩
theorem zgl (w:World):Calls Tryz.prog 117 #[] w fun e w'=>∃ g,e = .returned (.pointer (some ⟨g,0,none⟩))/\∃ F,KeyAt w' g [] 0 F/\Fr No w w'/\(∀ b,F b->w.heap.size<=b):=by
 go_enter Tryz.func117,Tryz.ntmps117;go_wp2;go_ret;refine ⟨_,rfl,keyF w.heap.size (.slice none 0 0) [],⟨.slice none 0 0,[],⟨Has.new w _ _,SlF.nil _ _ _ _,by simp,by simp,by simp,by simp [Value.ownBlock]⟩,rfl,fun b=>Iff.rfl⟩,(Fr.refl _ w).alloc _,?_⟩;rintro b (rfl | e | ⟨i,q,hq,e⟩)
 · omega
 · simp [Value.ownBlock] at e
 simp at hq
def upTo (l:List Int) (rev:Int):Nat:=l.findIdx fun p=>decide (rev < p)
def idxInt (l:List Int) (rev:Int):Int:=if upTo l rev=l.length then -1 else (upTo l rev:Int)
theorem zjd (w:World) (v:Value) (l:List Int) (rev:Int) (tb:Nat) (hv:SlF w 3 1 int1 v l) (hl:l.length<=1099511627776) (ht:w.cell? ⟨tb,0,none⟩=some (.int .i64 rev)) :
 Calls Tryz.prog 168 #[v,.func (.func 169) #[] #[.pointer (some ⟨tb,0,none⟩)]] w fun e w'=>e = .returned (.int .i64 (idxInt l rev))/\w=w':=by
 obtain ⟨a,cap,rfl,hc1,hc2,ha⟩:=hv.shape;have HV:=H_ hv;clear hv;have HA:=H_ ha;clear ha;go_enter Tryz.func168,Tryz.ntmps168;go_wp2
 go_loopg [8] l.length (fun g s8 wr=>∃ i:Nat,s8 = .int .i64 i/\i+g=l.length/\Hid (∀ j,j < i->¬ rev < l[j]?.getD 0)/\w=wr)
 case atStart=>exact ⟨0,rfl,by simp,H_ (by simp),rfl⟩
 case round =>
  obtain ⟨i,rfl,hi,HJ,rfl⟩:=hrel
  cases gk with
  | zero =>
    have hil:¬ (i:Int) < (l.length:Int):=(by omega);go_wp2;go_ret;refine ⟨?_,rfl⟩
    have hu:upTo l rev=l.length:=by
     unfold upTo;rw [List.findIdx_eq_length];intro x hx;obtain ⟨j,hj,rfl⟩:=List.getElem_of_mem hx;have:=HJ.out j (by omega);simpa [hj] using this
    unfold idxInt;rw [if_pos hu]
    rfl
  | succ g =>
    obtain ⟨gb,go,rfl⟩:=HA.out (by omega);have hx:l[i]? = some (l[i]'(by omega)):=List.getElem?_eq_getElem (by omega);have hcx:=HV.out.cell1 zdx i hx rfl;have hil:(i:Int) < (l.length:Int):=(by omega);by_cases hp:rev < l[i]'(by omega)
    · have hpd:decide (rev < l[i]'(by omega))=true:=by simpa using hp
      have Hx:=H_ hx;have Hp:=H_ hp;clear hx hp;go_wp2;go_ret;refine ⟨?_,rfl⟩
      have hu:upTo l rev=i:=by
       unfold upTo;rw [List.findIdx_eq (by omega)];refine ⟨by simpa using Hp.out,fun j hj=>?_⟩;have:=HJ.out j hj;have hjl:j < l.length:=(by omega);simpa [hjl] using this
      unfold idxInt;rw [if_neg (by omega),hu]
      rfl
    have hpd:decide (rev < l[i]'(by omega))=false:=by simpa using hp
    have Hx:=H_ hx;have Hp:=H_ hp;clear hx hp;go_wp2;go_roundg g
    case rel =>
     refine ⟨i+1,by go_num,by omega,H_ fun j hj=>?_,rfl⟩;by_cases hji:j=i
     · subst hji
       rw [Hx.out];exact Hp.out
     exact HJ.out j (by omega)
    case measure=>omega
theorem zdp (l:List Int) (rev:Int):upTo l rev<=l.length:=List.findIdx_le_length
theorem zjj (w:World) (x:Gen) (pv:Value) (rev:Int) (hv:SlF w 3 1 int1 pv x.puts) (hl:x.puts.length<=1099511627776) :
 Calls Tryz.prog 147 #[.agg #[.int .i64 x.create,.int .i64 x.cut,pv,.int .i64 x.end_],.int .i64 rev] w fun e w'=>e = .returned (.int .i64 (upTo x.puts rev))/\Fr No w w':=by
 have hmf:∀ (fn:Fn) (first cap:Array Value) (w:World),(Instr.makeFunc fn first cap).run Tryz.prog w = .ok (.func fn first cap) w:=fun _ _ _ _=>rfl;obtain ⟨a,cap,rfl,hc1,hc2,ha⟩:=hv.shape;have hidx:=fun W hw ht=>zjd W (.slice a x.puts.length cap) x.puts rev (w.heap.size+1) hw hl ht;have hle:=zdp x.puts rev;have HV:=H_ hv;clear hv ha;by_cases hu:upTo x.puts rev=x.puts.length
 · have hi:idxInt x.puts rev = -1:=by unfold idxInt;rw [if_pos hu]
   rw [hi] at hidx;have HU:=H_ hu;clear hu hi;go_enter Tryz.func147,Tryz.ntmps147;go_wp2_with (go_at_call 168;refine (hidx _ (by exact (HV.out.alloc _).alloc _) (by simp [go_sem])).mono ?_;rintro e w2 ⟨rfl,rfl⟩);go_ret;exact ⟨by rw [HU.out];rfl,((Fr.refl _ w).alloc _).alloc _⟩
 have hi:idxInt x.puts rev=(upTo x.puts rev:Int):=by unfold idxInt;rw [if_neg hu]
 rw [hi] at hidx;generalize upTo x.puts rev=n at *;clear hi hu;go_enter Tryz.func147,Tryz.ntmps147;go_wp2_with (go_at_call 168;refine (hidx _ (by exact (HV.out.alloc _).alloc _) (by simp [go_sem])).mono ?_;rintro e w2 ⟨rfl,rfl⟩);go_ret;exact ⟨rfl,((Fr.refl _ w).alloc _).alloc _⟩
end Go.Proofs.YthljnnjpmdgkoaaGreat