/- Own lemmas and contracts that the claim's proof needs, laid together. The conditions stand in each. -/
import Derived.Test.YthljnnjpmdgkoaaN08
import Derived.Test.YthljnnjpmdgkoaaN00
import Derived.Test.YthljnnjpmdgkoaaN01
import Derived.StillTail
import Derived.StillTailTactics
import Derived.OrdersIn
import Derived.TacticsIn
import Derived.OwnWalkIn
import Derived.TacticsInMore
import Derived.RangeFuncCalls
import Derived.RangeFuncNested
import Derived.RangeFuncBound
import Derived.RangeFuncLeaves
import Derived.RangeFuncBox
import Derived.RangeFuncWrites
import Derived.Shelf.Abstract
import Derived.LoopNIn
import Derived.LoopIn
namespace Go.Proofs.Ythljnnjpmdgkoaa
open Go Go.Proofs Go.RowKit
set_option maxRecDepth 100000
theorem spotZ {w:World} {t:Nat} {nv fv:Value} {Z:List Nz} {fl:List Nat} {root:Nat} {many:Int} (h:TreeR w t nv fv Z fl root many) (at_:Nat) (z:Nz) (hz:Z[at_]? = some z) (h9:z.nd.pairs.length<=9) (hZ:Z.length<=1099511627) (key:ByteArray) :
 Calls Try.prog 130 #[.pointer (some ⟨t,0,none⟩),.int .i64 at_,.string key] w fun e w'=>e = .returned (zbt z.nd.pairs key)/\w=w':=by
 refine zog w t at_ nv z.pv z.kv (Z.map fun z=>(z.pv,z.kv)) z.nd.pairs key (h.obj.cell 0 rfl) (SlF.mapped (f:=nodeC) (g:=fun z:Nz=>(z.pv,z.kv)) (h:=nzC) (fun _=>rfl) h.nodes) (by rw [List.getElem?_map,hz];rfl) (by simp;omega) (h.pairs at_ z hz) (by omega)
set_option maxHeartbeats 2000000 in
theorem zpl (w:World) (t:Nat) (A:Arr) (fl:List Nat) (root:Nat) (many:Int) (F:Nat->Prop) (T:Pairs) (key:ByteArray) (h:TreeZ w t A fl root many F) (hg:GoodT A fl root T) (hA:A.length<=109951162) :
 Calls Try.prog 112 #[.pointer (some ⟨t,0,none⟩),.string key] w fun e w'=>e = .returned (zeg (getT T key))/\Fr No w w':=by
 obtain ⟨nv,fv,Z,hR,hZ,hF⟩:=h;obtain ⟨D,hD⟩:=hg;have hres:=zrb key D (D+1) A root (Nat.le_refl _) hD.pt.wf (by rw [hD.trav];exact hD.sorted);rw [hD.trav] at hres;have hzl:Z.length<=109951162:=by rw [<-zaz,hZ];exact hA
 have hrl:root < Z.length:=by rw [<-zaz,hZ];exact hD.pt.lt
 obtain ⟨nb,no,cap,rfl,hcap⟩:=hR.headLen (by omega);have c2:=hR.obj.cell 2 rfl;have HR:=H_ hR;have HZ:=H_ hZ;have HRES:=H_ hres;have HW:=H_ hD.pt.wf;have hlt:=hD.pt.lt;have h9:=hD.hi;have HLT:=H_ hlt;have H9:=H_ h9;clear hR hZ hF hD hres hlt h9;generalize getT T key=res at *;go_enter Try.func112,Try.ntmps112;go_wp2_with fail
 go_loopg [6] (D+1) (fun g s6 wr=>∃ (d at_:Nat),s6 = .int .i64 at_/\g=d+1/\Hid (Fr No w wr)/\Hid (nWf A d (ndA A at_))/\Hid (at_ < A.length)/\Hid ((ndA A at_).pairs.length<=9)/\Hid (getA (d+1) A at_ key=res))
 case atStart=>exact ⟨D,root,rfl,rfl,H_ (Fr.refl _ _),HW,HLT,H9,HRES⟩
 case round =>
  obtain ⟨d,at_,rfl,rfl,HF,HWd,HL,H9d,HG⟩:=hrel;obtain ⟨z,hz,hnd⟩:=zeq HZ.out HL.out;have hatl:at_ < Z.length:=(List.getElem?_eq_some_iff.1 hz).1;have hRr:=HR.out.fr0 HF.out;have hsp:=spotZ hRr at_ z hz (by rw [hnd];exact H9d.out) (by omega) key;unfold zbt at hsp;obtain ⟨a1,a2,_,_⟩:=hRr.look at_ z hz;have d0:=hRr.obj.cell 0 rfl;have hP:=hRr.pairs at_ z hz;have hK:=hRr.kids at_ z hz;obtain ⟨pa,pcap,hpv,hp1,hp2,hpa⟩:=hP.shape;obtain ⟨ka,kcap,hkv,hk1,hk2,hka⟩:=hK.shape;rw [hpv] at a1 hP;rw [hkv] at a2 hK;have hiz:(at_:Int) < (Z.length:Int):=(by omega);have hgd:getA (d+1) A at_ key=res:=HG.out;unfold getA at hgd;rw [<-hnd] at hgd;have hlnb:nb < wr.heap.size:=hRr.nodes.lt nb rfl;have hlt:t < wr.heap.size:=hRr.obj.lt
  cases hh:hitOf z.nd.pairs key with
  | true =>
    obtain ⟨m,hm⟩:=hit_at hh;have hil:=(List.getElem?_eq_some_iff.1 hm).1;obtain ⟨pb,po,rfl⟩:=hpa (by omega);have hc:=hP.cell zaf _ 1 hm rfl;rw [hh,if_pos rfl,hm] at hgd;rw [hh] at hsp;have HGD:=H_ hgd;have hilz:(spotOf z.nd.pairs key:Int) < (z.nd.pairs.length:Int):=(by omega);have hlpb:pb < wr.heap.size:=hP.lt pb rfl;have HFo:=HF;clear hgd hh hm hpv hkv hP hK hRr hz hnd hpa hka;generalize spotOf z.nd.pairs key=i at *;go_wp2_with (go_at_call 130;refine hsp.mono ?_;clear hsp;rintro e w' ⟨rfl,rfl⟩)
    go_ret2
    exact ⟨by rw [<-HGD.out];rfl,HFo.out.alloc _⟩
  | false =>
    rw [hh] at hsp hgd;simp only [Bool.false_eq_true,if_false] at hgd;by_cases hk0:z.nd.kids = []
    · rw [if_pos hk0] at hgd
      have hkl:z.nd.kids.length=0:=(by rw [hk0];rfl);rw [hkl] at a2;have HGD:=H_ hgd;have HFo:=HF;clear hgd hh hpv hkv hP hK hRr hz hnd hpa hka hk0 hkl;generalize spotOf z.nd.pairs key=i at *;go_wp2_with (go_at_call 130;refine hsp.mono ?_;clear hsp;rintro e w' ⟨rfl,rfl⟩)
      go_ret2
      exact ⟨by rw [<-HGD.out];rfl,HFo.out.alloc _⟩
    rw [if_neg hk0] at hgd
    cases d with
    | zero =>
      have hw0:(ndA A at_).kids = []:=HWd.out;rw [<-hnd] at hw0;exact absurd hw0 hk0
    | succ d =>
      have hw1:=HWd.out;rw [<-hnd] at hw1;have hkl:z.nd.kids.length=z.nd.pairs.length+1:=hw1.1;have hsl:=zbm z.nd.pairs key;obtain ⟨kid,hkid⟩:∃ kid,z.nd.kids[spotOf z.nd.pairs key]? = some kid:=⟨_,List.getElem?_eq_getElem (by omega)⟩;have hkA:kidA A at_ (spotOf z.nd.pairs key)=kid:=(by unfold kidA;rw [<-hnd];simp [List.getD,hkid]);obtain ⟨w1,w4,w9,ww⟩:=hw1.2 kid (List.mem_of_getElem? hkid);rw [hkA] at hgd;obtain ⟨kb,ko,rfl⟩:=hka (by omega);have hkc:=hK.cell1 zak _ hkid rfl;have HGD:=H_ hgd;have HW1:=H_ w1;have HW9:=H_ w9;have HWW:=H_ ww;have hiz2:(spotOf z.nd.pairs key:Int) < (z.nd.kids.length:Int):=(by omega);have hkz:(z.nd.kids.length:Int)≠0:=(by omega);have hkz2:((z.nd.kids.length:Int) == 0)=false:=(by simp;omega);have hlkb:kb < wr.heap.size:=hK.lt kb rfl;have HFo:=HF
      clear hgd hh hpv hkv hP hK hRr hz hnd hpa hka hk0 hkl hsl hkid hkA w1 w9 ww hw1;generalize spotOf z.nd.pairs key=i at *;go_wp2_with (go_at_call 130;refine hsp.mono ?_;clear hsp;rintro e w' ⟨rfl,rfl⟩);go_roundg (d+1)
      case rel=>exact ⟨d,kid,rfl,rfl,H_ (HFo.out.alloc _),HWW,HW1,HW9,HGD⟩
      case measure=>omega
theorem zpk (w:World) (t:Nat) (A:Arr) (fl:List Nat) (root:Nat) (many:Int) (F:Nat->Prop) (h:TreeZ w t A fl root many F) :
 Calls Try.prog 70 #[.pointer (some ⟨t,0,none⟩)] w fun e w'=>e = .returned (.int .i64 many)/\w=w':=by
 obtain ⟨nv,fv,Z,hR,hZ,hF⟩:=h;have c3:=hR.obj.cell 3 rfl;clear hR hZ hF;go_enter Try.func70,Try.ntmps70;go_wp2;go_ret;exact ⟨rfl,rfl⟩
theorem zpj (w:World):Calls Try.prog 67 #[] w fun e w'=>∃ t,e = .returned (.pointer (some ⟨t,0,none⟩))/\∃ F,TreeZ w' t [nd0] [] 0 0 F/\Fr No w w'/\(∀ b,F b->w.heap.size<=b):=by
 have hmk:∀ w,(Instr.makeSlice 175 (.int .i64 1) (.int .i64 1)).run Try.prog w = .ok (.slice (some ⟨w.heap.size,0,none⟩) 1 1) (w.alloc (.cells #[.slice none 0 0,.slice none 0 0] 198)):=fun _=>by kernel_rfl
 go_enter Try.func67,Try.ntmps67;go_wp2;go_ret;have hz1:∀ (i:Nat) z,[nz0][i]? = some z->z=nz0:=fun i z hz=>by have:=List.mem_of_getElem? hz;simpa using this
 have hno:∀ b,¬ zown nz0 b:=by rintro b (e | e) <;> simp [nz0,Value.ownBlock] at e
 refine ⟨_,rfl,_,⟨.slice (some ⟨w.heap.size,0,none⟩) 1 1,.slice none 0 0,[nz0],⟨?_,?_,SlF.nil _ _ _ _,?_,?_,?_,?_,?_,?_⟩,rfl,fun b=>Iff.rfl⟩,((Fr.refl _ w).alloc _).alloc _,?_⟩
 · exact ⟨_,zac _ _ _ (by simp)⟩
 · exact ⟨rfl,.inr ⟨_,_,_,_,rfl,zae (zac _ _ _ rfl) _,by simp,by unfold maxLen;omega,by simp,rfl⟩⟩
 · intro i z hz;rw [hz1 i z hz];exact SlF.nil _ _ _ _
 · intro i z hz;rw [hz1 i z hz];exact SlF.nil _ _ _ _
 · refine ⟨by simp [Value.ownBlock],by simp [Value.ownBlock],fun b _=>by simp [Value.ownBlock]⟩
 · intro i z b hz hb;rw [hz1 i z hz] at hb;exact absurd hb (hno b)
 · intro i z b hz hb;rw [hz1 i z hz] at hb;exact absurd (.inl hb) (hno b)
 · intro i j z y b hz _ hb _;rw [hz1 i z hz] at hb;exact absurd hb (hno b)
 rintro b (rfl | e | e | ⟨i,z,hz,hb⟩)
 · omega
 · simp [Value.ownBlock] at e;omega
 · simp [Value.ownBlock] at e
 rw [hz1 i z hz] at hb;exact absurd hb (hno b)
open Go Go.RowKit
section
variable {F:Fence} {n:Nat} {P:Program} {ops:Array Oper} {md:Region.Mode} {w:World}
theorem zgs (hfn:∀ f,F.fn f) (hdep:F.depth=none) (hF:∀ (f:FuncId) (args:Array Value) (w:World) (R:Ending->World->Prop),Calls P f args w R->CallsIn F (n - 1) P f args w R)
 {o:Oper} {a:Act} {K:Act->Prop} {K':Act->World->Prop} {Q':Exit->Act->World->Prop} (h:∀ a,K a->K' a w) (hh:o.still P a w K):o.wpIn F n P a w K' Q':=by
 refine ⟨fun f _=>hfn f,?_⟩
 have hnd:∀ c,o.op ≠ .defer c:=by
  intro c hc;unfold Oper.still at hh
  have:∀ (c:Call) (t:TypeId),∀ r,((execOp a.eval o).run P w)=r->o.op = .defer c->(∃ d w',r = .ok (.defer d) w')\/(∃ x w',r = .halt x w'):=by
   intro c t r hr ho;unfold execOp at hr;rw [ho] at hr;simp only at hr;subst hr;generalize hs:(resolve a.eval c o.type).run P w=s
   cases s with
   | ok d w'=>left;refine ⟨d,w',?_⟩;simp [hs]
   | halt x w'=>right;refine ⟨x,w',?_⟩;simp [hs]
  rcases this c 0 _ rfl hc with ⟨d,w',e⟩ | ⟨x,w',e⟩ <;> rw [e] at hh <;> simp only [Oper.stillUpon] at hh
 rw [Oper.semAt_eq _ _ _ hnd];unfold Oper.still at hh;generalize (execOp a.eval o).run P w=r at *
 cases r with
 | ok x w' =>
   cases x <;> simp only [Oper.stillUpon] at hh <;> simp only [Oper.uponIn]
   case enter f args =>
    obtain ⟨rfl,v,hc,hn⟩:=hh;exact ⟨(fun hd=>by rw [hdep] at hd;cases hd),(hF _ _ _ _ hc).mono fun e w'' ⟨he,hw⟩=>by subst he;subst hw;exact h _ hn⟩
   all_goals (obtain ⟨rfl,h2⟩:=hh;exact h _ h2)
 | halt x w'=>simp only [Oper.stillUpon] at hh
theorem zik (hfn:∀ f,F.fn f) (hdep:F.depth=none) (hF:∀ (f:FuncId) (args:Array Value) (w:World) (R:Ending->World->Prop),Calls P f args w R->CallsIn F (n - 1) P f args w R)
 {i:Nat} {a:Act} {K:Act->Prop} {K':Act->World->Prop} {Q':Exit->Act->World->Prop} (h:∀ a,K a->K' a w) (hh:stOp P ops w i K a):wpOpIn F n P ops Q' i K' a w:=by
 unfold stOp at hh;unfold wpOpIn
 split
 · rename_i ho;simp only [ho] at hh;exact h _ hh
 rename_i o ho
 simp only [ho] at hh
 split
 · rename_i hw;simp only [hw,if_true] at hh;exact zgs hfn hdep hF h hh
 rename_i hw;simp only [hw] at hh;exact ⟨fun f _=>hfn f,h _ hh⟩
theorem zdo (hfn:∀ f,F.fn f) (hdep:F.depth=none) (hF:∀ (f:FuncId) (args:Array Value) (w:World) (R:Ending->World->Prop),Calls P f args w R->CallsIn F (n - 1) P f args w R)
 {m g:Nat} {L:Array Bool->Act->Prop} {Q':Exit->Act->World->Prop} (hL:∀ listed a,L listed a->wpAnyIn F n P md ops Q' g listed a w) :
 ∀ (f:Nat) (listed:Array Bool) (a:Act),wpAnyL P md ops w m L f listed a->wpAnyIn F n P md ops Q' (f+g) listed a w
 | 0,listed,a,h=>by rw [Nat.zero_add];exact hL _ _ h
 | f+1,listed,a,h=>by
   rw [show f+1+g=(f+g)+1 by omega];exact ⟨fun h0=>absurd h0 h.1,fun i hi=>zik hfn hdep hF (fun a' h'=>zdo hfn hdep hF hL f _ a' h') (h.2 i hi).2⟩
theorem zej {Q':Exit->Act->World->Prop}:∀ (l:List Oper) (k:Nat) (listed:Array Bool) (a:Act) (w:World),(∀ j:Nat,l[j]? = ops[k+j]?) →
 Region.seqB md ops l.length k listed=true->wpListIn F n P ops Q' l a w->wpAnyIn F n P md ops Q' l.length listed a w
 | [],_,_,_,_,_,hB,h=>⟨by simpa [Region.seqB] using hB,h⟩
 | o :: l,k,listed,a,w,hl,hB,h=>by
   have h0:ops[k]? = some o:=(by simpa using (hl 0).symm);simp only [List.length_cons,Region.seqB,Bool.and_eq_true,decide_eq_true_eq] at hB;refine ⟨fun h1=>(by rw [hB.1] at h1;cases h1),fun i hi=>?_⟩;rw [hB.1] at hi;have hik:i=k:=(by simpa using hi);subst hik;have hw:wpOpIn F n P ops Q' i (wpListIn F n P ops Q' l) a w:=(by unfold wpOpIn;simp only [h0];exact h);exact wpOpIn_mono (fun a' w' h'=>zej l (i+1) _ a' w' (fun j=>by have:=hl (j+1);simpa [Nat.add_assoc,Nat.add_comm 1 j] using this) hB.2 h') hw
theorem zbx {id:Nat} {Q:Exit->Act->World->Prop} {a:Act} {w:World} {l:List Oper} (m:Nat) (hfn:∀ f,F.fn f) (hdep:F.depth=none)
 (hF:∀ (f:FuncId) (args:Array Value) (w:World) (R:Ending->World->Prop),Calls P f args w R->CallsIn F (n - 1) P f args w R) (hm:P.follows .mixedOrders=true) (hB:Region.lexTailB .any l.toArray m=true)
 (h:wpStill P l.toArray w.drew (fun a'=>wpListIn F n P l.toArray Q (l.drop m) a' w.drew) (l.take m) a):(Code.region id l.toArray true).wpIn F n P Q a w:=by
 simp only [Region.lexTailB,Bool.and_eq_true,decide_eq_true_eq] at hB;obtain ⟨⟨⟨⟨hsel,hn⟩,hs⟩,hc⟩,hlex⟩:=hB;have hn':m < l.length:=by simpa using hn
 have htl:(l.take m).length=m:=by simp;omega
 have hdl:(l.drop m).length=l.toArray.size - m:=by simp
 have inv0:HeadInv .any l.toArray m (Array.replicate l.toArray.size false) :=
  ⟨by simp,fun j oj _ hl=>(by rw [getD_replicate_false] at hl;cases hl),fun t _ ht=>getD_in (by simpa using ht) (getD_replicate_false _ _)⟩
 have H:=wpAnyL_lex (md:=.any) (g:=l.toArray.size - m) hsel hs hc hn (l.take m) 0 _ a (fun j hj=>by
  have hj':j < m:=(by rw [htl] at hj;exact hj);simp [hj']) (by simpa using htl) inv0 (by rw [htl];exact hlex) h
 refine wpIn_region_any hm ?_
 have:=zdo hfn hdep hF (Q':=Q) (g:=l.toArray.size - m) (fun listed a' hL=>by
  have:=zej (F:=F) (n:=n) (P:=P) (md:=.any) (Q':=Q) (l.drop m) m listed a' w.drew (fun j=>by simp [List.getElem?_drop]) (by rw [hdl];exact hL.1) hL.2
  rwa [hdl] at this) _ _ _ H
 rw [htl,show m+(l.toArray.size - m)=l.toArray.size by omega] at this;exact this
end
theorem zit {n:Nat} {P:Program} (l:Nat) (f:FuncId) (args:Array Value) (w:World) (R:Ending->World->Prop) (h:Calls P f args w R):CallsIn (Fence.wide.inRound l) n P f args w R :=
 CallsIn.inRound l (callsIn_wide.2 h)
theorem zcv {α:Type} {f:α->List Value} {F:Fence} {n:Nat} {P:Program} {w:World} {ops:Array Oper} {rest:List Oper} {o:Oper} {a:Act} {Q:Exit->Act->World->Prop} (hgd:o.guard=none) (s x:Operand) (t:TypeId)
 (ho:o.op = .call { callee:=.builtin .append,args:=#[s,x],argTypes:=#[t,t] })
 (e:TypeId) (i:TypeInfo) (z:Value) (sz bytes:Nat) (ht:P.underlying t=some (.slice e)) (hi:P.info? e=some i) (hz:i.zero=some z) (hsize:i.size=sz) (hby:i.bytes=bytes) (hzs:z.cells.size=sz) (hsz:0 < sz)
 (v:Value) (L:List α) (hs:a.eval s=v) (hown:SlF w e sz f v L)
 (b c:Nat) (y:α) (hx:a.eval x = .slice (some ⟨b,0,none⟩) 1 c) (hnews:∀ j u,(f y)[j]? = some u->w.cell? ((⟨b,0,none⟩:Addr).add j)=some u) (hl:(f y).length=sz) (h1:∀ u∈f y,u.oneCell'=true)
 (h63:L.length+1<=maxLen) (hbytes:(L.length+1) * bytes<=140737488355328)
 (h:∀ g o' cap w',SlF w' e sz f (.slice (some ⟨g,o',none⟩) (L.length+1) cap) (L++[y])->w.grownBy w' v.ownBlock->(v.ownBlock=some g\/g=w.heap.size)->g < w'.heap.size →
   wpListIn F n P ops Q rest (a.put o.dst (.slice (some ⟨g,o',none⟩) (L.length+1) cap)) w'):wpListIn F n P ops Q (o :: rest) a w:=by
 subst hsize;subst hby;refine wpListIn_plain hgd fun K hK'=>?_;obtain ⟨g,o',cap,w',hrun,h2,h3,h4,h5⟩:=zcg (P:=P) w t o.type e i z ht hi hz hzs hsz v L.length (L.flatMap f) hown ⟨b,0,none⟩ 1 c (f y) (by omega) (by omega) hnews h1 h63 hbytes;unfold Oper.wpIn;refine ⟨?_,?_⟩
 · simp [Oper.about,ho,resolve,Target.leads,Sem.run_pure]
 rw [Oper.semAt_plain F _ _ (by rw [ho];intro c hc';cases hc')]
 simp [execOp,ho,resolve,invoke,builtin,hs,hx,hrun,Result.andThen];refine hK' _ _ (h g o' cap w' ?_ h3 h4 h5);unfold SlF;simpa using h2
open Go Go.Proofs Go.RowKit Go.Shelf
attribute [local go_sem] Oper.semAt_some
theorem zkm {F:Fence} (hd:F.depth=none) (k:Nat):F.room k:=fun d h=>by rw [hd] at h;cases h
theorem zij {F:Fence} (hd:F.depth=none) {m:Nat} (m':Nat) {P:Program} {l:Nat} {args:Array Value} {W:World} {R:Ending->World->Prop} (h:YieldAt F m P l args W R):YieldAt F m' P l args W R:=by
 obtain ⟨fn,tmps,assign,body,hy,hR⟩:=h;exact ⟨fn,tmps,assign,body,hy,hR.1,fun c cs _=>hR.2 c cs (zkm hd _)⟩
def zde (x:ByteArray × Int):Array Value:=#[.agg #[.string x.1,.int .i64 x.2]]
structure KpR (n₀ Bo:Nat) (A B:World):Prop where
 size:A.heap.size<=B.heap.size
 low:∀ k,k < n₀->k≠Bo->B.heap[k]? = A.heap[k]?
 rows:∀ (k:Nat) c e fr,A.heap[k]? = some (.cells c e fr)->e≠127->k≠Bo->B.heap[k]? = A.heap[k]?
theorem KpR.trans {n₀ Bo:Nat} {A B C:World} (h:KpR n₀ Bo A B) (k:KpR n₀ Bo B C):KpR n₀ Bo A C :=
 ⟨Nat.le_trans h.size k.size,fun i hi hb=>(k.low i hi hb).trans (h.low i hi hb),fun i c e fr hi he hb=>(k.rows i c e fr ((h.rows i c e fr hi he hb).trans hi) he hb).trans (h.rows i c e fr hi he hb)⟩
theorem KpR.putObj {n₀ Bo:Nat} {w:World} (hn:n₀<=w.heap.size) (W:World) (l:Nat) (o o':Obj) (hl:w.heap.size<=l) (h:W.heap[l]? = some o) (hc:o.isCells=false) (_:o.isWalk=false):KpR n₀ Bo W (W.putObj l o') :=
 ⟨by simp,fun k hk _=>World.putObj_heap_other (by omega),fun k c e fr hk _ _=>World.putObj_heap_other (by rintro rfl;rw [h] at hk;cases hk;cases hc)⟩
theorem KpR.of_fr {n₀ Bo:Nat} {A B:World} {S:Nat->Prop} (h:Fr S A B) (hn:n₀<=A.heap.size) (hS:∀ k,S k->k=Bo\/(n₀<=k/\∃ c fr,A.heap[k]? = some (.cells c 127 fr))):KpR n₀ Bo A B :=
 ⟨h.size,fun k hk hb=>h.block k (by omega) fun s=>by rcases hS k s with e | ⟨e,_⟩ <;> omega,
   fun k c e fr hk he hb=>h.block k (zab hk) fun s=>by
    rcases hS k s with e' | ⟨_,c',fr',e'⟩
    · exact hb e'
    rw [hk] at e';cases e';exact he rfl⟩
theorem hdd (k:Nat):(Fence.wide.depth.isSome=true->1<=k):=fun h=>by cases h
theorem zmi {W W':World} (h:Fr No W W'):W.grownBy W' none:=⟨h.os,h.tape,h.output,h.size,fun k hk _=>h.block k hk id⟩
theorem zro (t:Nat) (frm:ByteArray) (w:World) :
 Calls Try.prog 108 #[.pointer (some ⟨t,0,none⟩),.string frm] w fun e w'=>e = .returned (.func (.func 127) #[] #[.pointer (some ⟨w.heap.size,0,none⟩),.pointer (some ⟨w.heap.size+1,0,none⟩)]) ∧
  (w.alloc (.cells #[.pointer (some ⟨t,0,none⟩)] 118)).alloc (.cells #[.string frm] 9)=w':=by
 have hmf:∀ (fn:Fn) (first cap:Array Value) (w:World),(Instr.makeFunc fn first cap).run Try.prog w = .ok (.func fn first cap) w:=fun _ _ _ _=>rfl;go_enter Try.func108,Try.ntmps108;go_wp2;go_ret;exact ⟨rfl,rfl⟩
structure RgI (w:World) (tO:ByteArray) (most:Nat) (n₀:Nat) (out:Pairs) (W:World):Prop where
 b0:W.heap[w.heap.size]? = some (.cells #[Value.string tO] 9 (0,0))
 b1:W.heap[w.heap.size+1]? = some (.cells #[Value.int .i64 (most:Int)] 3 (0,0))
 b2:∃ v,W.heap[w.heap.size+1+1]? = some (.cells #[v] 124 (0,0))/\SlF W 127 2 pairC v out/\∀ b,v.ownBlock=some b->n₀<=b
 below:Below w.heap.size w W
 size:n₀<=W.heap.size
theorem RgI.own {w:World} {tO:ByteArray} {most n₀:Nat} {out:Pairs} {W W':World} {row:Option Nat} (h:RgI w tO most n₀ out W) (hn:w.heap.size<=n₀) (hg:W.grownBy W' row) (hr:∀ r,row=some r->n₀<=r/\∃ o:Obj,W.heap[r]? = some o/\o.isCells=false):RgI w tO most n₀ out W':=by
 have key:∀ (k:Nat) (c:Array Value) (e:TypeId) (fr:Nat × Nat),W.heap[k]? = some (.cells c e fr)->W'.heap[k]? = W.heap[k]?:=fun k c e fr hk =>
  hg.block k (zab hk) fun e'=>by obtain ⟨_,o,ho,hc⟩:=hr k e'.symm;rw [hk] at ho;cases ho;cases hc
 obtain ⟨v,h2,h3,h4⟩:=h.b2;refine ⟨(key _ _ _ _ h.b0).trans h.b0,(key _ _ _ _ h.b1).trans h.b1,⟨v,(key _ _ _ _ h2).trans h2,?_,h4⟩,h.below.grown hg h.below.size fun k hk=>Nat.le_trans hn (hr k hk).1,Nat.le_trans h.size hg.size⟩;refine Sl.keep h3 fun k hk=>?_;rcases h3.2 with ⟨rfl,_⟩ | ⟨g,o,cap,cur,rfl,hgg,_⟩
 · simp [Value.ownBlock] at hk
 obtain rfl:g=k:=by simpa [Value.ownBlock] using hk
 exact key _ _ _ _ hgg
theorem RgI.fr {w:World} {tO:ByteArray} {most n₀:Nat} {out:Pairs} {W W':World} (h:RgI w tO most n₀ out W) (hf:Fr No W W'):RgI w tO most n₀ out W':=by
 obtain ⟨v,h2,h3,h4⟩:=h.b2;exact ⟨hf.heap h.b0 id,hf.heap h.b1 id,⟨v,hf.heap h2 id,h3.fr0 hf,h4⟩,h.below.trans (hf.below0.mono h.below.size),Nat.le_trans h.size hf.size⟩
theorem RgI.grow {w:World} {tO:ByteArray} {most n₀:Nat} {pre:Pairs} {x:ByteArray × Int} {W w1:World} {v:Value} {ob:Obj} {g o cap:Nat} (h:RgI w tO most n₀ pre W) (hn:w.heap.size+1+1 < n₀)
 (c2:W.heap[w.heap.size+1+1]? = some (.cells #[v] 124 (0,0))) (hv:SlF W 127 2 pairC v pre) (hvn:∀ b,v.ownBlock=some b->n₀<=b)
 (hs1:SlF w1 127 2 pairC (.slice (some ⟨g,o,none⟩) (pre.length+1) cap) (pre++[x])) (hg1:(W.alloc ob).grownBy w1 v.ownBlock) (hb1:v.ownBlock=some g\/g=W.heap.size+1) :
 w1.heap[w.heap.size+1+1]? = some (.cells #[v] 124 (0,0)) ∧
 RgI w tO most n₀ (pre++[x]) (w1.setCell ⟨w.heap.size+1+1,0,none⟩ (.slice (some ⟨g,o,none⟩) (pre.length+1) cap)) ∧
 KeepsFrom n₀ W (w1.setCell ⟨w.heap.size+1+1,0,none⟩ (.slice (some ⟨g,o,none⟩) (pre.length+1) cap)) ∧
 KpR n₀ (w.heap.size+1+1) W (w1.setCell ⟨w.heap.size+1+1,0,none⟩ (.slice (some ⟨g,o,none⟩) (pre.length+1) cap)):=by
 have hF:Fr (fun b=>v.ownBlock=some b) W w1:=(((Fr.refl _ W).alloc _).grown hg1 fun k hk=>.inl hk)
 have hFS:Fr (fun b=>v.ownBlock=some b\/b=w.heap.size+1+1) W (w1.setCell ⟨w.heap.size+1+1,0,none⟩ (.slice (some ⟨g,o,none⟩) (pre.length+1) cap)) :=
  (hF.mono fun _ _ h=>.inl h).setCell (p:=⟨w.heap.size+1+1,0,none⟩) (.inl (.inr rfl)) _
 have hno:∀ k,k < n₀->¬ v.ownBlock=some k:=fun k hk e=>by have:=hvn k e;omega
 have e2:=hF.heap c2 (hno _ hn)
 have hgn:n₀<=g:=by
  rcases hb1 with e | e
  · exact hvn g e
  have:=h.size;omega
 have hvc:∀ k,v.ownBlock=some k->∃ c fr,W.heap[k]? = some (.cells c 127 fr):=by
  intro k hk;rcases hv.2 with ⟨rfl,_⟩ | ⟨g',o',cap',cur,rfl,hgg,_⟩
  · simp [Value.ownBlock] at hk
  obtain rfl:g'=k:=by simpa [Value.ownBlock] using hk
  exact ⟨_,_,hgg⟩
 refine ⟨e2,⟨?_,?_,?_,?_,?_⟩,⟨by simpa using hF.size,?_⟩,KpR.of_fr hFS h.size ?_⟩
 · exact hFS.heap h.b0 (by rintro (e | e);exact hno _ (by omega) e;omega)
 · exact hFS.heap h.b1 (by rintro (e | e);exact hno _ (by omega) e;omega)
 · refine ⟨_,zaa e2 0 _,hs1.other _ _ ?_,fun b hb=>?_⟩
   · simp only [Value.ownBlock,ne_eq,Option.some.injEq];omega
   obtain rfl:g=b:=by simpa [Value.ownBlock] using hb
   exact hgn
 · exact h.below.trans (hFS.below w.heap.size h.below.size (by rintro k (e | e);have:=hvn k e;omega;omega))
 · have:=hF.size;have:=h.size;simp;omega
 · intro k o' hk ho hc
   refine hFS.heap ho ?_;rintro (e | e)
   · obtain ⟨c,fr,e'⟩:=hvc k e;rw [ho] at e';cases e';cases hc
   omega
 rintro k (e | e)
 · right;exact ⟨hvn k e,hvc k e⟩
 left;exact e
theorem info127':(Try.prog.info? 127).map (fun i=>(i.zero,i.size,i.bytes))=some (some (.agg #[.string ByteArray.empty,.int .i64 0]),2,24):=by kernel_rfl
attribute [local go_sem] Oper.semAt_some
theorem TreeR.keep {w w':World} {t:Nat} {nv fv:Value} {Z:List Nz} {fl:List Nat} {root:Nat} {many:Int} (h:TreeR w t nv fv Z fl root many) (hk:∀ b,treeF t nv fv Z b->w'.heap[b]? = w.heap[b]?):TreeR w' t nv fv Z fl root many where
 obj:=by obtain ⟨e,he⟩:=h.obj;exact ⟨e,(hk t (.inl rfl)).trans he⟩
 nodes:=Sl.keep h.nodes fun b hb=>hk b (.inr (.inl hb))
 free:=Sl.keep h.free fun b hb=>hk b (.inr (.inr (.inl hb)))
 pairs i z hz:=Sl.keep (h.pairs i z hz) fun b hb=>hk b (.inr (.inr (.inr ⟨i,z,hz,.inl hb⟩)))
 kids i z hz:=Sl.keep (h.kids i z hz) fun b hb=>hk b (.inr (.inr (.inr ⟨i,z,hz,.inr hb⟩)))
 a1:=h.a1
 a2:=h.a2
 a3:=h.a3
 a4:=h.a4
structure zdm (W:World) (t n₀ Bo:Nat) (nv fv:Value) (Z:List Nz) (fl:List Nat) (root:Nat) (many:Int):Prop where
 r:TreeR W t nv fv Z fl root many
 size:n₀<=W.heap.size
 low:∀ b,treeF t nv fv Z b->b < n₀/\b≠Bo
 few:Z.length<=1099511627
theorem zdm.kp {W W':World} {t n₀ Bo:Nat} {nv fv:Value} {Z:List Nz} {fl:List Nat} {root:Nat} {many:Int} (h:zdm W t n₀ Bo nv fv Z fl root many) (k:KpR n₀ Bo W W'):zdm W' t n₀ Bo nv fv Z fl root many :=
 ⟨h.r.keep fun b hb=>k.low b (h.low b hb).1 (h.low b hb).2,Nat.le_trans h.size k.size,h.low,h.few⟩
set_option maxHeartbeats 1000000 in
theorem zrr (n l t n₀ Bo:Nat) (hBo:Bo < n₀) (nv fv:Value) (Z:List Nz) (fl:List Nat) (root:Nat) (many:Int) (frm:ByteArray) (J Jx:Pairs->World->Prop) (N:Nat)
 (hJ:∀ pre W W',J pre W->Fr No W W'->J pre W')
 (hY:∀ m pre x W,J pre W->pre.length < N->YieldAt Fence.wide m Try.prog l (zde x) W fun e W' =>
   (e = .returned (.bool true)/\J (pre++[x]) W'/\KpR n₀ Bo W W')\/(e = .returned (.bool false)/\Jx (pre++[x]) W'))
 (at_:Nat) (z:Nz) (hz:Z[at_]? = some z) (h9:z.nd.pairs.length<=9) (hk0:z.nd.kids = []) (pre0:Pairs) (hN:pre0.length+(z.nd.pairs.drop (spotOf z.nd.pairs frm)).length<=N)
 (W:World) (h:zdm W t n₀ Bo nv fv Z fl root many) (h0:J pre0 W) :
 CallsIn Fence.wide n Try.prog 128 #[.pointer (some ⟨t,0,none⟩),.int .i64 at_,.string frm,.func (.yield l) #[] #[]] W fun e W' =>
  (e = .returned (.bool true)/\J (pre0++z.nd.pairs.drop (spotOf z.nd.pairs frm)) W'/\KpR n₀ Bo W W')\/(e = .returned (.bool false)/\∃ pre,pre <+: z.nd.pairs.drop (spotOf z.nd.pairs frm)/\Jx (pre0++pre) W'):=by
 have hsp:=spotZ h.r at_ z hz h9 h.few frm;unfold zbt at hsp;have hzl:=h.few;have hatl:at_ < Z.length:=(List.getElem?_eq_some_iff.1 hz).1;obtain ⟨nb,no,cap,rfl,hcap⟩:=h.r.headLen (by omega);have c0:=h.r.obj.cell 0 rfl;obtain ⟨n0,n1,_,_⟩:=h.r.look at_ z hz;obtain ⟨pa,pcap,hpv,hc3,hc4,hpa⟩:=(h.r.pairs at_ z hz).shape;obtain ⟨ka,kcap,hkv,hc5,hc6,hka⟩:=(h.r.kids at_ z hz).shape;have hkl:z.nd.kids.length=0:=by rw [hk0];rfl
 rw [hpv] at n0;rw [hkv,hkl] at n1;have hsl:=zbm z.nd.pairs frm;have hatz:(at_:Int) < (Z.length:Int):=by omega
 have hltW:t < W.heap.size:=h.r.obj.lt;have hlnb:nb < W.heap.size:=h.r.nodes.lt nb rfl;have H:=H_ h;have HA:=H_ hpa;have HZ:=H_ hz;have HPV:=H_ hpv;have hsz0:=h.size;clear h hpa hz hpv hkv hka hk0 hkl;refine callsIn_of_wp Try.func128 rfl trivial ?_ rfl;simp only [Try.ntmps128,List.size_toArray,List.length_cons,List.length_nil,Nat.reduceAdd,Nat.reduceSub,Array.replicate_succ,Array.replicate_zero,List.push_toArray,List.append_toArray,List.nil_append,List.cons_append];generalize hitOf z.nd.pairs frm=hit at hsp;generalize spotOf z.nd.pairs frm=s0 at *;cases hit
 all_goals
  gi_wp2_with (refine ⟨trivial,hdd _,?_⟩;gi_at_call 130;refine (callsIn_wide.2 hsp).mono ?_;clear hsp;rintro e w' ⟨rfl,rfl⟩)
  refine ⟨trivial,?_⟩
  gi_wp2
  gi_loopw [9] (fun i wr=>∃ k:Nat,s0<=k/\k<=z.nd.pairs.length/\i = .int .i64 k/\Hid (J (pre0++(z.nd.pairs.drop s0).take (k - s0)) wr)/\KpR n₀ Bo W wr/\wr.heap[W.heap.size]? = some (.cells #[.slice pa z.nd.pairs.length pcap,.slice ka 0 kcap] 198 (0,0)))
   (fun i _=>z.nd.pairs.length - (intOf i).toNat)
  case atStart=>exact ⟨s0,Nat.le_refl _,hsl,rfl,H_ (by simpa using hJ _ _ _ h0 ((Fr.refl _ W).alloc _)),KpR.of_fr ((Fr.refl No W).alloc _) hsz0 (fun _ s=>s.elim),heap_alloc_new _ _⟩
  case round =>
   obtain ⟨k,hk1,hk2,rfl,hJs,hKp,hbp⟩:=hrel;have p0:wr.cell? ⟨W.heap.size,0,none⟩=some (.slice pa z.nd.pairs.length pcap):=cellAt hbp 0 rfl;have p1:wr.cell? ⟨W.heap.size,1,none⟩=some (.slice ka 0 kcap):=cellAt hbp 1 rfl;by_cases hlt:k < z.nd.pairs.length
   · obtain ⟨pb,po,rfl⟩:=HA.out (by omega)
     obtain ⟨x,hx⟩:∃ x,z.nd.pairs[k]? = some x:=⟨_,List.getElem?_eq_getElem hlt⟩
     have hpw:SlF wr 127 2 pairC (.slice (some ⟨pb,po,none⟩) z.nd.pairs.length pcap) z.nd.pairs:=by
      have:=(H.out.kp hKp).r.pairs at_ z HZ.out
      rwa [HPV.out] at this
     have x0:=hpw.cell0 zaf k hx rfl;have x1:=hpw.cell zaf k 1 hx rfl;obtain ⟨fn,tmps,assign,body,hy,hR⟩:=hY (n - 1) _ x wr hJs.out (by simp at hN ⊢;omega);dsimp only [zde] at hy;have hkz:(k:Int) < (z.nd.pairs.length:Int):=(by omega);have HX:=H_ hx;have hbl2:n₀<=wr.heap.size:=Nat.le_trans hsz0 hKp.size;have hpbl:pb < wr.heap.size:=hpw.lt pb rfl;clear hx hpw
     gi_wp2
     refine ⟨hdd _,hR.mono ?_⟩;rintro e W3 (⟨rfl,hJ3,hk3⟩ | ⟨rfl,hJx3⟩)
     · have hb3:=(hk3.rows _ _ _ _ hbp (by decide) (by omega)).trans hbp
       have q0:W3.cell? ⟨W.heap.size,0,none⟩=some (.slice (some ⟨pb,po,none⟩) z.nd.pairs.length pcap):=cellAt hb3 0 rfl;have q1:W3.cell? ⟨W.heap.size,1,none⟩=some (.slice ka 0 kcap):=cellAt hb3 1 rfl
       have hst:(z.nd.pairs.drop s0).take (k - s0)++[x] = (z.nd.pairs.drop s0).take (k+1 - s0):=by
        rw [show k+1 - s0=(k - s0)+1 from by omega,List.take_add_one,List.getElem?_drop,show s0+(k - s0)=k from by omega,HX.out]
        rfl
       rw [List.append_assoc,hst] at hJ3;have HJ3:=H_ hJ3;clear hJ3 hst hJs p0 p1 x0 x1
       gi_wp2
       refine ⟨trivial,?_⟩
       gi_wp2
       go_roundw
       case rel=>exact ⟨k+1,by omega,by omega,by go_num,HJ3,hKp.trans hk3,hb3⟩
       case measure=>simp [intOf];omega
     have hst:(z.nd.pairs.drop s0).take (k - s0)++[x] = (z.nd.pairs.drop s0).take (k+1 - s0):=by
      rw [show k+1 - s0=(k - s0)+1 from by omega,List.take_add_one,List.getElem?_drop,show s0+(k - s0)=k from by omega,HX.out]
      rfl
     rw [List.append_assoc,hst] at hJx3;have HJ3:=H_ hJx3;clear hJx3 hst hJs p0 p1 x0 x1
     gi_wp2
     go_ret;exact .inr ⟨rfl,_,List.take_prefix _ _,HJ3.out⟩
   obtain rfl:k=z.nd.pairs.length:=by omega
   gi_wp2
   go_ret;exact .inl ⟨rfl,by have:=hJs.out;rwa [List.take_of_length_le (by simp)] at this,hKp⟩
end Go.Proofs.Ythljnnjpmdgkoaa