/- Own lemmas and contracts that the claim's proof needs, laid together. The conditions stand in each. -/
import Derived.Test.YthljnnjpmdgkoaaGreatB00
import Derived.Test.YthljnnjpmdgkoaaGreatB07
import Derived.Test.YthljnnjpmdgkoaaGreatB01
import Derived.StillTail
import Derived.StillTailTactics
import Derived.OrdersIn
import Derived.TacticsIn
import Derived.OwnWalkIn
import Derived.TacticsInMore
import Derived.RangeFuncCalls
import Derived.RangeFuncNested
import Derived.RangeFuncBound
import Derived.RangeFuncLeaves
import Derived.RangeFuncBox
import Derived.RangeFuncWrites
import Derived.Shelf.Abstract
import Derived.LoopNIn
import Derived.LoopIn
namespace Go.Proofs.YthljnnjpmdgkoaaGreat
open Go Go.RowKit
section
variable {F:Fence} {n:Nat} {P:Program} {ops:Array Oper} {md:Region.Mode} {w:World}
theorem zhm (hfn:∀ f,F.fn f) (hdep:F.depth=none) (hF:∀ (f:FuncId) (args:Array Value) (w:World) (R:Ending->World->Prop),Calls P f args w R->CallsIn F (n - 1) P f args w R)
 {o:Oper} {a:Act} {K:Act->Prop} {K':Act->World->Prop} {Q':Exit->Act->World->Prop} (h:∀ a,K a->K' a w) (hh:o.still P a w K):o.wpIn F n P a w K' Q':=by
 refine ⟨fun f _=>hfn f,?_⟩
 have hnd:∀ c,o.op ≠ .defer c:=by
  intro c hc;unfold Oper.still at hh
  have:∀ (c:Call) (t:TypeId),∀ r,((execOp a.eval o).run P w)=r->o.op = .defer c->(∃ d w',r = .ok (.defer d) w')\/(∃ x w',r = .halt x w'):=by
   intro c t r hr ho;unfold execOp at hr;rw [ho] at hr;simp only at hr;subst hr;generalize hs:(resolve a.eval c o.type).run P w=s
   cases s with
   | ok d w'=>left;refine ⟨d,w',?_⟩;simp [hs]
   | halt x w'=>right;refine ⟨x,w',?_⟩;simp [hs]
  rcases this c 0 _ rfl hc with ⟨d,w',e⟩ | ⟨x,w',e⟩ <;> rw [e] at hh <;> simp only [Oper.stillUpon] at hh
 rw [Oper.semAt_eq _ _ _ hnd];unfold Oper.still at hh;generalize (execOp a.eval o).run P w=r at *
 cases r with
 | ok x w' =>
   cases x <;> simp only [Oper.stillUpon] at hh <;> simp only [Oper.uponIn]
   case enter f args =>
    obtain ⟨rfl,v,hc,hn⟩:=hh;exact ⟨(fun hd=>by rw [hdep] at hd;cases hd),(hF _ _ _ _ hc).mono fun e w'' ⟨he,hw⟩=>by subst he;subst hw;exact h _ hn⟩
   all_goals (obtain ⟨rfl,h2⟩:=hh;exact h _ h2)
 | halt x w'=>simp only [Oper.stillUpon] at hh
theorem zix (hfn:∀ f,F.fn f) (hdep:F.depth=none) (hF:∀ (f:FuncId) (args:Array Value) (w:World) (R:Ending->World->Prop),Calls P f args w R->CallsIn F (n - 1) P f args w R)
 {i:Nat} {a:Act} {K:Act->Prop} {K':Act->World->Prop} {Q':Exit->Act->World->Prop} (h:∀ a,K a->K' a w) (hh:stOp P ops w i K a):wpOpIn F n P ops Q' i K' a w:=by
 unfold stOp at hh;unfold wpOpIn
 split
 · rename_i ho;simp only [ho] at hh;exact h _ hh
 rename_i o ho
 simp only [ho] at hh
 split
 · rename_i hw;simp only [hw,if_true] at hh;exact zhm hfn hdep hF h hh
 rename_i hw;simp only [hw] at hh;exact ⟨fun f _=>hfn f,h _ hh⟩
theorem zek (hfn:∀ f,F.fn f) (hdep:F.depth=none) (hF:∀ (f:FuncId) (args:Array Value) (w:World) (R:Ending->World->Prop),Calls P f args w R->CallsIn F (n - 1) P f args w R)
 {m g:Nat} {L:Array Bool->Act->Prop} {Q':Exit->Act->World->Prop} (hL:∀ listed a,L listed a->wpAnyIn F n P md ops Q' g listed a w) :
 ∀ (f:Nat) (listed:Array Bool) (a:Act),wpAnyL P md ops w m L f listed a->wpAnyIn F n P md ops Q' (f+g) listed a w
 | 0,listed,a,h=>by rw [Nat.zero_add];exact hL _ _ h
 | f+1,listed,a,h=>by
   rw [show f+1+g=(f+g)+1 by omega];exact ⟨fun h0=>absurd h0 h.1,fun i hi=>zix hfn hdep hF (fun a' h'=>zek hfn hdep hF hL f _ a' h') (h.2 i hi).2⟩
theorem zfk {Q':Exit->Act->World->Prop}:∀ (l:List Oper) (k:Nat) (listed:Array Bool) (a:Act) (w:World),(∀ j:Nat,l[j]? = ops[k+j]?) →
 Region.seqB md ops l.length k listed=true->wpListIn F n P ops Q' l a w->wpAnyIn F n P md ops Q' l.length listed a w
 | [],_,_,_,_,_,hB,h=>⟨by simpa [Region.seqB] using hB,h⟩
 | o :: l,k,listed,a,w,hl,hB,h=>by
   have h0:ops[k]? = some o:=(by simpa using (hl 0).symm);simp only [List.length_cons,Region.seqB,Bool.and_eq_true,decide_eq_true_eq] at hB;refine ⟨fun h1=>(by rw [hB.1] at h1;cases h1),fun i hi=>?_⟩;rw [hB.1] at hi;have hik:i=k:=(by simpa using hi);subst hik;have hw:wpOpIn F n P ops Q' i (wpListIn F n P ops Q' l) a w:=(by unfold wpOpIn;simp only [h0];exact h);exact wpOpIn_mono (fun a' w' h'=>zfk l (i+1) _ a' w' (fun j=>by have:=hl (j+1);simpa [Nat.add_assoc,Nat.add_comm 1 j] using this) hB.2 h') hw
theorem zch {id:Nat} {Q:Exit->Act->World->Prop} {a:Act} {w:World} {l:List Oper} (m:Nat) (hfn:∀ f,F.fn f) (hdep:F.depth=none)
 (hF:∀ (f:FuncId) (args:Array Value) (w:World) (R:Ending->World->Prop),Calls P f args w R->CallsIn F (n - 1) P f args w R) (hm:P.follows .mixedOrders=true) (hB:Region.lexTailB .any l.toArray m=true)
 (h:wpStill P l.toArray w.drew (fun a'=>wpListIn F n P l.toArray Q (l.drop m) a' w.drew) (l.take m) a):(Code.region id l.toArray true).wpIn F n P Q a w:=by
 simp only [Region.lexTailB,Bool.and_eq_true,decide_eq_true_eq] at hB;obtain ⟨⟨⟨⟨hsel,hn⟩,hs⟩,hc⟩,hlex⟩:=hB;have hn':m < l.length:=by simpa using hn
 have htl:(l.take m).length=m:=by simp;omega
 have hdl:(l.drop m).length=l.toArray.size - m:=by simp
 have inv0:HeadInv .any l.toArray m (Array.replicate l.toArray.size false) :=
  ⟨by simp,fun j oj _ hl=>(by rw [getD_replicate_false] at hl;cases hl),fun t _ ht=>getD_in (by simpa using ht) (getD_replicate_false _ _)⟩
 have H:=wpAnyL_lex (md:=.any) (g:=l.toArray.size - m) hsel hs hc hn (l.take m) 0 _ a (fun j hj=>by
  have hj':j < m:=(by rw [htl] at hj;exact hj);simp [hj']) (by simpa using htl) inv0 (by rw [htl];exact hlex) h
 refine wpIn_region_any hm ?_
 have:=zek hfn hdep hF (Q':=Q) (g:=l.toArray.size - m) (fun listed a' hL=>by
  have:=zfk (F:=F) (n:=n) (P:=P) (md:=.any) (Q':=Q) (l.drop m) m listed a' w.drew (fun j=>by simp [List.getElem?_drop]) (by rw [hdl];exact hL.1) hL.2
  rwa [hdl] at this) _ _ _ H
 rw [htl,show m+(l.toArray.size - m)=l.toArray.size by omega] at this;exact this
end
theorem zje {n:Nat} {P:Program} (l:Nat) (f:FuncId) (args:Array Value) (w:World) (R:Ending->World->Prop) (h:Calls P f args w R):CallsIn (Fence.wide.inRound l) n P f args w R :=
 CallsIn.inRound l (callsIn_wide.2 h)
theorem zde {α:Type} {f:α->List Value} {F:Fence} {n:Nat} {P:Program} {w:World} {ops:Array Oper} {rest:List Oper} {o:Oper} {a:Act} {Q:Exit->Act->World->Prop} (hgd:o.guard=none) (s x:Operand) (t:TypeId)
 (ho:o.op = .call { callee:=.builtin .append,args:=#[s,x],argTypes:=#[t,t] })
 (e:TypeId) (i:TypeInfo) (z:Value) (sz bytes:Nat) (ht:P.underlying t=some (.slice e)) (hi:P.info? e=some i) (hz:i.zero=some z) (hsize:i.size=sz) (hby:i.bytes=bytes) (hzs:z.cells.size=sz) (hsz:0 < sz)
 (v:Value) (L:List α) (hs:a.eval s=v) (hown:SlF w e sz f v L)
 (b c:Nat) (y:α) (hx:a.eval x = .slice (some ⟨b,0,none⟩) 1 c) (hnews:∀ j u,(f y)[j]? = some u->w.cell? ((⟨b,0,none⟩:Addr).add j)=some u) (hl:(f y).length=sz) (h1:∀ u∈f y,u.oneCell'=true)
 (h63:L.length+1<=maxLen) (hbytes:(L.length+1) * bytes<=140737488355328)
 (h:∀ g o' cap w',SlF w' e sz f (.slice (some ⟨g,o',none⟩) (L.length+1) cap) (L++[y])->w.grownBy w' v.ownBlock->(v.ownBlock=some g\/g=w.heap.size)->g < w'.heap.size →
   wpListIn F n P ops Q rest (a.put o.dst (.slice (some ⟨g,o',none⟩) (L.length+1) cap)) w'):wpListIn F n P ops Q (o :: rest) a w:=by
 subst hsize;subst hby;refine wpListIn_plain hgd fun K hK'=>?_;obtain ⟨g,o',cap,w',hrun,h2,h3,h4,h5⟩:=zcq (P:=P) w t o.type e i z ht hi hz hzs hsz v L.length (L.flatMap f) hown ⟨b,0,none⟩ 1 c (f y) (by omega) (by omega) hnews h1 h63 hbytes;unfold Oper.wpIn;refine ⟨?_,?_⟩
 · simp [Oper.about,ho,resolve,Target.leads,Sem.run_pure]
 rw [Oper.semAt_plain F _ _ (by rw [ho];intro c hc';cases hc')]
 simp [execOp,ho,resolve,invoke,builtin,hs,hx,hrun,Result.andThen];refine hK' _ _ (h g o' cap w' ?_ h3 h4 h5);unfold SlF;simpa using h2
open Go Go.Proofs Go.RowKit Go.Shelf
set_option maxRecDepth 100000
attribute [local go_sem] Oper.semAt_some
theorem zlm {F:Fence} (hd:F.depth=none) (k:Nat):F.room k:=fun d h=>by rw [hd] at h;cases h
theorem ziw {F:Fence} (hd:F.depth=none) {m:Nat} (m':Nat) {P:Program} {l:Nat} {args:Array Value} {W:World} {R:Ending->World->Prop} (h:YieldAt F m P l args W R):YieldAt F m' P l args W R:=by
 obtain ⟨fn,tmps,assign,body,hy,hR⟩:=h;exact ⟨fn,tmps,assign,body,hy,hR.1,fun c cs _=>hR.2 c cs (zlm hd _)⟩
def zdt (x:ByteArray × Int):Array Value:=#[.agg #[.string x.1,.int .i64 x.2]]
structure KpR (n₀ Bo:Nat) (A B:World):Prop where
 size:A.heap.size<=B.heap.size
 low:∀ k,k < n₀->k≠Bo->B.heap[k]? = A.heap[k]?
 rows:∀ (k:Nat) c e fr,A.heap[k]? = some (.cells c e fr)->e≠122->k≠Bo->B.heap[k]? = A.heap[k]?
theorem KpR.trans {n₀ Bo:Nat} {A B C:World} (h:KpR n₀ Bo A B) (k:KpR n₀ Bo B C):KpR n₀ Bo A C :=
 ⟨Nat.le_trans h.size k.size,fun i hi hb=>(k.low i hi hb).trans (h.low i hi hb),fun i c e fr hi he hb=>(k.rows i c e fr ((h.rows i c e fr hi he hb).trans hi) he hb).trans (h.rows i c e fr hi he hb)⟩
theorem KpR.putObj {n₀ Bo:Nat} {w:World} (hn:n₀<=w.heap.size) (W:World) (l:Nat) (o o':Obj) (hl:w.heap.size<=l) (h:W.heap[l]? = some o) (hc:o.isCells=false) (_:o.isWalk=false):KpR n₀ Bo W (W.putObj l o') :=
 ⟨by simp,fun k hk _=>World.putObj_heap_other (by omega),fun k c e fr hk _ _=>World.putObj_heap_other (by rintro rfl;rw [h] at hk;cases hk;cases hc)⟩
theorem KpR.of_fr {n₀ Bo:Nat} {A B:World} {S:Nat->Prop} (h:Fr S A B) (hn:n₀<=A.heap.size) (hS:∀ k,S k->k=Bo\/(n₀<=k/\∃ c fr,A.heap[k]? = some (.cells c 122 fr))):KpR n₀ Bo A B :=
 ⟨h.size,fun k hk hb=>h.block k (by omega) fun s=>by rcases hS k s with e | ⟨e,_⟩ <;> omega,
   fun k c e fr hk he hb=>h.block k (zac hk) fun s=>by
    rcases hS k s with e' | ⟨_,c',fr',e'⟩
    · exact hb e'
    rw [hk] at e';cases e';exact he rfl⟩
theorem hdd (k:Nat):(Fence.wide.depth.isSome=true->1<=k):=fun h=>by cases h
theorem zns {W W':World} (h:Fr No W W'):W.grownBy W' none:=⟨h.os,h.tape,h.output,h.size,fun k hk _=>h.block k hk id⟩
theorem ztr (t:Nat) (frm:ByteArray) (w:World) :
 Calls Tryz.prog 114 #[.pointer (some ⟨t,0,none⟩),.string frm] w fun e w'=>e = .returned (.func (.func 152) #[] #[.pointer (some ⟨w.heap.size,0,none⟩),.pointer (some ⟨w.heap.size+1,0,none⟩)]) ∧
  (w.alloc (.cells #[.pointer (some ⟨t,0,none⟩)] 103)).alloc (.cells #[.string frm] 9)=w':=by
 have hmf:∀ (fn:Fn) (first cap:Array Value) (w:World),(Instr.makeFunc fn first cap).run Tryz.prog w = .ok (.func fn first cap) w:=fun _ _ _ _=>rfl;go_enter Tryz.func114,Tryz.ntmps114;go_wp2;go_ret;exact ⟨rfl,rfl⟩
structure RgI (w:World) (tO:ByteArray) (most:Nat) (n₀:Nat) (out:Pairs) (W:World):Prop where
 b0:W.heap[w.heap.size]? = some (.cells #[Value.string tO] 9 (0,0))
 b1:W.heap[w.heap.size+1]? = some (.cells #[Value.int .i64 (most:Int)] 3 (0,0))
 b2:∃ v,W.heap[w.heap.size+1+1]? = some (.cells #[v] 119 (0,0))/\SlF W 122 2 pairC v out/\∀ b,v.ownBlock=some b->n₀<=b
 below:Below w.heap.size w W
 size:n₀<=W.heap.size
theorem RgI.own {w:World} {tO:ByteArray} {most n₀:Nat} {out:Pairs} {W W':World} {row:Option Nat} (h:RgI w tO most n₀ out W) (hn:w.heap.size<=n₀) (hg:W.grownBy W' row) (hr:∀ r,row=some r->n₀<=r/\∃ o:Obj,W.heap[r]? = some o/\o.isCells=false):RgI w tO most n₀ out W':=by
 have key:∀ (k:Nat) (c:Array Value) (e:TypeId) (fr:Nat × Nat),W.heap[k]? = some (.cells c e fr)->W'.heap[k]? = W.heap[k]?:=fun k c e fr hk =>
  hg.block k (zac hk) fun e'=>by obtain ⟨_,o,ho,hc⟩:=hr k e'.symm;rw [hk] at ho;cases ho;cases hc
 obtain ⟨v,h2,h3,h4⟩:=h.b2;refine ⟨(key _ _ _ _ h.b0).trans h.b0,(key _ _ _ _ h.b1).trans h.b1,⟨v,(key _ _ _ _ h2).trans h2,?_,h4⟩,h.below.grown hg h.below.size fun k hk=>Nat.le_trans hn (hr k hk).1,Nat.le_trans h.size hg.size⟩;refine Sl.keep h3 fun k hk=>?_;rcases h3.2 with ⟨rfl,_⟩ | ⟨g,o,cap,cur,rfl,hgg,_⟩
 · simp [Value.ownBlock] at hk
 obtain rfl:g=k:=by simpa [Value.ownBlock] using hk
 exact key _ _ _ _ hgg
theorem RgI.fr {w:World} {tO:ByteArray} {most n₀:Nat} {out:Pairs} {W W':World} (h:RgI w tO most n₀ out W) (hf:Fr No W W'):RgI w tO most n₀ out W':=by
 obtain ⟨v,h2,h3,h4⟩:=h.b2;exact ⟨hf.heap h.b0 id,hf.heap h.b1 id,⟨v,hf.heap h2 id,h3.fr0 hf,h4⟩,h.below.trans (hf.below0.mono h.below.size),Nat.le_trans h.size hf.size⟩
theorem RgI.grow {w:World} {tO:ByteArray} {most n₀:Nat} {pre:Pairs} {x:ByteArray × Int} {W w1:World} {v:Value} {ob:Obj} {g o cap:Nat} (h:RgI w tO most n₀ pre W) (hn:w.heap.size+1+1 < n₀)
 (c2:W.heap[w.heap.size+1+1]? = some (.cells #[v] 119 (0,0))) (hv:SlF W 122 2 pairC v pre) (hvn:∀ b,v.ownBlock=some b->n₀<=b)
 (hs1:SlF w1 122 2 pairC (.slice (some ⟨g,o,none⟩) (pre.length+1) cap) (pre++[x])) (hg1:(W.alloc ob).grownBy w1 v.ownBlock) (hb1:v.ownBlock=some g\/g=W.heap.size+1) :
 w1.heap[w.heap.size+1+1]? = some (.cells #[v] 119 (0,0)) ∧
 RgI w tO most n₀ (pre++[x]) (w1.setCell ⟨w.heap.size+1+1,0,none⟩ (.slice (some ⟨g,o,none⟩) (pre.length+1) cap)) ∧
 KeepsFrom n₀ W (w1.setCell ⟨w.heap.size+1+1,0,none⟩ (.slice (some ⟨g,o,none⟩) (pre.length+1) cap)) ∧
 KpR n₀ (w.heap.size+1+1) W (w1.setCell ⟨w.heap.size+1+1,0,none⟩ (.slice (some ⟨g,o,none⟩) (pre.length+1) cap)):=by
 have hF:Fr (fun b=>v.ownBlock=some b) W w1:=(((Fr.refl _ W).alloc _).grown hg1 fun k hk=>.inl hk)
 have hFS:Fr (fun b=>v.ownBlock=some b\/b=w.heap.size+1+1) W (w1.setCell ⟨w.heap.size+1+1,0,none⟩ (.slice (some ⟨g,o,none⟩) (pre.length+1) cap)) :=
  (hF.mono fun _ _ h=>.inl h).setCell (p:=⟨w.heap.size+1+1,0,none⟩) (.inl (.inr rfl)) _
 have hno:∀ k,k < n₀->¬ v.ownBlock=some k:=fun k hk e=>by have:=hvn k e;omega
 have e2:=hF.heap c2 (hno _ hn)
 have hgn:n₀<=g:=by
  rcases hb1 with e | e
  · exact hvn g e
  have:=h.size;omega
 have hvc:∀ k,v.ownBlock=some k->∃ c fr,W.heap[k]? = some (.cells c 122 fr):=by
  intro k hk;rcases hv.2 with ⟨rfl,_⟩ | ⟨g',o',cap',cur,rfl,hgg,_⟩
  · simp [Value.ownBlock] at hk
  obtain rfl:g'=k:=by simpa [Value.ownBlock] using hk
  exact ⟨_,_,hgg⟩
 refine ⟨e2,⟨?_,?_,?_,?_,?_⟩,⟨by simpa using hF.size,?_⟩,KpR.of_fr hFS h.size ?_⟩
 · exact hFS.heap h.b0 (by rintro (e | e);exact hno _ (by omega) e;omega)
 · exact hFS.heap h.b1 (by rintro (e | e);exact hno _ (by omega) e;omega)
 · refine ⟨_,zaa e2 0 _,hs1.other _ _ ?_,fun b hb=>?_⟩
   · simp only [Value.ownBlock,ne_eq,Option.some.injEq];omega
   obtain rfl:g=b:=by simpa [Value.ownBlock] using hb
   exact hgn
 · exact h.below.trans (hFS.below w.heap.size h.below.size (by rintro k (e | e);have:=hvn k e;omega;omega))
 · have:=hF.size;have:=h.size;simp;omega
 · intro k o' hk ho hc
   refine hFS.heap ho ?_;rintro (e | e)
   · obtain ⟨c,fr,e'⟩:=hvc k e;rw [ho] at e';cases e';cases hc
   omega
 rintro k (e | e)
 · right;exact ⟨hvn k e,hvc k e⟩
 left;exact e
theorem info127':(Tryz.prog.info? 122).map (fun i=>(i.zero,i.size,i.bytes))=some (some (.agg #[.string ByteArray.empty,.int .i64 0]),2,24):=by kernel_rfl
attribute [local go_sem] Oper.semAt_some
theorem TreeR.keep {w w':World} {t:Nat} {nv fv:Value} {Z:List Nz} {fl:List Nat} {root:Nat} {many:Int} (h:TreeR w t nv fv Z fl root many) (hk:∀ b,treeF t nv fv Z b->w'.heap[b]? = w.heap[b]?):TreeR w' t nv fv Z fl root many where
 obj:=by obtain ⟨e,he⟩:=h.obj;exact ⟨e,(hk t (.inl rfl)).trans he⟩
 nodes:=Sl.keep h.nodes fun b hb=>hk b (.inr (.inl hb))
 free:=Sl.keep h.free fun b hb=>hk b (.inr (.inr (.inl hb)))
 pairs i z hz:=Sl.keep (h.pairs i z hz) fun b hb=>hk b (.inr (.inr (.inr ⟨i,z,hz,.inl hb⟩)))
 kids i z hz:=Sl.keep (h.kids i z hz) fun b hb=>hk b (.inr (.inr (.inr ⟨i,z,hz,.inr hb⟩)))
 a1:=h.a1
 a2:=h.a2
 a3:=h.a3
 a4:=h.a4
structure zeh (W:World) (t n₀ Bo:Nat) (nv fv:Value) (Z:List Nz) (fl:List Nat) (root:Nat) (many:Int):Prop where
 r:TreeR W t nv fv Z fl root many
 size:n₀<=W.heap.size
 low:∀ b,treeF t nv fv Z b->b < n₀/\b≠Bo
 few:Z.length<=1099511627
theorem zeh.kp {W W':World} {t n₀ Bo:Nat} {nv fv:Value} {Z:List Nz} {fl:List Nat} {root:Nat} {many:Int} (h:zeh W t n₀ Bo nv fv Z fl root many) (k:KpR n₀ Bo W W'):zeh W' t n₀ Bo nv fv Z fl root many :=
 ⟨h.r.keep fun b hb=>k.low b (h.low b hb).1 (h.low b hb).2,Nat.le_trans h.size k.size,h.low,h.few⟩
set_option maxHeartbeats 1000000 in
theorem ztv (n l t n₀ Bo:Nat) (hBo:Bo < n₀) (nv fv:Value) (Z:List Nz) (fl:List Nat) (root:Nat) (many:Int) (frm:ByteArray) (J Jx:Pairs->World->Prop) (N:Nat)
 (hJ:∀ pre W W',J pre W->Fr No W W'->J pre W')
 (hY:∀ m pre x W,J pre W->pre.length < N->YieldAt Fence.wide m Tryz.prog l (zdt x) W fun e W' =>
   (e = .returned (.bool true)/\J (pre++[x]) W'/\KpR n₀ Bo W W')\/(e = .returned (.bool false)/\Jx (pre++[x]) W'))
 (at_:Nat) (z:Nz) (hz:Z[at_]? = some z) (h9:z.nd.pairs.length<=9) (hk0:z.nd.kids = []) (pre0:Pairs) (hN:pre0.length+(z.nd.pairs.drop (spotOf z.nd.pairs frm)).length<=N)
 (W:World) (h:zeh W t n₀ Bo nv fv Z fl root many) (h0:J pre0 W) :
 CallsIn Fence.wide n Tryz.prog 153 #[.pointer (some ⟨t,0,none⟩),.int .i64 at_,.string frm,.func (.yield l) #[] #[]] W fun e W' =>
  (e = .returned (.bool true)/\J (pre0++z.nd.pairs.drop (spotOf z.nd.pairs frm)) W'/\KpR n₀ Bo W W')\/(e = .returned (.bool false)/\∃ pre,pre <+: z.nd.pairs.drop (spotOf z.nd.pairs frm)/\Jx (pre0++pre) W'):=by
 have hsp:=spotZ h.r at_ z hz h9 h.few frm;unfold zbt at hsp;have hzl:=h.few;have hatl:at_ < Z.length:=(List.getElem?_eq_some_iff.1 hz).1;obtain ⟨nb,no,cap,rfl,hcap⟩:=h.r.headLen (by omega);have c0:=h.r.obj.cell 0 rfl;obtain ⟨n0,n1,_,_⟩:=h.r.look at_ z hz;obtain ⟨pa,pcap,hpv,hc3,hc4,hpa⟩:=(h.r.pairs at_ z hz).shape;obtain ⟨ka,kcap,hkv,hc5,hc6,hka⟩:=(h.r.kids at_ z hz).shape;have hkl:z.nd.kids.length=0:=by rw [hk0];rfl
 rw [hpv] at n0;rw [hkv,hkl] at n1;have hsl:=zbo z.nd.pairs frm;have hatz:(at_:Int) < (Z.length:Int):=by omega
 have hltW:t < W.heap.size:=h.r.obj.lt;have hlnb:nb < W.heap.size:=h.r.nodes.lt nb rfl;have H:=H_ h;have HA:=H_ hpa;have HZ:=H_ hz;have HPV:=H_ hpv;have hsz0:=h.size;clear h hpa hz hpv hkv hka hk0 hkl;refine callsIn_of_wp Tryz.func153 rfl trivial ?_ rfl;simp only [Tryz.ntmps153,List.size_toArray,List.length_cons,List.length_nil,Nat.reduceAdd,Nat.reduceSub,Array.replicate_succ,Array.replicate_zero,List.push_toArray,List.append_toArray,List.nil_append,List.cons_append];generalize hitOf z.nd.pairs frm=hit at hsp;generalize spotOf z.nd.pairs frm=s0 at *;cases hit
 all_goals
  gi_wp2_with (refine ⟨trivial,hdd _,?_⟩;gi_at_call 157;refine (callsIn_wide.2 hsp).mono ?_;clear hsp;rintro e w' ⟨rfl,rfl⟩)
  refine ⟨trivial,?_⟩
  gi_wp2
  gi_loopw [9] (fun i wr=>∃ k:Nat,s0<=k/\k<=z.nd.pairs.length/\i = .int .i64 k/\Hid (J (pre0++(z.nd.pairs.drop s0).take (k - s0)) wr)/\KpR n₀ Bo W wr/\wr.heap[W.heap.size]? = some (.cells #[.slice pa z.nd.pairs.length pcap,.slice ka 0 kcap] 231 (0,0)))
   (fun i _=>z.nd.pairs.length - (intOf i).toNat)
  case atStart=>exact ⟨s0,Nat.le_refl _,hsl,rfl,H_ (by simpa using hJ _ _ _ h0 ((Fr.refl _ W).alloc _)),KpR.of_fr ((Fr.refl No W).alloc _) hsz0 (fun _ s=>s.elim),heap_alloc_new _ _⟩
  case round =>
   obtain ⟨k,hk1,hk2,rfl,hJs,hKp,hbp⟩:=hrel;have p0:wr.cell? ⟨W.heap.size,0,none⟩=some (.slice pa z.nd.pairs.length pcap):=cellAt hbp 0 rfl;have p1:wr.cell? ⟨W.heap.size,1,none⟩=some (.slice ka 0 kcap):=cellAt hbp 1 rfl;by_cases hlt:k < z.nd.pairs.length
   · obtain ⟨pb,po,rfl⟩:=HA.out (by omega)
     obtain ⟨x,hx⟩:∃ x,z.nd.pairs[k]? = some x:=⟨_,List.getElem?_eq_getElem hlt⟩
     have hpw:SlF wr 122 2 pairC (.slice (some ⟨pb,po,none⟩) z.nd.pairs.length pcap) z.nd.pairs:=by
      have:=(H.out.kp hKp).r.pairs at_ z HZ.out
      rwa [HPV.out] at this
     have x0:=hpw.cell0 zae k hx rfl;have x1:=hpw.cell zae k 1 hx rfl;obtain ⟨fn,tmps,assign,body,hy,hR⟩:=hY (n - 1) _ x wr hJs.out (by simp at hN ⊢;omega);dsimp only [zdt] at hy;have hkz:(k:Int) < (z.nd.pairs.length:Int):=(by omega);have HX:=H_ hx;have hbl2:n₀<=wr.heap.size:=Nat.le_trans hsz0 hKp.size;have hpbl:pb < wr.heap.size:=hpw.lt pb rfl;clear hx hpw
     gi_wp2
     refine ⟨hdd _,hR.mono ?_⟩;rintro e W3 (⟨rfl,hJ3,hk3⟩ | ⟨rfl,hJx3⟩)
     · have hb3:=(hk3.rows _ _ _ _ hbp (by decide) (by omega)).trans hbp
       have q0:W3.cell? ⟨W.heap.size,0,none⟩=some (.slice (some ⟨pb,po,none⟩) z.nd.pairs.length pcap):=cellAt hb3 0 rfl;have q1:W3.cell? ⟨W.heap.size,1,none⟩=some (.slice ka 0 kcap):=cellAt hb3 1 rfl
       have hst:(z.nd.pairs.drop s0).take (k - s0)++[x] = (z.nd.pairs.drop s0).take (k+1 - s0):=by
        rw [show k+1 - s0=(k - s0)+1 from by omega,List.take_add_one,List.getElem?_drop,show s0+(k - s0)=k from by omega,HX.out]
        rfl
       rw [List.append_assoc,hst] at hJ3;have HJ3:=H_ hJ3;clear hJ3 hst hJs p0 p1 x0 x1
       gi_wp2
       refine ⟨trivial,?_⟩
       gi_wp2
       go_roundw
       case rel=>exact ⟨k+1,by omega,by omega,by go_num,HJ3,hKp.trans hk3,hb3⟩
       case measure=>simp [intOf];omega
     have hst:(z.nd.pairs.drop s0).take (k - s0)++[x] = (z.nd.pairs.drop s0).take (k+1 - s0):=by
      rw [show k+1 - s0=(k - s0)+1 from by omega,List.take_add_one,List.getElem?_drop,show s0+(k - s0)=k from by omega,HX.out]
      rfl
     rw [List.append_assoc,hst] at hJx3;have HJ3:=H_ hJx3;clear hJx3 hst hJs p0 p1 x0 x1
     gi_wp2
     go_ret;exact .inr ⟨rfl,_,List.take_prefix _ _,HJ3.out⟩
   obtain rfl:k=z.nd.pairs.length:=by omega
   gi_wp2
   go_ret;exact .inl ⟨rfl,by have:=hJs.out;rwa [List.take_of_length_le (by simp)] at this,hKp⟩
attribute [local go_sem] Oper.semAt_some
theorem zpa (f:Nat->Pairs):∀ (P:Pairs) (K:List Nat) (p:ByteArray × Int) (k:Nat),K.length=P.length->rwv f (P++[p]) (K++[k])=rwv f P K++p :: f k
 | [],[],p,k,_=>by simp [rwv]
 | [],_ :: _,_,_,h=>by simp at h
 | _ :: _,[],_,_,h=>by simp at h
 | q :: P,c :: K,p,k,h=>by simp [rwv,zpa f P K p k (by simpa using h)]
def zhj (n₀ Bo:Nat) (J Jx:Pairs->World->Prop) (pre0 S:Pairs) (W:World) (e:Ending) (W':World):Prop :=
 (e = .returned (.bool true)/\J (pre0++S) W'/\KpR n₀ Bo W W')\/(e = .returned (.bool false)/\∃ pre,pre <+: S/\Jx (pre0++pre) W')
def segW (f:Nat->Pairs) (P:Pairs) (K:List Nat) (s0 k:Nat):Pairs:=rwv f ((P.drop s0).take (k - s0)) ((K.drop (s0+1)).take (k - s0))
theorem zli (f:Nat->Pairs) (P:Pairs) (K:List Nat) (s0:Nat):segW f P K s0 s0 = []:=by unfold segW;simp [rwv]
theorem zhq (f:Nat->Pairs) (P:Pairs) (K:List Nat) (s0 k:Nat) (x:ByteArray × Int) (c:Nat) (h:s0<=k) (hx:P[k]? = some x) (hc:K[k+1]? = some c) (hl:K.length=P.length+1):segW f P K s0 (k+1)=segW f P K s0 k++x :: f c:=by
 have hk:=(List.getElem?_eq_some_iff.1 hx).1;unfold segW;rw [show k+1 - s0=(k - s0)+1 by omega,List.take_add_one,List.take_add_one,List.getElem?_drop,List.getElem?_drop,show s0+(k - s0)=k by omega,show s0+1+(k - s0)=k+1 by omega,hx,hc];exact zpa f _ _ x c (by simp;omega)
theorem zjx (f:Nat->Pairs) (P:Pairs) (K:List Nat) (s0:Nat) (hl:K.length=P.length+1):segW f P K s0 P.length=rwv f (P.drop s0) (K.drop (s0+1)):=by
 unfold segW;rw [List.take_of_length_le (by simp),List.take_of_length_le (by simp;omega)]
theorem zfo (f:Nat->Pairs) (P:Pairs) (K:List Nat) (s0:Nat) (hl:K.length=P.length+1):∀ (m k:Nat),k+m=P.length->s0<=k->segW f P K s0 k <+: rwv f (P.drop s0) (K.drop (s0+1))
 | 0,k,h,_=>by obtain rfl:k=P.length:=by omega
               rw [zjx f P K s0 hl];exact List.prefix_refl _
 | m+1,k,h,hs=>by
   have ih:=zfo f P K s0 hl m (k+1) (by omega) (by omega);rw [zhq f P K s0 k _ _ hs (List.getElem?_eq_getElem (by omega)) (List.getElem?_eq_getElem (by omega)) hl] at ih;exact (List.prefix_append _ _).trans ih
set_option maxHeartbeats 4000000 in
theorem zrn (n l t n₀ Bo:Nat) (hBo:Bo < n₀) (nv fv:Value) (Z:List Nz) (fl:List Nat) (root:Nat) (many:Int) (frm:ByteArray) (J Jx:Pairs->World->Prop) (N:Nat)
 (hJ:∀ pre W W',J pre W->Fr No W W'->J pre W')
 (hY:∀ m pre x W,J pre W->pre.length < N->YieldAt Fence.wide m Tryz.prog l (zdt x) W fun e W' =>
   (e = .returned (.bool true)/\J (pre++[x]) W'/\KpR n₀ Bo W W')\/(e = .returned (.bool false)/\Jx (pre++[x]) W'))
 (at_:Nat) (z:Nz) (hz:Z[at_]? = some z) (h9:z.nd.pairs.length<=9) (hl:z.nd.kids.length=z.nd.pairs.length+1) (f:Nat->Pairs)
 (hIH:∀ (m c:Nat) (pre:Pairs) (W:World),c∈z.nd.kids->zeh W t n₀ Bo nv fv Z fl root many->pre.length+(f c).length<=N->J pre W →
   CallsIn Fence.wide m Tryz.prog 153 #[.pointer (some ⟨t,0,none⟩),.int .i64 c,.string frm,.func (.yield l) #[] #[]] W (zhj n₀ Bo J Jx pre (f c) W))
 (pre0 first:Pairs) (hfirst:first=if hitOf z.nd.pairs frm then [] else f (z.nd.kids.getD (spotOf z.nd.pairs frm) 0))
 (hN:pre0.length+(first++rwv f (z.nd.pairs.drop (spotOf z.nd.pairs frm)) (z.nd.kids.drop (spotOf z.nd.pairs frm+1))).length<=N)
 (W:World) (h:zeh W t n₀ Bo nv fv Z fl root many) (h0:J pre0 W) :
 CallsIn Fence.wide n Tryz.prog 153 #[.pointer (some ⟨t,0,none⟩),.int .i64 at_,.string frm,.func (.yield l) #[] #[]] W
  (zhj n₀ Bo J Jx pre0 (first++rwv f (z.nd.pairs.drop (spotOf z.nd.pairs frm)) (z.nd.kids.drop (spotOf z.nd.pairs frm+1))) W):=by
 have hsp:=spotZ h.r at_ z hz h9 h.few frm;unfold zbt at hsp;have hzl:=h.few;have hatl:at_ < Z.length:=(List.getElem?_eq_some_iff.1 hz).1;obtain ⟨nb,no,cap,rfl,hcap⟩:=h.r.headLen (by omega);have c0:=h.r.obj.cell 0 rfl;obtain ⟨n0,n1,_,_⟩:=h.r.look at_ z hz;obtain ⟨pa,pcap,hpv,hc3,hc4,hpa⟩:=(h.r.pairs at_ z hz).shape;obtain ⟨ka,kcap,hkv,hc5,hc6,hka⟩:=(h.r.kids at_ z hz).shape;obtain ⟨kb,ko,rfl⟩:=hka (by omega);rw [hpv] at n0;rw [hkv] at n1;have hsl:=zbo z.nd.pairs frm;have hatz:(at_:Int) < (Z.length:Int):=by omega
 have hltW:t < W.heap.size:=h.r.obj.lt;have hlnb:nb < W.heap.size:=h.r.nodes.lt nb rfl;have hkb:kb < n₀/\kb≠Bo:=h.low kb (.inr (.inr (.inr ⟨at_,z,hz,.inr (by rw [hkv];rfl)⟩)));obtain ⟨c,hc⟩:∃ c,z.nd.kids[spotOf z.nd.pairs frm]? = some c:=⟨_,List.getElem?_eq_getElem (by omega)⟩;have hcd:z.nd.kids.getD (spotOf z.nd.pairs frm) 0=c:=by simp [List.getD,hc]
 rw [hcd] at hfirst;have hkk:=h.r.kids at_ z hz;rw [hkv] at hkk;have k0:=hkk.cell1 zag _ hc rfl;have hcm:=List.mem_of_getElem? hc;have H:=H_ h;have HA:=H_ hpa;have HZ:=H_ hz;have HPV:=H_ hpv;have HKV:=H_ hkv;have HIH:=H_ hIH;have HFI:=H_ hfirst;have HN:=H_ hN;have HL:=H_ hl;have HCM:=H_ hcm;have hsz0:=h.size;have hlkb:kb < W.heap.size:=by omega
 have hkz:(0:Int) < (z.nd.kids.length:Int):=by omega
 have hsz:(spotOf z.nd.pairs frm:Int) < (z.nd.kids.length:Int):=by omega
 have hBW:Bo < W.heap.size:=by omega
 clear h hpa hz hpv hkv hka hIH hfirst hN hl hkk hcd hc hcm;refine callsIn_of_wp Tryz.func153 rfl trivial ?_ rfl;simp only [Tryz.ntmps153,List.size_toArray,List.length_cons,List.length_nil,Nat.reduceAdd,Nat.reduceSub,Array.replicate_succ,Array.replicate_zero,List.push_toArray,List.append_toArray,List.nil_append,List.cons_append];generalize hitOf z.nd.pairs frm=hit at *;generalize spotOf z.nd.pairs frm=s0 at *;have hA0:Fr No W (W.alloc (Obj.cells #[.slice pa z.nd.pairs.length pcap,.slice (some ⟨kb,ko,none⟩) z.nd.kids.length kcap] 231)):=(Fr.refl No W).alloc _;have hkp0:KpR n₀ Bo W (W.alloc (Obj.cells #[.slice pa z.nd.pairs.length pcap,.slice (some ⟨kb,ko,none⟩) z.nd.kids.length kcap] 231)):=KpR.of_fr hA0 hsz0 (fun _ s=>s.elim)
 have hb0:(W.alloc (Obj.cells #[.slice pa z.nd.pairs.length pcap,.slice (some ⟨kb,ko,none⟩) z.nd.kids.length kcap] 231)).heap[W.heap.size]? = some (.cells #[.slice pa z.nd.pairs.length pcap,.slice (some ⟨kb,ko,none⟩) z.nd.kids.length kcap] 231 (0,0)):=heap_alloc_new _ _;have HA0:=H_ hA0;have HKP0:=H_ hkp0;have HB0:=H_ hb0;have HJ0:=H_ (hJ _ _ _ h0 hA0);clear hA0 hkp0 hb0 h0;cases hit
 · have hff:first=f c:=by have:=HFI.out;simpa using this
   have hih:=HIH.out (n - 1) c pre0 _ HCM.out (H.out.kp HKP0.out) (by have:=HN.out;rw [hff] at this;simp only [List.length_append] at this;omega) HJ0.out;have HI1:=H_ hih;have HFF:=H_ hff;clear hih hff
   gi_wp2_with (first
    | (refine ⟨trivial,hdd _,?_⟩;gi_at_call 157;refine (callsIn_wide.2 hsp).mono ?_;clear hsp;rintro e w' ⟨rfl,rfl⟩)
    | (refine ⟨trivial,hdd _,?_⟩;gi_at_call 153;refine HI1.out.mono ?_;rintro e w2 (⟨rfl,hJ2,hk2⟩ | ⟨rfl,pre,hpre,hx⟩)))
   · have hb2:=(hk2.rows _ _ _ _ HB0.out (by decide) (by omega)).trans HB0.out
     have HB2:=H_ hb2;have HJ2:Hid (J (pre0++first) w2):=H_ (by rw [HFF.out];exact hJ2);have HK2:=H_ (HKP0.out.trans hk2);clear hb2 hJ2 hk2 k0 n0 n1 c0;have hb2:w2.heap[W.heap.size]? = some (.cells #[.slice pa z.nd.pairs.length pcap,.slice (some ⟨kb,ko,none⟩) z.nd.kids.length kcap] 231 (0,0)):=HB2.out;have q0:w2.cell? ⟨W.heap.size,0,none⟩=some (.slice pa z.nd.pairs.length pcap):=cellAt hb2 0 rfl;have q1:w2.cell? ⟨W.heap.size,1,none⟩=some (.slice (some ⟨kb,ko,none⟩) z.nd.kids.length kcap):=cellAt hb2 1 rfl;clear hb2
     gi_wp2
     gi_loopw [9] (fun i wr=>∃ k:Nat,s0<=k/\k<=z.nd.pairs.length/\i = .int .i64 k/\Hid (J (pre0++first++segW f z.nd.pairs z.nd.kids s0 k) wr)/\Hid (KpR n₀ Bo W wr)/\wr.heap[W.heap.size]? = some (.cells #[.slice pa z.nd.pairs.length pcap,.slice (some ⟨kb,ko,none⟩) z.nd.kids.length kcap] 231 (0,0)))
      (fun i _=>z.nd.pairs.length - (intOf i).toNat)
     case atStart=>exact ⟨s0,Nat.le_refl _,hsl,rfl,H_ (by rw [zli,List.append_nil];exact HJ2.out),HK2,HB2.out⟩
     case round =>
      obtain ⟨k,hk1,hk2,rfl,hJs,hKp,hbp⟩:=hrel;have p0:wr.cell? ⟨W.heap.size,0,none⟩=some (.slice pa z.nd.pairs.length pcap):=cellAt hbp 0 rfl;have p1:wr.cell? ⟨W.heap.size,1,none⟩=some (.slice (some ⟨kb,ko,none⟩) z.nd.kids.length kcap):=cellAt hbp 1 rfl;by_cases hlt:k < z.nd.pairs.length
      · obtain ⟨pb,po,rfl⟩:=HA.out (by omega)
        obtain ⟨x,hx⟩:∃ x,z.nd.pairs[k]? = some x:=⟨_,List.getElem?_eq_getElem hlt⟩;obtain ⟨c',hc'⟩:∃ c',z.nd.kids[k+1]? = some c':=⟨_,List.getElem?_eq_getElem (by have:=HL.out;omega)⟩;have hWk:=H.out.kp hKp.out
        have hpw:SlF wr 122 2 pairC (.slice (some ⟨pb,po,none⟩) z.nd.pairs.length pcap) z.nd.pairs:=by
         have:=hWk.r.pairs at_ z HZ.out
         rwa [HPV.out] at this
        have x0:=hpw.cell0 zae k hx rfl;have x1:=hpw.cell zae k 1 hx rfl;have hpf:=zfo f z.nd.pairs z.nd.kids s0 HL.out (z.nd.pairs.length - (k+1)) (k+1) (by omega) (by omega);have hsu:=zhq f z.nd.pairs z.nd.kids s0 k x c' hk1 hx hc' HL.out;have hpl:=hpf.length_le;have hNN:=HN.out
        have hlen1:(pre0++first++segW f z.nd.pairs z.nd.kids s0 k).length < N:=by
         rw [hsu] at hpl;simp only [List.length_append,List.length_cons] at hpl hNN ⊢
         omega
        have hlen2:(pre0++first++segW f z.nd.pairs z.nd.kids s0 k++[x]).length+(f c').length<=N:=by
         rw [hsu] at hpl;simp only [List.length_append,List.length_cons,List.length_nil] at hpl hNN ⊢
         omega
        obtain ⟨fn,tmps,assign,body,hy,hR⟩:=hY (n - 1) _ x wr hJs.out hlen1;dsimp only [zdt] at hy;have hkz2:(k:Int) < (z.nd.pairs.length:Int):=(by omega);have hkz3:(k:Int)+1 < (z.nd.kids.length:Int):=(by have:=HL.out;omega);have hkz4:(0:Int)<=(k:Int)+1:=(by omega);have hkz5:((k:Int)+1).toNat=k+1:=(by omega);have HX:=H_ hx;have HC':=H_ hc';have HSU:=H_ hsu;have HPF:=H_ hpf;have hbl2:n₀<=wr.heap.size:=Nat.le_trans hsz0 hKp.out.size;have hpbl:pb < wr.heap.size:=hpw.lt pb rfl;have hWlt:W.heap.size < wr.heap.size:=zac hbp;clear hx hpw hc' hsu hpf hpl hNN hlen1
        gi_wp2
        refine ⟨hdd _,hR.mono ?_⟩;rintro e W3 (⟨rfl,hJ3,hk3⟩ | ⟨rfl,hJx3⟩)
        · have hb3:=(hk3.rows _ _ _ _ hbp (by decide) (by omega)).trans hbp
          have q0:W3.cell? ⟨W.heap.size,0,none⟩=some (.slice (some ⟨pb,po,none⟩) z.nd.pairs.length pcap):=cellAt hb3 0 rfl;have q1:W3.cell? ⟨W.heap.size,1,none⟩=some (.slice (some ⟨kb,ko,none⟩) z.nd.kids.length kcap):=cellAt hb3 1 rfl;have hW3:=hWk.kp hk3
          have hkq:W3.cell? ⟨kb,ko+(k+1),none⟩=some (.int .i64 (c':Int)):=by
           have hh:=hW3.r.kids at_ z HZ.out;rw [HKV.out] at hh;exact hh.cell1 zag _ HC'.out rfl
          have hkb3:kb < W3.heap.size:=World.block_lt_of_cell? _ _ hkq;have hih:=HIH.out (n - 1) c' _ W3 (List.mem_of_getElem? HC'.out) hW3 hlen2 hJ3;have HI2:=H_ hih;have HKP3:=H_ hk3;have HB3:=H_ hb3;clear hJ3 hJs p0 p1 x0 x1 hih hk3 hb3 hW3 hWk hlen2
          gi_wp2_with (first
           | (refine ⟨trivial,hdd _,?_⟩;gi_at_call 153;refine HI2.out.mono ?_;rintro e w4 (⟨rfl,hJ4,hk4⟩ | ⟨rfl,pre,hpre,hx4⟩)))
          · have hb4:=(hk4.rows _ _ _ _ HB3.out (by decide) (by omega)).trans HB3.out
            have HJ4:=H_ hJ4;have HK4:=H_ hk4;clear hJ4 hk4
            gi_wp2
            go_roundw
            case rel =>
             refine ⟨k+1,by omega,by omega,by go_num,H_ ?_,H_ ((hKp.out.trans HKP3.out).trans HK4.out),hb4⟩;have:=HJ4.out;rw [HSU.out];simpa using this
            case measure=>simp [intOf];omega
          have HX4:=H_ hx4
          have HPRE:=H_ hpre;clear hx4 hpre
          gi_wp2
          go_ret;refine .inr ⟨rfl,first++(segW f z.nd.pairs z.nd.kids s0 k++x :: pre),?_,by have:=HX4.out;simpa using this⟩;refine (List.prefix_append_right_inj first).2 (List.IsPrefix.trans ?_ HPF.out);rw [HSU.out];refine (List.prefix_append_right_inj _).2 ?_;exact List.cons_prefix_cons.2 ⟨rfl,HPRE.out⟩
        have HJ3:=H_ hJx3
        clear hJx3 hJs p0 p1 x0 x1 hWk
        gi_wp2
        go_ret;refine .inr ⟨rfl,first++(segW f z.nd.pairs z.nd.kids s0 k++[x]),?_,by have:=HJ3.out;simpa using this⟩;refine (List.prefix_append_right_inj first).2 (List.IsPrefix.trans ?_ HPF.out);rw [HSU.out];refine (List.prefix_append_right_inj _).2 ?_;exact List.cons_prefix_cons.2 ⟨rfl,List.nil_prefix⟩
      obtain rfl:k=z.nd.pairs.length:=by omega
      gi_wp2
      go_ret;exact .inl ⟨rfl,by have:=hJs.out;rw [zjx f _ _ _ HL.out,List.append_assoc] at this;exact this,hKp.out⟩
   have HX:=H_ hx
   have HPRE:=H_ hpre;clear hx hpre
   gi_wp2
   go_ret;refine .inr ⟨rfl,pre,?_,HX.out⟩;rw [HFF.out];exact HPRE.out.trans (List.prefix_append _ _)
 have hff:first = []:=by have:=HFI.out;simpa using this
 gi_wp2_with (first
  | (refine ⟨trivial,hdd _,?_⟩;gi_at_call 157;refine (callsIn_wide.2 hsp).mono ?_;clear hsp;rintro e w' ⟨rfl,rfl⟩))
 refine ⟨trivial,?_⟩;have HB2:=HB0;have HJ2:Hid (J (pre0++first) _):=H_ (by rw [hff,List.append_nil];exact HJ0.out);have HK2:=HKP0;generalize (W.alloc (Obj.cells #[.slice pa z.nd.pairs.length pcap,.slice (some ⟨kb,ko,none⟩) z.nd.kids.length kcap] 231))=w2 at *;have HFF:=H_ hff;clear hff k0 n0 n1 c0;have hb2:w2.heap[W.heap.size]? = some (.cells #[.slice pa z.nd.pairs.length pcap,.slice (some ⟨kb,ko,none⟩) z.nd.kids.length kcap] 231 (0,0)):=HB2.out;have q0:w2.cell? ⟨W.heap.size,0,none⟩=some (.slice pa z.nd.pairs.length pcap):=cellAt hb2 0 rfl;have q1:w2.cell? ⟨W.heap.size,1,none⟩=some (.slice (some ⟨kb,ko,none⟩) z.nd.kids.length kcap):=cellAt hb2 1 rfl;clear hb2
 gi_wp2
 gi_loopw [9] (fun i wr=>∃ k:Nat,s0<=k/\k<=z.nd.pairs.length/\i = .int .i64 k/\Hid (J (pre0++first++segW f z.nd.pairs z.nd.kids s0 k) wr)/\Hid (KpR n₀ Bo W wr)/\wr.heap[W.heap.size]? = some (.cells #[.slice pa z.nd.pairs.length pcap,.slice (some ⟨kb,ko,none⟩) z.nd.kids.length kcap] 231 (0,0)))
  (fun i _=>z.nd.pairs.length - (intOf i).toNat)
 case atStart=>exact ⟨s0,Nat.le_refl _,hsl,rfl,H_ (by rw [zli,List.append_nil];exact HJ2.out),HK2,HB2.out⟩
 case round =>
  obtain ⟨k,hk1,hk2,rfl,hJs,hKp,hbp⟩:=hrel;have p0:wr.cell? ⟨W.heap.size,0,none⟩=some (.slice pa z.nd.pairs.length pcap):=cellAt hbp 0 rfl;have p1:wr.cell? ⟨W.heap.size,1,none⟩=some (.slice (some ⟨kb,ko,none⟩) z.nd.kids.length kcap):=cellAt hbp 1 rfl;by_cases hlt:k < z.nd.pairs.length
  · obtain ⟨pb,po,rfl⟩:=HA.out (by omega)
    obtain ⟨x,hx⟩:∃ x,z.nd.pairs[k]? = some x:=⟨_,List.getElem?_eq_getElem hlt⟩;obtain ⟨c',hc'⟩:∃ c',z.nd.kids[k+1]? = some c':=⟨_,List.getElem?_eq_getElem (by have:=HL.out;omega)⟩;have hWk:=H.out.kp hKp.out
    have hpw:SlF wr 122 2 pairC (.slice (some ⟨pb,po,none⟩) z.nd.pairs.length pcap) z.nd.pairs:=by
     have:=hWk.r.pairs at_ z HZ.out
     rwa [HPV.out] at this
    have x0:=hpw.cell0 zae k hx rfl;have x1:=hpw.cell zae k 1 hx rfl;have hpf:=zfo f z.nd.pairs z.nd.kids s0 HL.out (z.nd.pairs.length - (k+1)) (k+1) (by omega) (by omega);have hsu:=zhq f z.nd.pairs z.nd.kids s0 k x c' hk1 hx hc' HL.out;have hpl:=hpf.length_le;have hNN:=HN.out
    have hlen1:(pre0++first++segW f z.nd.pairs z.nd.kids s0 k).length < N:=by
     rw [hsu] at hpl;simp only [List.length_append,List.length_cons] at hpl hNN ⊢
     omega
    have hlen2:(pre0++first++segW f z.nd.pairs z.nd.kids s0 k++[x]).length+(f c').length<=N:=by
     rw [hsu] at hpl;simp only [List.length_append,List.length_cons,List.length_nil] at hpl hNN ⊢
     omega
    obtain ⟨fn,tmps,assign,body,hy,hR⟩:=hY (n - 1) _ x wr hJs.out hlen1;dsimp only [zdt] at hy;have hkz2:(k:Int) < (z.nd.pairs.length:Int):=(by omega);have hkz3:(k:Int)+1 < (z.nd.kids.length:Int):=(by have:=HL.out;omega);have hkz4:(0:Int)<=(k:Int)+1:=(by omega);have hkz5:((k:Int)+1).toNat=k+1:=(by omega);have HX:=H_ hx;have HC':=H_ hc';have HSU:=H_ hsu;have HPF:=H_ hpf;have hbl2:n₀<=wr.heap.size:=Nat.le_trans hsz0 hKp.out.size;have hpbl:pb < wr.heap.size:=hpw.lt pb rfl;have hWlt:W.heap.size < wr.heap.size:=zac hbp;clear hx hpw hc' hsu hpf hpl hNN hlen1
    gi_wp2
    refine ⟨hdd _,hR.mono ?_⟩;rintro e W3 (⟨rfl,hJ3,hk3⟩ | ⟨rfl,hJx3⟩)
    · have hb3:=(hk3.rows _ _ _ _ hbp (by decide) (by omega)).trans hbp
      have q0:W3.cell? ⟨W.heap.size,0,none⟩=some (.slice (some ⟨pb,po,none⟩) z.nd.pairs.length pcap):=cellAt hb3 0 rfl;have q1:W3.cell? ⟨W.heap.size,1,none⟩=some (.slice (some ⟨kb,ko,none⟩) z.nd.kids.length kcap):=cellAt hb3 1 rfl;have hW3:=hWk.kp hk3
      have hkq:W3.cell? ⟨kb,ko+(k+1),none⟩=some (.int .i64 (c':Int)):=by
       have hh:=hW3.r.kids at_ z HZ.out;rw [HKV.out] at hh;exact hh.cell1 zag _ HC'.out rfl
      have hkb3:kb < W3.heap.size:=World.block_lt_of_cell? _ _ hkq;have hih:=HIH.out (n - 1) c' _ W3 (List.mem_of_getElem? HC'.out) hW3 hlen2 hJ3;have HI2:=H_ hih;have HKP3:=H_ hk3;have HB3:=H_ hb3;clear hJ3 hJs p0 p1 x0 x1 hih hk3 hb3 hW3 hWk hlen2
      gi_wp2_with (first
       | (refine ⟨trivial,hdd _,?_⟩;gi_at_call 153;refine HI2.out.mono ?_;rintro e w4 (⟨rfl,hJ4,hk4⟩ | ⟨rfl,pre,hpre,hx4⟩)))
      · have hb4:=(hk4.rows _ _ _ _ HB3.out (by decide) (by omega)).trans HB3.out
        have HJ4:=H_ hJ4;have HK4:=H_ hk4;clear hJ4 hk4
        gi_wp2
        go_roundw
        case rel =>
         refine ⟨k+1,by omega,by omega,by go_num,H_ ?_,H_ ((hKp.out.trans HKP3.out).trans HK4.out),hb4⟩;have:=HJ4.out;rw [HSU.out];simpa using this
        case measure=>simp [intOf];omega
      have HX4:=H_ hx4
      have HPRE:=H_ hpre;clear hx4 hpre
      gi_wp2
      go_ret;refine .inr ⟨rfl,first++(segW f z.nd.pairs z.nd.kids s0 k++x :: pre),?_,by have:=HX4.out;simpa using this⟩;refine (List.prefix_append_right_inj first).2 (List.IsPrefix.trans ?_ HPF.out);rw [HSU.out];refine (List.prefix_append_right_inj _).2 ?_;exact List.cons_prefix_cons.2 ⟨rfl,HPRE.out⟩
    have HJ3:=H_ hJx3
    clear hJx3 hJs p0 p1 x0 x1 hWk
    gi_wp2
    go_ret;refine .inr ⟨rfl,first++(segW f z.nd.pairs z.nd.kids s0 k++[x]),?_,by have:=HJ3.out;simpa using this⟩;refine (List.prefix_append_right_inj first).2 (List.IsPrefix.trans ?_ HPF.out);rw [HSU.out];refine (List.prefix_append_right_inj _).2 ?_;exact List.cons_prefix_cons.2 ⟨rfl,List.nil_prefix⟩
  obtain rfl:k=z.nd.pairs.length:=by omega
  gi_wp2
  go_ret;exact .inl ⟨rfl,by have:=hJs.out;rw [zjx f _ _ _ HL.out,List.append_assoc] at this;exact this,hKp.out⟩
theorem zrg (w:World) (t:Nat) (frm tO:ByteArray) :
 Calls Tryz.prog 60 #[.pointer (some ⟨t,0,none⟩),.string frm,.string tO,.int .i64 0] w fun e w'=>e = .returned (.slice none 0 0)/\Fr No w w':=by
 go_enter Tryz.func60,Tryz.ntmps60;go_wp2;go_ret;exact ⟨rfl,(((Fr.refl No w).alloc _).alloc _).alloc _⟩
abbrev zar:=World->Nat->Pairs->(Nat->Prop)->Prop
structure TreeOk (TA:zar) (N:Nat):Prop where
 lt:∀ {w t T F},TA w t T F->∀ b,F b->b < w.heap.size
 fr:∀ {w w' t T F S},TA w t T F->Fr S w w'->(∀ b,F b->¬ S b)->TA w' t T F
 root:∀ {w t T F},TA w t T F->F t
 sorted:∀ {w t T F},TA w t T F->Sorted T
 new:∀ w:World,Calls Tryz.prog 51 #[] w fun e w'=>∃ t,e = .returned (.pointer (some ⟨t,0,none⟩))/\∃ F,TA w' t [] F/\Fr No w w'/\(∀ b,F b->w.heap.size<=b)
 len:∀ {w t T F},TA w t T F->Calls Tryz.prog 61 #[.pointer (some ⟨t,0,none⟩)] w fun e w'=>e = .returned (.int .i64 T.length)/\w=w'
 get:∀ {w t T F} (key:ByteArray),TA w t T F->Calls Tryz.prog 121 #[.pointer (some ⟨t,0,none⟩),.string key] w fun e w'=>e = .returned (zck (getT T key))/\Fr No w w'
 set:∀ {w t T F} (key:ByteArray) (m:Int),TA w t T F->T.length < N →
  Calls Tryz.prog 116 #[.pointer (some ⟨t,0,none⟩),.string key,.int .i64 m] w fun e w'=>(∃ v,e = .returned v)/\∃ F',TA w' t (insT T key m) F'/\Fr F w w'/\(∀ b,F' b->F b\/w.heap.size<=b)
 range:∀ {w t T F} (frm tO:ByteArray),TA w t T F →
  Calls Tryz.prog 60 #[.pointer (some ⟨t,0,none⟩),.string frm,.string tO,.int .i64 T.length] w fun e w'=>∃ v,e = .returned v/\SlF w' 122 2 pairC v (rangeT T frm tO)/\Fr No w w'/\(∀ b,v.ownBlock=some b->w.heap.size<=b)
end Go.Proofs.YthljnnjpmdgkoaaGreat