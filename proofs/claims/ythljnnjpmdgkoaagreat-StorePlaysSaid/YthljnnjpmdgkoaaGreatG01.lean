/- Own lemmas and contracts that the claim's proof needs, laid together. The conditions stand in each. -/
import Derived.Test.YthljnnjpmdgkoaaGreatG00
import Derived.StillTail
import Derived.StillTailTactics
import Derived.OrdersIn
import Derived.TacticsIn
import Derived.OwnWalkIn
import Derived.TacticsInMore
import Derived.RangeFuncCalls
import Derived.RangeFuncNested
import Derived.RangeFuncBound
import Derived.RangeFuncLeaves
import Derived.RangeFuncBox
import Derived.RangeFuncWrites
import Derived.Shelf.Abstract
import Derived.LoopNIn
import Derived.LoopIn
import Derived.Maps.OwnOps
import Derived.Maps.OwnSet
namespace Go.Proofs.YthljnnjpmdgkoaaGreat
open Go Go.RowKit
section
variable {F:Fence} {n:Nat} {P:Program} {ops:Array Oper} {md:Region.Mode} {w:World}
theorem zig (hfn:∀ f,F.fn f) (hdep:F.depth=none) (hF:∀ (f:FuncId) (args:Array Value) (w:World) (R:Ending->World->Prop),Calls P f args w R->CallsIn F (n - 1) P f args w R)
 {o:Oper} {a:Act} {K:Act->Prop} {K':Act->World->Prop} {Q':Exit->Act->World->Prop} (h:∀ a,K a->K' a w) (hh:o.still P a w K):o.wpIn F n P a w K' Q':=by
 refine ⟨fun f _=>hfn f,?_⟩
 have hnd:∀ c,o.op ≠ .defer c:=by
  intro c hc;unfold Oper.still at hh
  have:∀ (c:Call) (t:TypeId),∀ r,((execOp a.eval o).run P w)=r->o.op = .defer c->(∃ d w',r = .ok (.defer d) w')\/(∃ x w',r = .halt x w'):=by
   intro c t r hr ho;unfold execOp at hr;rw [ho] at hr;simp only at hr;subst hr;generalize hs:(resolve a.eval c o.type).run P w=s
   cases s with
   | ok d w'=>left;refine ⟨d,w',?_⟩;simp [hs]
   | halt x w'=>right;refine ⟨x,w',?_⟩;simp [hs]
  rcases this c 0 _ rfl hc with ⟨d,w',e⟩ | ⟨x,w',e⟩ <;> rw [e] at hh <;> simp only [Oper.stillUpon] at hh
 rw [Oper.semAt_eq _ _ _ hnd];unfold Oper.still at hh;generalize (execOp a.eval o).run P w=r at *
 cases r with
 | ok x w' =>
   cases x <;> simp only [Oper.stillUpon] at hh <;> simp only [Oper.uponIn]
   case enter f args =>
    obtain ⟨rfl,v,hc,hn⟩:=hh;exact ⟨(fun hd=>by rw [hdep] at hd;cases hd),(hF _ _ _ _ hc).mono fun e w'' ⟨he,hw⟩=>by subst he;subst hw;exact h _ hn⟩
   all_goals (obtain ⟨rfl,h2⟩:=hh;exact h _ h2)
 | halt x w'=>simp only [Oper.stillUpon] at hh
theorem zjq (hfn:∀ f,F.fn f) (hdep:F.depth=none) (hF:∀ (f:FuncId) (args:Array Value) (w:World) (R:Ending->World->Prop),Calls P f args w R->CallsIn F (n - 1) P f args w R)
 {i:Nat} {a:Act} {K:Act->Prop} {K':Act->World->Prop} {Q':Exit->Act->World->Prop} (h:∀ a,K a->K' a w) (hh:stOp P ops w i K a):wpOpIn F n P ops Q' i K' a w:=by
 unfold stOp at hh;unfold wpOpIn
 split
 · rename_i ho;simp only [ho] at hh;exact h _ hh
 rename_i o ho
 simp only [ho] at hh
 split
 · rename_i hw;simp only [hw,if_true] at hh;exact zig hfn hdep hF h hh
 rename_i hw;simp only [hw] at hh;exact ⟨fun f _=>hfn f,h _ hh⟩
theorem zeu (hfn:∀ f,F.fn f) (hdep:F.depth=none) (hF:∀ (f:FuncId) (args:Array Value) (w:World) (R:Ending->World->Prop),Calls P f args w R->CallsIn F (n - 1) P f args w R)
 {m g:Nat} {L:Array Bool->Act->Prop} {Q':Exit->Act->World->Prop} (hL:∀ listed a,L listed a->wpAnyIn F n P md ops Q' g listed a w) :
 ∀ (f:Nat) (listed:Array Bool) (a:Act),wpAnyL P md ops w m L f listed a->wpAnyIn F n P md ops Q' (f+g) listed a w
 | 0,listed,a,h=>by rw [Nat.zero_add];exact hL _ _ h
 | f+1,listed,a,h=>by
   rw [show f+1+g=(f+g)+1 by omega];exact ⟨fun h0=>absurd h0 h.1,fun i hi=>zjq hfn hdep hF (fun a' h'=>zeu hfn hdep hF hL f _ a' h') (h.2 i hi).2⟩
theorem zfu {Q':Exit->Act->World->Prop}:∀ (l:List Oper) (k:Nat) (listed:Array Bool) (a:Act) (w:World),(∀ j:Nat,l[j]? = ops[k+j]?) →
 Region.seqB md ops l.length k listed=true->wpListIn F n P ops Q' l a w->wpAnyIn F n P md ops Q' l.length listed a w
 | [],_,_,_,_,_,hB,h=>⟨by simpa [Region.seqB] using hB,h⟩
 | o :: l,k,listed,a,w,hl,hB,h=>by
   have h0:ops[k]? = some o:=(by simpa using (hl 0).symm);simp only [List.length_cons,Region.seqB,Bool.and_eq_true,decide_eq_true_eq] at hB;refine ⟨fun h1=>(by rw [hB.1] at h1;cases h1),fun i hi=>?_⟩;rw [hB.1] at hi;have hik:i=k:=(by simpa using hi);subst hik;have hw:wpOpIn F n P ops Q' i (wpListIn F n P ops Q' l) a w:=(by unfold wpOpIn;simp only [h0];exact h);exact wpOpIn_mono (fun a' w' h'=>zfu l (i+1) _ a' w' (fun j=>by have:=hl (j+1);simpa [Nat.add_assoc,Nat.add_comm 1 j] using this) hB.2 h') hw
theorem zck {id:Nat} {Q:Exit->Act->World->Prop} {a:Act} {w:World} {l:List Oper} (m:Nat) (hfn:∀ f,F.fn f) (hdep:F.depth=none)
 (hF:∀ (f:FuncId) (args:Array Value) (w:World) (R:Ending->World->Prop),Calls P f args w R->CallsIn F (n - 1) P f args w R) (hm:P.follows .mixedOrders=true) (hB:Region.lexTailB .any l.toArray m=true)
 (h:wpStill P l.toArray w.drew (fun a'=>wpListIn F n P l.toArray Q (l.drop m) a' w.drew) (l.take m) a):(Code.region id l.toArray true).wpIn F n P Q a w:=by
 simp only [Region.lexTailB,Bool.and_eq_true,decide_eq_true_eq] at hB;obtain ⟨⟨⟨⟨hsel,hn⟩,hs⟩,hc⟩,hlex⟩:=hB;have hn':m < l.length:=by simpa using hn
 have htl:(l.take m).length=m:=by simp;omega
 have hdl:(l.drop m).length=l.toArray.size - m:=by simp
 have inv0:HeadInv .any l.toArray m (Array.replicate l.toArray.size false) :=
  ⟨by simp,fun j oj _ hl=>(by rw [getD_replicate_false] at hl;cases hl),fun t _ ht=>getD_in (by simpa using ht) (getD_replicate_false _ _)⟩
 have H:=wpAnyL_lex (md:=.any) (g:=l.toArray.size - m) hsel hs hc hn (l.take m) 0 _ a (fun j hj=>by
  have hj':j < m:=(by rw [htl] at hj;exact hj);simp [hj']) (by simpa using htl) inv0 (by rw [htl];exact hlex) h
 refine wpIn_region_any hm ?_
 have:=zeu hfn hdep hF (Q':=Q) (g:=l.toArray.size - m) (fun listed a' hL=>by
  have:=zfu (F:=F) (n:=n) (P:=P) (md:=.any) (Q':=Q) (l.drop m) m listed a' w.drew (fun j=>by simp [List.getElem?_drop]) (by rw [hdl];exact hL.1) hL.2
  rwa [hdl] at this) _ _ _ H
 rw [htl,show m+(l.toArray.size - m)=l.toArray.size by omega] at this;exact this
end
theorem zjy {n:Nat} {P:Program} (l:Nat) (f:FuncId) (args:Array Value) (w:World) (R:Ending->World->Prop) (h:Calls P f args w R):CallsIn (Fence.wide.inRound l) n P f args w R :=
 CallsIn.inRound l (callsIn_wide.2 h)
theorem zdl {α:Type} {f:α->List Value} {F:Fence} {n:Nat} {P:Program} {w:World} {ops:Array Oper} {rest:List Oper} {o:Oper} {a:Act} {Q:Exit->Act->World->Prop} (hgd:o.guard=none) (s x:Operand) (t:TypeId)
 (ho:o.op = .call { callee:=.builtin .append,args:=#[s,x],argTypes:=#[t,t] })
 (e:TypeId) (i:TypeInfo) (z:Value) (sz bytes:Nat) (ht:P.underlying t=some (.slice e)) (hi:P.info? e=some i) (hz:i.zero=some z) (hsize:i.size=sz) (hby:i.bytes=bytes) (hzs:z.cells.size=sz) (hsz:0 < sz)
 (v:Value) (L:List α) (hs:a.eval s=v) (hown:SlF w e sz f v L)
 (b c:Nat) (y:α) (hx:a.eval x = .slice (some ⟨b,0,none⟩) 1 c) (hnews:∀ j u,(f y)[j]? = some u->w.cell? ((⟨b,0,none⟩:Addr).add j)=some u) (hl:(f y).length=sz) (h1:∀ u∈f y,u.oneCell'=true)
 (h63:L.length+1<=maxLen) (hbytes:(L.length+1) * bytes<=140737488355328)
 (h:∀ g o' cap w',SlF w' e sz f (.slice (some ⟨g,o',none⟩) (L.length+1) cap) (L++[y])->w.grownBy w' v.ownBlock->(v.ownBlock=some g\/g=w.heap.size)->g < w'.heap.size →
   wpListIn F n P ops Q rest (a.put o.dst (.slice (some ⟨g,o',none⟩) (L.length+1) cap)) w'):wpListIn F n P ops Q (o :: rest) a w:=by
 subst hsize;subst hby;refine wpListIn_plain hgd fun K hK'=>?_;obtain ⟨g,o',cap,w',hrun,h2,h3,h4,h5⟩:=zci (P:=P) w t o.type e i z ht hi hz hzs hsz v L.length (L.flatMap f) hown ⟨b,0,none⟩ 1 c (f y) (by omega) (by omega) hnews h1 h63 hbytes;unfold Oper.wpIn;refine ⟨?_,?_⟩
 · simp [Oper.about,ho,resolve,Target.leads,Sem.run_pure]
 rw [Oper.semAt_plain F _ _ (by rw [ho];intro c hc';cases hc')]
 simp [execOp,ho,resolve,invoke,builtin,hs,hx,hrun,Result.andThen];refine hK' _ _ (h g o' cap w' ?_ h3 h4 h5);unfold SlF;simpa using h2
open Go Go.Proofs Go.RowKit Go.Shelf
set_option maxRecDepth 100000
attribute [local go_sem] Oper.semAt_some
theorem zmm {F:Fence} (hd:F.depth=none) (k:Nat):F.room k:=fun d h=>by rw [hd] at h;cases h
theorem zjp {F:Fence} (hd:F.depth=none) {m:Nat} (m':Nat) {P:Program} {l:Nat} {args:Array Value} {W:World} {R:Ending->World->Prop} (h:YieldAt F m P l args W R):YieldAt F m' P l args W R:=by
 obtain ⟨fn,tmps,assign,body,hy,hR⟩:=h;exact ⟨fn,tmps,assign,body,hy,hR.1,fun c cs _=>hR.2 c cs (zmm hd _)⟩
def zee (x:ByteArray × Int):Array Value:=#[.agg #[.string x.1,.int .i64 x.2]]
structure KpR (n₀ Bo:Nat) (A B:World):Prop where
 size:A.heap.size<=B.heap.size
 low:∀ k,k < n₀->k≠Bo->B.heap[k]? = A.heap[k]?
 rows:∀ (k:Nat) c e fr,A.heap[k]? = some (.cells c e fr)->e≠122->k≠Bo->B.heap[k]? = A.heap[k]?
theorem KpR.trans {n₀ Bo:Nat} {A B C:World} (h:KpR n₀ Bo A B) (k:KpR n₀ Bo B C):KpR n₀ Bo A C :=
 ⟨Nat.le_trans h.size k.size,fun i hi hb=>(k.low i hi hb).trans (h.low i hi hb),fun i c e fr hi he hb=>(k.rows i c e fr ((h.rows i c e fr hi he hb).trans hi) he hb).trans (h.rows i c e fr hi he hb)⟩
theorem KpR.putObj {n₀ Bo:Nat} {w:World} (hn:n₀<=w.heap.size) (W:World) (l:Nat) (o o':Obj) (hl:w.heap.size<=l) (h:W.heap[l]? = some o) (hc:o.isCells=false) (_:o.isWalk=false):KpR n₀ Bo W (W.putObj l o') :=
 ⟨by simp,fun k hk _=>World.putObj_heap_other (by omega),fun k c e fr hk _ _=>World.putObj_heap_other (by rintro rfl;rw [h] at hk;cases hk;cases hc)⟩
theorem KpR.of_fr {n₀ Bo:Nat} {A B:World} {S:Nat->Prop} (h:Fr S A B) (hn:n₀<=A.heap.size) (hS:∀ k,S k->k=Bo\/(n₀<=k/\∃ c fr,A.heap[k]? = some (.cells c 122 fr))):KpR n₀ Bo A B :=
 ⟨h.size,fun k hk hb=>h.block k (by omega) fun s=>by rcases hS k s with e | ⟨e,_⟩ <;> omega,
   fun k c e fr hk he hb=>h.block k (zac hk) fun s=>by
    rcases hS k s with e' | ⟨_,c',fr',e'⟩
    · exact hb e'
    rw [hk] at e';cases e';exact he rfl⟩
theorem hdd (k:Nat):(Fence.wide.depth.isSome=true->1<=k):=fun h=>by cases h
theorem zos {W W':World} (h:Fr No W W'):W.grownBy W' none:=⟨h.os,h.tape,h.output,h.size,fun k hk _=>h.block k hk id⟩
theorem zud (t:Nat) (frm:ByteArray) (w:World) :
 Calls Tryz.prog 114 #[.pointer (some ⟨t,0,none⟩),.string frm] w fun e w'=>e = .returned (.func (.func 152) #[] #[.pointer (some ⟨w.heap.size,0,none⟩),.pointer (some ⟨w.heap.size+1,0,none⟩)]) ∧
  (w.alloc (.cells #[.pointer (some ⟨t,0,none⟩)] 103)).alloc (.cells #[.string frm] 9)=w':=by
 have hmf:∀ (fn:Fn) (first cap:Array Value) (w:World),(Instr.makeFunc fn first cap).run Tryz.prog w = .ok (.func fn first cap) w:=fun _ _ _ _=>rfl;go_enter Tryz.func114,Tryz.ntmps114;go_wp2;go_ret;exact ⟨rfl,rfl⟩
structure RgI (w:World) (tO:ByteArray) (most:Nat) (n₀:Nat) (out:Pairs) (W:World):Prop where
 b0:W.heap[w.heap.size]? = some (.cells #[Value.string tO] 9 (0,0))
 b1:W.heap[w.heap.size+1]? = some (.cells #[Value.int .i64 (most:Int)] 3 (0,0))
 b2:∃ v,W.heap[w.heap.size+1+1]? = some (.cells #[v] 119 (0,0))/\SlF W 122 2 pairC v out/\∀ b,v.ownBlock=some b->n₀<=b
 below:Below w.heap.size w W
 size:n₀<=W.heap.size
theorem RgI.own {w:World} {tO:ByteArray} {most n₀:Nat} {out:Pairs} {W W':World} {row:Option Nat} (h:RgI w tO most n₀ out W) (hn:w.heap.size<=n₀) (hg:W.grownBy W' row) (hr:∀ r,row=some r->n₀<=r/\∃ o:Obj,W.heap[r]? = some o/\o.isCells=false):RgI w tO most n₀ out W':=by
 have key:∀ (k:Nat) (c:Array Value) (e:TypeId) (fr:Nat × Nat),W.heap[k]? = some (.cells c e fr)->W'.heap[k]? = W.heap[k]?:=fun k c e fr hk =>
  hg.block k (zac hk) fun e'=>by obtain ⟨_,o,ho,hc⟩:=hr k e'.symm;rw [hk] at ho;cases ho;cases hc
 obtain ⟨v,h2,h3,h4⟩:=h.b2;refine ⟨(key _ _ _ _ h.b0).trans h.b0,(key _ _ _ _ h.b1).trans h.b1,⟨v,(key _ _ _ _ h2).trans h2,?_,h4⟩,h.below.grown hg h.below.size fun k hk=>Nat.le_trans hn (hr k hk).1,Nat.le_trans h.size hg.size⟩;refine Sl.keep h3 fun k hk=>?_;rcases h3.2 with ⟨rfl,_⟩ | ⟨g,o,cap,cur,rfl,hgg,_⟩
 · simp [Value.ownBlock] at hk
 obtain rfl:g=k:=by simpa [Value.ownBlock] using hk
 exact key _ _ _ _ hgg
theorem RgI.fr {w:World} {tO:ByteArray} {most n₀:Nat} {out:Pairs} {W W':World} (h:RgI w tO most n₀ out W) (hf:Fr No W W'):RgI w tO most n₀ out W':=by
 obtain ⟨v,h2,h3,h4⟩:=h.b2;exact ⟨hf.heap h.b0 id,hf.heap h.b1 id,⟨v,hf.heap h2 id,h3.fr0 hf,h4⟩,h.below.trans (hf.below0.mono h.below.size),Nat.le_trans h.size hf.size⟩
theorem RgI.grow {w:World} {tO:ByteArray} {most n₀:Nat} {pre:Pairs} {x:ByteArray × Int} {W w1:World} {v:Value} {ob:Obj} {g o cap:Nat} (h:RgI w tO most n₀ pre W) (hn:w.heap.size+1+1 < n₀)
 (c2:W.heap[w.heap.size+1+1]? = some (.cells #[v] 119 (0,0))) (hv:SlF W 122 2 pairC v pre) (hvn:∀ b,v.ownBlock=some b->n₀<=b)
 (hs1:SlF w1 122 2 pairC (.slice (some ⟨g,o,none⟩) (pre.length+1) cap) (pre++[x])) (hg1:(W.alloc ob).grownBy w1 v.ownBlock) (hb1:v.ownBlock=some g\/g=W.heap.size+1) :
 w1.heap[w.heap.size+1+1]? = some (.cells #[v] 119 (0,0)) ∧
 RgI w tO most n₀ (pre++[x]) (w1.setCell ⟨w.heap.size+1+1,0,none⟩ (.slice (some ⟨g,o,none⟩) (pre.length+1) cap)) ∧
 KeepsFrom n₀ W (w1.setCell ⟨w.heap.size+1+1,0,none⟩ (.slice (some ⟨g,o,none⟩) (pre.length+1) cap)) ∧
 KpR n₀ (w.heap.size+1+1) W (w1.setCell ⟨w.heap.size+1+1,0,none⟩ (.slice (some ⟨g,o,none⟩) (pre.length+1) cap)):=by
 have hF:Fr (fun b=>v.ownBlock=some b) W w1:=(((Fr.refl _ W).alloc _).grown hg1 fun k hk=>.inl hk)
 have hFS:Fr (fun b=>v.ownBlock=some b\/b=w.heap.size+1+1) W (w1.setCell ⟨w.heap.size+1+1,0,none⟩ (.slice (some ⟨g,o,none⟩) (pre.length+1) cap)) :=
  (hF.mono fun _ _ h=>.inl h).setCell (p:=⟨w.heap.size+1+1,0,none⟩) (.inl (.inr rfl)) _
 have hno:∀ k,k < n₀->¬ v.ownBlock=some k:=fun k hk e=>by have:=hvn k e;omega
 have e2:=hF.heap c2 (hno _ hn)
 have hgn:n₀<=g:=by
  rcases hb1 with e | e
  · exact hvn g e
  have:=h.size;omega
 have hvc:∀ k,v.ownBlock=some k->∃ c fr,W.heap[k]? = some (.cells c 122 fr):=by
  intro k hk;rcases hv.2 with ⟨rfl,_⟩ | ⟨g',o',cap',cur,rfl,hgg,_⟩
  · simp [Value.ownBlock] at hk
  obtain rfl:g'=k:=by simpa [Value.ownBlock] using hk
  exact ⟨_,_,hgg⟩
 refine ⟨e2,⟨?_,?_,?_,?_,?_⟩,⟨by simpa using hF.size,?_⟩,KpR.of_fr hFS h.size ?_⟩
 · exact hFS.heap h.b0 (by rintro (e | e);exact hno _ (by omega) e;omega)
 · exact hFS.heap h.b1 (by rintro (e | e);exact hno _ (by omega) e;omega)
 · refine ⟨_,zaa e2 0 _,hs1.other _ _ ?_,fun b hb=>?_⟩
   · simp only [Value.ownBlock,ne_eq,Option.some.injEq];omega
   obtain rfl:g=b:=by simpa [Value.ownBlock] using hb
   exact hgn
 · exact h.below.trans (hFS.below w.heap.size h.below.size (by rintro k (e | e);have:=hvn k e;omega;omega))
 · have:=hF.size;have:=h.size;simp;omega
 · intro k o' hk ho hc
   refine hFS.heap ho ?_;rintro (e | e)
   · obtain ⟨c,fr,e'⟩:=hvc k e;rw [ho] at e';cases e';cases hc
   omega
 rintro k (e | e)
 · right;exact ⟨hvn k e,hvc k e⟩
 left;exact e
theorem info127':(Tryz.prog.info? 122).map (fun i=>(i.zero,i.size,i.bytes))=some (some (.agg #[.string ByteArray.empty,.int .i64 0]),2,24):=by kernel_rfl
theorem zod {P:Program} (w:World) (dT sT ty elem:TypeId) (i:TypeInfo) (dp sp:Option Addr) (dLen dCap sLen sCap g o:Nat) (cur:Array Value) (t:TypeId) (cs:List Value)
 (hu:P.underlying dT=some (.slice elem)) (hi:P.info? elem=some i) (hg:w.heap[g]? = some (.cells cur t (0,0))) (hn:cs.length=Nat.min sLen dLen * i.size)
 (hpos:0 < cs.length->dp=some ⟨g,o,none⟩/\∃ ad,sp=some ad/\∀ j v,cs[j]? = some v->w.cell? (ad.add j)=some v) (hfit:o+cs.length<=cur.size) (h1:∀ v∈cs,v.oneCell'=true) :
 ∃ w',(Builtin.copy_ #[dT,sT] ty #[.slice dp dLen dCap,.slice sp sLen sCap]).run P w = .ok (goInt (Nat.min sLen dLen)) w' ∧
  w'.heap[g]? = some (.cells (cur.toList.take o++cs++cur.toList.drop (o+cs.length)).toArray t (0,0))/\w.grownBy w' (some g):=by
 by_cases h0:cs.length=0
 · obtain rfl:cs = []:=List.eq_nil_of_length_eq_zero h0
   refine ⟨w,?_,by simpa using hg,⟨rfl,rfl,rfl,Nat.le_refl _,fun _ _ _=>rfl⟩⟩;have hz:Nat.min sLen dLen * i.size=0:=(by simpa using hn.symm);cases sp <;> cases dp <;> simp [Builtin.copy_,run_underlying hu,Builtin.lenOf,Builtin.firstCells,sizeOf,typeInfo,hi,hz,storeCells,loadCells,loadCellsFrom]
 obtain ⟨rfl,ad,rfl,hsrc⟩:=hpos (by omega)
 have hl:=run_loadCells_list (P:=P) w ad cs hsrc;have hst:=run_storeCells_at P g o t cs 0 cur w hg (by simpa using hfit) h1;refine ⟨w.setRow g (cur.toList.take o++cs++cur.toList.drop (o+cs.length)).toArray,?_,setRow_heap w g cur _ t _ hg,⟨rfl,rfl,rfl,by simp,fun k _ hk=>setRow_other w g k _ (fun e=>hk (by rw [e]))⟩⟩;simp [Builtin.copy_,run_underlying hu,Builtin.lenOf,Builtin.firstCells,sizeOf,typeInfo,hi,<-hn,hl,hst]
theorem zbn {P:Program} {w:World} {ops:Array Oper} {rest:List Oper} {op:Oper} {a:Act} {Q:Exit->Act->World->Prop} (hgd:op.guard=none) (d s:Operand) (dT sT elem:TypeId) (i:TypeInfo)
 (ho:op.op = .call { callee:=.builtin .copy,args:=#[d,s],argTypes:=#[dT,sT] }) (hu:P.underlying dT=some (.slice elem)) (hi:P.info? elem=some i)
 (dp sp:Option Addr) (dLen dCap sLen sCap g o:Nat) (cur:Array Value) (t:TypeId) (cs:List Value) (hd:a.eval d = .slice dp dLen dCap) (hs:a.eval s = .slice sp sLen sCap)
 (hg:w.heap[g]? = some (.cells cur t (0,0))) (hn:cs.length=Nat.min sLen dLen * i.size)
 (hpos:0 < cs.length->dp=some ⟨g,o,none⟩/\∃ ad,sp=some ad/\∀ j v,cs[j]? = some v->w.cell? (ad.add j)=some v) (hfit:o+cs.length<=cur.size) (h1:∀ v∈cs,v.oneCell'=true)
 (h:∀ w',w'.heap[g]? = some (.cells (cur.toList.take o++cs++cur.toList.drop (o+cs.length)).toArray t (0,0))->w.grownBy w' (some g)->wpList P ops Q rest (a.put op.dst (goInt (Nat.min sLen dLen))) w'):wpList P ops Q (op :: rest) a w:=by
 refine wpList_plain hgd fun _ hK=>?_;obtain ⟨w',hr,h2,h3⟩:=zod (P:=P) w dT sT op.type elem i dp sp dLen dCap sLen sCap g o cur t cs hu hi hg hn hpos hfit h1;unfold Oper.wp execOp;simp only [ho,resolve,invoke,builtin,Sem.run_bind,Sem.run_pure,Result.andThen_ok,List.map_toArray,List.map_cons,List.map_nil,hd,hs,hr];exact hK _ _ (h w' h2 h3)
theorem SlF.copied {α:Type} {f:α->List Value} {w w':World} {e sz g o cap:Nat} {L:List α} (hf:∀ x,(f x).length=sz) (h:SlF w e sz f (.slice (some ⟨g,o,none⟩) L.length cap) L) (j k m:Nat) (hj:j+m<=L.length) (hk:k+m<=L.length)
 (cur:Array Value) (hg:w.heap[g]? = some (.cells cur e (0,0)))
 (hg':w'.heap[g]? = some (.cells (cur.toList.take (o+k * sz)++(((L.drop j).take m).flatMap f)++cur.toList.drop (o+k * sz+m * sz)).toArray e (0,0))) :
 SlF w' e sz f (.slice (some ⟨g,o,none⟩) L.length cap) (L.take k++(L.drop j).take m++L.drop (k+m)):=by
 have hlen:(L.take k++(L.drop j).take m++L.drop (k+m)).length=L.length:=by simp;omega
 unfold SlF;rw [hlen];refine ⟨by rw [zan hf,hlen],?_⟩;rcases h.2 with ⟨h0,_⟩ | ⟨g',o',cap',cur',hv,hc,h1,h2,h3,h4⟩
 · cases h0
 cases hv
 rw [hg] at hc;cases hc
 have hL:L.length * sz<=cap * sz:=Nat.mul_le_mul_right _ h1;have hkm:k * sz+m * sz<=L.length * sz:=(by rw [<-Nat.add_mul];exact Nat.mul_le_mul_right _ hk);have hml:(((L.drop j).take m).flatMap f).length=m * sz:=(by rw [zan hf];congr 1;simp;omega);have hcl:cur.toList.length=cur.size:=(by simp);refine .inr ⟨g,o,cap,_,rfl,hg',h1,h2,?_,?_⟩
 · simp only [List.size_toArray,List.length_append,List.length_take,List.length_drop,hml,hcl]
   omega
 have e1:(cur.toList.take (o+k * sz)).drop o=(L.take k).flatMap f:=by
  rw [<-zds hf,<-h4,List.drop_take,List.take_take]
  congr 1
  omega
 have e2:(cur.toList.drop (o+k * sz+m * sz)).take (L.length * sz - (k * sz+m * sz))=(L.drop (k+m)).flatMap f:=by
  have:(L.flatMap f).drop ((k+m) * sz)=(L.drop (k+m)).flatMap f:=by
   have h5:=congrArg (fun l=>List.flatMap f l) (List.take_append_drop (k+m) L);simp only [List.flatMap_append] at h5;rw [<-h5,<-zds hf,List.drop_append_of_le_length (by rw [List.length_take,zan hf,Nat.add_mul];omega),List.drop_eq_nil_of_le (by rw [List.length_take];omega),List.nil_append]
  rw [<-this,<-h4,List.drop_take,List.drop_drop,Nat.add_mul]
  congr 2
  omega
 show (((cur.toList.take (o+k * sz)++(((L.drop j).take m).flatMap f)++cur.toList.drop (o+k * sz+m * sz)).drop o).take (L.length * sz))=_
 rw [List.append_assoc,List.drop_append_of_le_length (by simp;omega),e1];rw [List.flatMap_append,List.flatMap_append,List.append_assoc];have e3:((L.take k).flatMap f).length=k * sz:=(by rw [zan hf];congr 1;simp;omega);have e4:L.length * sz=((L.take k).flatMap f).length+((((L.drop j).take m).flatMap f).length+(L.length * sz - (k * sz+m * sz))):=(by rw [e3,hml];omega);rw [e4,List.take_length_add_append,List.take_length_add_append,e2]
open Go Go.Proofs Go.RowKit
theorem info127:(Tryz.prog.info? 122).map (fun i=>(i.zero,i.size,i.bytes))=some (some (.agg #[.string ByteArray.empty,.int .i64 0]),2,24):=by kernel_rfl
theorem zng {α:Type} (L:List α) (x:α) (i:Nat) (hi:i<=L.length) :
 (((L++[x]).take (i+1)++((L++[x]).drop i).take (L.length - i)++(L++[x]).drop (i+1+(L.length - i))).set i x)=L.take i++x :: L.drop i:=by
 have h1:(L++[x]).drop (i+1+(L.length - i)) = []:=List.drop_eq_nil_of_le (by simp;omega)
 have h2:((L++[x]).drop i).take (L.length - i)=L.drop i:=by
  rw [List.drop_append_of_le_length hi,List.take_append_of_le_length (by simp),List.take_of_length_le (by simp)]
 rw [h1,h2,List.append_nil];by_cases h:i < L.length
 · have h3:(L++[x]).take (i+1)=L.take i++[L[i]]:=by
    rw [List.take_append_of_le_length (by omega),List.take_succ_eq_append_getElem h]
   rw [h3,List.append_assoc,List.set_append_right _ _ (by simp;omega)];simp [show i - min i L.length=0 from by omega]
 obtain rfl:i=L.length:=by omega
 rw [List.take_of_length_le (by simp)];simp
set_option maxHeartbeats 1000000 in
theorem zed (w:World) (v:Value) (L:Pairs) (i:Nat) (x:ByteArray × Int) (hv:SlF w 122 2 pairC v L) (hi:i<=L.length) (hl:L.length<=1099511627) :
 Calls Tryz.prog 158 #[v,.int .i64 i,.agg #[.string x.1,.int .i64 x.2]] w fun e w'=>∃ g o cap,e = .returned (.slice (some ⟨g,o,none⟩) (L.length+1) cap) ∧
  SlF w' 122 2 pairC (.slice (some ⟨g,o,none⟩) (L.length+1) cap) (L.take i++x :: L.drop i)/\Fr (fun b=>v.ownBlock=some b) w w'/\(v.ownBlock=some g\/w.heap.size<=g):=by
 obtain ⟨i0,hi0,hz0,hz1,hz2⟩:=info_parts info127;have hnew:=zar (w.alloc (.cells #[.string x.1,.int .i64 x.2] 122)) [.string x.1,.int .i64 x.2] 122 (0,0);have HV:=H_ hv;clear hv;have hil:(0:Int)<=(i:Int):=by omega
 go_enter Tryz.func158,Tryz.ntmps158;go_wp2_with (at_builtin;refine zao rfl _ _ 119 rfl 122 i0 _ 2 24 Tryz.underlying119 hi0 hz0 hz1 hz2 rfl (by decide) v L rfl ((HV.out.alloc _).alloc _) (w.heap.size+1) 1 x rfl (by simpa [pairC] using hnew) rfl ?c1 ?c2 ?c3 ?_)
 case c1=>intro u hu;simp [pairC] at hu;rcases hu with rfl | rfl <;> rfl
 case c2=>unfold maxLen;omega
 case c3=>omega
 intro g o cap w1 hs1 hg1 hb1 hlt1;have hgl:=HV.out.lt;have hF1:Fr (fun b=>v.ownBlock=some b) w w1:=((((Fr.refl _ w).alloc _).alloc _).grown hg1 fun k hk=>.inl hk)
 have hgne:g≠w.heap.size:=by
  rintro rfl;rcases hb1 with e | e
  · have:=hgl _ e;omega
  omega
 have hgnew:v.ownBlock=some g\/w.heap.size<=g:=by
  rcases hb1 with e | e
  · exact .inl e
  right;omega
 -- the box of x
 have hx1:w1.heap[w.heap.size]? = some (.cells #[.string x.1,.int .i64 x.2] 122 (0,0)):=by
  rw [hg1.block w.heap.size (by simp;omega) (fun e=>by have:=hgl _ e.symm;omega)];exact zaj (zad _ _ _ rfl) _
 obtain ⟨cur,hcur,hncap,hfit⟩:∃ cur,w1.heap[g]? = some (.cells cur 122 (0,0))/\L.length+1<=cap/\o+cap * 2<=cur.size:=by
  rcases hs1.2 with ⟨h0,_⟩ | ⟨_,_,_,cur,hv,hc,h2,h3,h4,h5⟩
  · cases h0
  simp only [Value.slice.injEq,Option.some.injEq,Addr.mk.injEq,and_true] at hv
  obtain ⟨⟨rfl,rfl⟩,_,rfl⟩:=hv;exact ⟨cur,hc,by simpa using h2,h4⟩
 have hL1:(L++[x]).length=L.length+1:=by simp
 have H1:=H_ hs1;clear hs1;have HG1:=H_ hg1;clear hg1;have HL:=H_ hL1;clear hL1;clear hnew;have hi1:(i:Int)+1<=(L.length:Int)+1:=by omega
 have hi5:(0:Int)<=(i:Int)+1:=by omega
 have hi2:(i:Int)<=(L.length:Int)+1:=by omega
 have hi3:i+1<=L.length+1:=by omega
 have hi4:i<=L.length+1:=by omega
 go_wp2_with fail;refine wp_region_still_tail 7 (by kernel_rfl) (by kernel_rfl) ?_;simp only [List.take_succ_cons,List.take_zero,List.drop_succ_cons,List.drop_zero];change wpStill _ _ w1.drew _ _ _
 repeat (refine wpStill_step (fun K hK=>?_);go_simp;(try go_bits);refine hK _ ?_;clear hK K)
 refine wpStill_nil ?_;change wpList _ _ _ _ _ w1.drew
 have hlen2:((((L++[x]).drop i).take (L.length - i)).flatMap pairC).length=(L.length - i) * 2:=by
  rw [zan zag];congr 1;simp;omega
 have hmin:Nat.min (L.length+1 - i) (L.length - i)=L.length - i:=Nat.min_eq_right (by omega);refine zbn rfl _ _ 119 119 122 i0 rfl Tryz.underlying119 hi0 _ _ _ _ _ _ g (o+(i+1) * 2) cur 122 ((((L++[x]).drop i).take (L.length - i)).flatMap pairC) rfl rfl hcur (by rw [hlen2,hz1,hmin]) ?hpos ?hfit ?h1 ?_
 case hpos =>
  intro hp;rw [hlen2] at hp;rw [if_neg (by omega),if_neg (by omega)];refine ⟨rfl,_,rfl,fun j u hu=>?_⟩;have hj:=(List.getElem?_eq_some_iff.1 hu).1;rw [hlen2] at hj;have hadd:(⟨g,o+i * 2,none⟩:Addr).add j=⟨g,o+(i * 2+j),none⟩:=(by unfold Addr.add;split <;> simp_all [Nat.add_assoc]);rw [hadd];refine Sl.cell (by have:=H1.out;unfold SlF at this;rw [HL.out] at this;exact this) (i * 2+j) ?_;rw [<-zds zag,List.getElem?_take,if_pos (by omega)] at hu;rw [<-hu];have h5:=congrArg (fun l=>List.flatMap pairC l) (List.take_append_drop i (L++[x]));simp only [List.flatMap_append] at h5;have h6:(List.flatMap pairC (List.take i (L++[x]))).length=i * 2:=(by rw [zan zag];congr 1;simp;omega);rw [List.flatMap_append,<-h5,List.getElem?_append_right (by rw [h6];omega),h6,show i * 2+j - i * 2=j from by omega]
 case hfit=>rw [hlen2];omega
 case h1 =>
  intro u hu;obtain ⟨y,_,hy⟩:=List.mem_flatMap.1 hu;simp [pairC] at hy;rcases hy with rfl | rfl <;> rfl
 intro w2 hw2 hgr2;generalize (if cap=i+1 then some (⟨g,o,none⟩:Addr) else some ⟨g,o+(i+1) * 2,none⟩)=A1;generalize (if cap=i then some (⟨g,o,none⟩:Addr) else some ⟨g,o+i * 2,none⟩)=A2;have hs2:=SlF.copied (w:=w1) (w':=w2) (L:=L++[x]) zag (by have:=H1.out;rwa [HL.out]) i (i+1) (L.length - i) (by simp;omega) (by simp;omega) cur hcur (by rw [hlen2] at hw2;exact hw2);have hx2:w2.heap[w.heap.size]? = some (.cells #[.string x.1,.int .i64 x.2] 122 (0,0)):=(hgr2.block w.heap.size (zac hx1) (fun e=>hgne (by cases e;rfl))).trans hx1;have b0:w2.cell? ⟨w.heap.size,0,none⟩=some (.string x.1):=by simp [World.cell?,hx2]
 have b1:w2.cell? ⟨w.heap.size,1,none⟩=some (.int .i64 x.2):=by simp [World.cell?,hx2]
 have HE:=H_ (zng L x i hi);generalize hL2:((L++[x]).take (i+1)++((L++[x]).drop i).take (L.length - i)++(L++[x]).drop (i+1+(L.length - i)))=L2 at hs2 HE;have hL2l:L2.length=L.length+1:=by rw [<-hL2];simp;omega
 obtain ⟨y,hy⟩:∃ y,L2[i]? = some y:=⟨_,List.getElem?_eq_getElem (by omega)⟩;have hs2':SlF w2 122 2 pairC (.slice (some ⟨g,o,none⟩) L2.length cap) L2:=by rw [hL2l];rwa [HL.out] at hs2
 have d0:=hs2'.cell0 zag i hy rfl;have d1:=hs2'.cell zag i 1 hy rfl;have f0:=hs2'.free (o+i * 2);have f1:=hs2'.free (o+i * 2+1);have H2:=H_ hs2';have HY:=H_ hy;have HL2:=H_ hL2l;have HG2:=H_ hgr2;have hi6:(i:Int) < (L.length:Int)+1:=by omega
 have hi7:i < L.length+1:=by omega
 clear hs2 hs2' hy hL2 hL2l hgr2 hw2 hx2 hlen2 hmin;go_wp2;go_ret;refine ⟨g,o,cap,rfl,?_,?_,hgnew⟩
 · have e1:=SlF.set zag H2.out i 0 (by omega) y (x.1,y.2) (.string x.1) HY.out rfl
   have hyl:(L2.set i (x.1,y.2)).length=L2.length:=(by simp);have e2:=SlF.set (L:=L2.set i (x.1,y.2)) zag (by rw [hyl];exact e1) i 1 (by omega) (x.1,y.2) x (.int .i64 x.2) (by rw [List.getElem?_set_self (by rw [HL2.out];omega)]) rfl;rw [List.set_set,hyl,HE.out,HL2.out] at e2;exact e2
 have hF2:Fr (fun b=>v.ownBlock=some b) w w2:=hF1.drew.grown HG2.out fun k hk=>by cases hk;exact hgnew
 exact ((hF2.setCell (p:=⟨g,o+i * 2,none⟩) hgnew _).setCell (p:=⟨g,o+i * 2+1,none⟩) hgnew _)
theorem zsb (w:World) (t:Nat) (frm tO:ByteArray) :
 Calls Tryz.prog 60 #[.pointer (some ⟨t,0,none⟩),.string frm,.string tO,.int .i64 0] w fun e w'=>e = .returned (.slice none 0 0)/\Fr No w w':=by
 go_enter Tryz.func60,Tryz.ntmps60;go_wp2;go_ret;exact ⟨rfl,(((Fr.refl No w).alloc _).alloc _).alloc _⟩
abbrev zaq:=World->Nat->Pairs->(Nat->Prop)->Prop
structure TreeOk (TA:zaq) (N:Nat):Prop where
 lt:∀ {w t T F},TA w t T F->∀ b,F b->b < w.heap.size
 fr:∀ {w w' t T F S},TA w t T F->Fr S w w'->(∀ b,F b->¬ S b)->TA w' t T F
 root:∀ {w t T F},TA w t T F->F t
 sorted:∀ {w t T F},TA w t T F->Sorted T
 new:∀ w:World,Calls Tryz.prog 51 #[] w fun e w'=>∃ t,e = .returned (.pointer (some ⟨t,0,none⟩))/\∃ F,TA w' t [] F/\Fr No w w'/\(∀ b,F b->w.heap.size<=b)
 len:∀ {w t T F},TA w t T F->Calls Tryz.prog 61 #[.pointer (some ⟨t,0,none⟩)] w fun e w'=>e = .returned (.int .i64 T.length)/\w=w'
 get:∀ {w t T F} (key:ByteArray),TA w t T F->Calls Tryz.prog 121 #[.pointer (some ⟨t,0,none⟩),.string key] w fun e w'=>e = .returned (zcr (getT T key))/\Fr No w w'
 set:∀ {w t T F} (key:ByteArray) (m:Int),TA w t T F->T.length < N →
  Calls Tryz.prog 116 #[.pointer (some ⟨t,0,none⟩),.string key,.int .i64 m] w fun e w'=>(∃ v,e = .returned v)/\∃ F',TA w' t (insT T key m) F'/\Fr F w w'/\(∀ b,F' b->F b\/w.heap.size<=b)
 range:∀ {w t T F} (frm tO:ByteArray),TA w t T F →
  Calls Tryz.prog 60 #[.pointer (some ⟨t,0,none⟩),.string frm,.string tO,.int .i64 T.length] w fun e w'=>∃ v,e = .returned v/\SlF w' 122 2 pairC v (rangeT T frm tO)/\Fr No w w'/\(∀ b,v.ownBlock=some b->w.heap.size<=b)
open Go Go.RowKit Go.WideElems Go.ChangeMaps
def MapAt (w:World) (b:Nat) (f:Int->Option Value):Prop :=
 ∃ es clock,w.heap[b]? = some (.map es clock)/\MapKept.Stamped es clock/\(∀ e∈es.toList,∃ n,e.key = .int .i64 n/\(Lit.int .i64 n).wf=true/\f n=some e.val) ∧
  ∀ n v,f n=some v->∃ e∈es.toList,e.key = .int .i64 n/\e.val=v
theorem Fr.setAt {b:Nat} {a w:World} (h:Fr (fun x=>x=b) a w) (i:Nat) (u:Value):Fr (fun x=>x=b) a (w.setCell ⟨b,i,none⟩ u):=h.setCell (p:=⟨b,i,none⟩) (.inl rfl) u
theorem MapAt.lt {w:World} {b:Nat} {f:Int->Option Value} (h:MapAt w b f):b < w.heap.size:=by
 obtain ⟨es,clock,hb,_⟩:=h;exact zac hb
theorem MapAt.keep {w w':World} {b:Nat} {f:Int->Option Value} (h:MapAt w b f) (hk:w'.heap[b]? = w.heap[b]?):MapAt w' b f:=by
 obtain ⟨es,clock,hb,h⟩:=h;exact ⟨es,clock,hk.trans hb,h⟩
theorem MapAt.fr {w w':World} {b:Nat} {f:Int->Option Value} {S:Nat->Prop} (h:MapAt w b f) (hf:Fr S w w') (hn:¬ S b):MapAt w' b f:=h.keep (hf.block b h.lt hn)
theorem MapAt.alloc {w:World} {b:Nat} {f:Int->Option Value} (h:MapAt w b f) (o:Obj):MapAt (w.alloc o) b f:=h.keep (Below.heap_alloc w o b h.lt)
theorem MapAt.made (w:World):MapAt (w.alloc (.map #[] 0)) w.heap.size fun _=>none :=
 ⟨#[],0,heap_alloc_new w _,MapKept.stamped_empty 0,by simp,by simp⟩
theorem MapAt.apart {w:World} {b:Nat} {f:Int->Option Value} (h:MapAt w b f) {cs:List Value} {c:Nat} (hc:Has w c cs):b≠c:=by
 rintro rfl;obtain ⟨es,clock,hb,_⟩:=h;obtain ⟨e,hc⟩:=hc;rw [hb] at hc;cases hc
section
variable {P:Program} {w:World} {b:Nat} {f:Int->Option Value} {t k e:TypeId}
theorem zom (hk:P.underlying k=some (.int .i64)) {es:List MapEntry} (h:∀ e∈es,∃ n,e.key = .int .i64 n/\(Lit.int .i64 n).wf=true/\f n=some e.val):∀ e∈es,∃ l,keyOf P k e.key=some l:=by
 intro e he;obtain ⟨n,h1,h2,_⟩:=h e he;exact ⟨_,by rw [h1];exact Maps.keyOf_int_mk hk h2⟩
theorem MapAt.look (h:MapAt w b f) (ht:P.underlying t=some (.map k e)) (hk:P.underlying k=some (.int .i64)) {n:Int} (hn:(Lit.int .i64 n).wf=true) {z:Value} (hz:(zeroValue e).run P w = .ok z w) :
 (Instr.lookup t (.map (some b)) (.int .i64 n) false).run P w = .ok ((f n).getD z) w:=by
 obtain ⟨es,clock,hb,hst,h1,h2⟩:=h;have K:=Maps.int_keyed hk;have hkey:=Maps.keyOf_int_mk hk hn;rcases K.find w hkey es.toList (zom hk h1) with ⟨g1,g2⟩ | ⟨j,e0,g1,g2,g3⟩
 · have:f n=none:=by
    cases hf:f n with
    | none=>rfl
    | some v =>
      obtain ⟨e1,he1,hek,_⟩:=h2 n v hf;exact absurd hek (g2 e1 he1)
   simp [Instr.lookup,run_underlying ht,MapKept.run_getObj_map hb,K.check w _ hkey,g1,hz,Result.andThen,this]
 obtain ⟨m,hm,_,hfm⟩:=h1 e0 (List.mem_of_getElem? g2)
 rw [g3] at hm;cases hm;simp [Instr.lookup,run_underlying ht,MapKept.run_getObj_map hb,K.check w _ hkey,g1,Result.andThen,hfm]
theorem MapAt.store (h:MapAt w b f) (ht:P.underlying t=some (.map k e)) (hk:P.underlying k=some (.int .i64)) {n:Int} (hn:(Lit.int .i64 n).wf=true) (v:Value) :
 ∃ w',(Instr.mapUpdate t (.map (some b)) (.int .i64 n) v).run P w = .ok () w'/\MapAt w' b (fun m=>if m=n then some v else f m)/\Fr (fun x=>x=b) w w'/\w'.heap.size=w.heap.size:=by
 obtain ⟨es,clock,hb,hst,h1,h2⟩:=h;have K:=Maps.int_keyed hk;have hkey:=Maps.keyOf_int_mk hk hn;have hfr:∀ o,Fr (fun x=>x=b) w (setBlock w b o):=fun o=>⟨rfl,rfl,rfl,by simp [setBlock],fun i _ hi=>heap_setBlock_other hb _ hi⟩;rcases K.find w hkey es.toList (zom hk h1) with ⟨g1,g2⟩ | ⟨j,e0,g1,g2,g3⟩
 · refine ⟨setBlock w b (.map (es.push ⟨.int .i64 n,v,clock⟩) (clock+1)),?_,⟨_,_,heap_setBlock_same hb _,MapKept.stamped_push hst g2,?_,?_⟩,hfr _,by simp [setBlock]⟩
   · simp [Instr.mapUpdate,run_underlying ht,MapKept.run_getObj_map hb,K.check w false hkey,g1,MapKept.run_setObj_map _ hb,Result.andThen,setBlock]
   · intro x hx
     simp only [Array.toList_push,List.mem_append,List.mem_singleton] at hx;rcases hx with hx | rfl
     · obtain ⟨m,e1,e2,e3⟩:=h1 x hx
       refine ⟨m,e1,e2,?_⟩;dsimp only;rw [if_neg (fun e=>g2 x hx (by rw [e1,e]))];exact e3
     exact ⟨n,rfl,hn,by simp⟩
   intro m u hu
   simp only [Array.toList_push,List.mem_append,List.mem_singleton];by_cases hmn:m=n
   · subst hmn
     simp at hu;subst hu;exact ⟨_,.inr rfl,rfl,rfl⟩
   dsimp only at hu
   rw [if_neg hmn] at hu;obtain ⟨x,hx,hx'⟩:=h2 m u hu;exact ⟨x,.inl hx,hx'⟩
 have hj:es[j]? = some e0:=by simpa using g2
 have hjl:j < es.size:=(Array.getElem?_eq_some_iff.1 hj).1;have hkeyf:∀ e',es[j]? = some e'->({ e' with key:=.int .i64 n,val:=v }:MapEntry).key=e'.key:=fun e' he'=>by rw [hj] at he';cases he';exact g3.symm
 have hnd:es.toList.Pairwise (fun x y=>x.key≠y.key):=((MapKept.stamped_iff _ _).1 hst).2.2
 have hother:∀ i x,es[i]? = some x->i≠j->x.key ≠ .int .i64 n:=by
  intro i x hx hij e1;have hil:=(Array.getElem?_eq_some_iff.1 hx).1;rw [List.pairwise_iff_getElem] at hnd;have ex:es[i] = x:=(Array.getElem?_eq_some_iff.1 hx).2;have e0':es[j] = e0:=(Array.getElem?_eq_some_iff.1 hj).2;rcases Nat.lt_or_gt_of_ne hij with h | h
  · exact hnd i j (by simpa using hil) (by simpa using hjl) h (by simp [ex,e0',e1,g3])
  exact hnd j i (by simpa using hjl) (by simpa using hil) h (by simp [ex,e0',e1,g3])
 refine ⟨setBlock w b (.map (es.modify j (fun e'=>{ e' with key:=.int .i64 n,val:=v })) clock),?_,
  ⟨_,_,heap_setBlock_same hb _,MapKept.stamped_modify hst _ _ (fun _ _=>rfl) (fun e' _ he'=>hkeyf e' he'),?_,?_⟩,hfr _,by simp [setBlock]⟩
 · simp [Instr.mapUpdate,run_underlying ht,MapKept.run_getObj_map hb,K.check w false hkey,g1,hj,g3,K.stays w hkey,MapKept.run_setObj_map _ hb,Result.andThen,setBlock]
 · intro x hx
   obtain ⟨i,hi⟩:=List.getElem?_of_mem hx;have hi':(es.modify j (fun e'=>{ e' with key:=.int .i64 n,val:=v }))[i]? = some x:=(by rw [Array.getElem?_toList] at hi;exact hi);rw [Array.getElem?_modify] at hi';by_cases hji:j=i
   · rw [if_pos hji] at hi'
     obtain ⟨y,hy,rfl⟩:=Option.map_eq_some_iff.1 hi';exact ⟨n,rfl,hn,by simp⟩
   rw [if_neg hji] at hi'
   obtain ⟨m,e1,e2,e3⟩:=h1 x (List.mem_of_getElem? (by simpa using hi'));refine ⟨m,e1,e2,?_⟩;dsimp only;rw [if_neg (fun e=>hother i x hi' (fun e'=>hji e'.symm) (by rw [e1,e]))];exact e3
 intro m u hu
 by_cases hmn:m=n
 · subst hmn
   simp at hu;subst hu;refine ⟨{ e0 with key:=.int .i64 m,val:=v },?_,rfl,rfl⟩;refine List.mem_of_getElem? (i:=j) ?_;have:(es.modify j (fun e'=>{ e' with key:=.int .i64 m,val:=v }))[j]? = some { e0 with key:=.int .i64 m,val:=v }:=(by rw [Array.getElem?_modify,if_pos rfl,hj];rfl);rw [Array.getElem?_toList];exact this
 dsimp only at hu
 rw [if_neg hmn] at hu;obtain ⟨x,hx,hx1,hx2⟩:=h2 m u hu;obtain ⟨i,hi⟩:=List.getElem?_of_mem hx;have hi':es[i]? = some x:=(by simpa using hi)
 have hij:j≠i:=by
  rintro rfl;rw [hj] at hi';cases hi';rw [g3] at hx1;cases hx1;exact hmn rfl
 refine ⟨x,List.mem_of_getElem? (i:=i) ?_,hx1,hx2⟩;have:(es.modify j (fun e'=>{ e' with key:=.int .i64 n,val:=v }))[i]? = some x:=(by rw [Array.getElem?_modify,if_neg hij];exact hi');rw [Array.getElem?_toList];exact this
theorem MapAt.drop (h:MapAt w b f) (ht:P.underlying t=some (.map k e)) (hk:P.underlying k=some (.int .i64)) {n:Int} (hn:(Lit.int .i64 n).wf=true) (ty:TypeId) :
 ∃ w',(Builtin.delete_ #[t,k] ty #[.map (some b),.int .i64 n]).run P w = .ok (.tuple #[]) w'/\MapAt w' b (fun m=>if m=n then none else f m)/\Fr (fun x=>x=b) w w'/\w'.heap.size=w.heap.size:=by
 obtain ⟨es,clock,hb,hst,h1,h2⟩:=h;have K:=Maps.int_keyed hk;have hkey:=Maps.keyOf_int_mk hk hn;have hfr:∀ o,Fr (fun x=>x=b) w (setBlock w b o):=fun o=>⟨rfl,rfl,rfl,by simp [setBlock],fun i _ hi=>heap_setBlock_other hb _ hi⟩;rcases K.find w hkey es.toList (zom hk h1) with ⟨g1,g2⟩ | ⟨j,e0,g1,g2,g3⟩
 · refine ⟨setBlock w b (.map es clock),?_,⟨_,_,heap_setBlock_same hb _,hst,?_,?_⟩,hfr _,by simp [setBlock]⟩
   · simp [Builtin.delete_,run_underlying ht,MapKept.run_getObj_map hb,K.check w _ hkey,g1,MapKept.run_setObj_map _ hb,Result.andThen,setBlock]
   · intro x hx
     obtain ⟨m,e1,e2,e3⟩:=h1 x hx;refine ⟨m,e1,e2,?_⟩;dsimp only;rw [if_neg (fun e=>g2 x hx (by rw [e1,e]))];exact e3
   intro m u hu
   dsimp only at hu
   split at hu
   · cases hu
   exact h2 m u hu
 have hj:es[j]? = some e0:=by simpa using g2
 have hjl:j < es.size:=(Array.getElem?_eq_some_iff.1 hj).1
 have hsub:(es.eraseIdxIfInBounds j).toList=es.toList.eraseIdx j:=by
  unfold Array.eraseIdxIfInBounds;rw [dif_pos hjl];simp
 have hnd:es.toList.Pairwise (fun x y=>x.key≠y.key):=((MapKept.stamped_iff _ _).1 hst).2.2;refine ⟨setBlock w b (.map (es.eraseIdxIfInBounds j) clock),?_,⟨_,_,heap_setBlock_same hb _,MapKept.stamped_erase hst j,?_,?_⟩,hfr _,by simp [setBlock]⟩
 · simp [Builtin.delete_,run_underlying ht,MapKept.run_getObj_map hb,K.check w _ hkey,g1,MapKept.run_setObj_map _ hb,Result.andThen,setBlock]
 · intro x hx
   rw [hsub] at hx;obtain ⟨m,e1,e2,e3⟩:=h1 x ((List.eraseIdx_sublist _ _).subset hx);refine ⟨m,e1,e2,?_⟩;dsimp only;rw [if_neg ?_];exact e3;rintro rfl;obtain ⟨i,hi⟩:=List.mem_iff_getElem?.1 hx;rw [List.pairwise_iff_getElem] at hnd;rw [List.getElem?_eraseIdx] at hi;have e0':es[j] = e0:=(Array.getElem?_eq_some_iff.1 hj).2
   split at hi
   · rename_i hlt
     obtain ⟨hil,hx'⟩:=List.getElem?_eq_some_iff.1 hi;exact hnd i j hil (by simpa using hjl) hlt (by rw [hx',e1];simp [e0',g3])
   rename_i hge
   obtain ⟨hil,hx'⟩:=List.getElem?_eq_some_iff.1 hi;exact hnd j (i+1) (by simpa using hjl) hil (by omega) (by rw [hx',e1];simp [e0',g3])
 intro m u hu
 dsimp only at hu
 split at hu
 · cases hu
 rename_i hmn
 obtain ⟨x,hx,hx1,hx2⟩:=h2 m u hu;refine ⟨x,?_,hx1,hx2⟩;rw [hsub];obtain ⟨i,hi⟩:=List.mem_iff_getElem?.1 hx;refine List.mem_iff_getElem?.2 ?_
 have hij:i≠j:=by
  rintro rfl;have:es.toList[i]? = some e0:=g2;rw [hi] at this;cases this;rw [g3] at hx1;cases hx1;exact hmn rfl
 by_cases hlt:i < j
 · exact ⟨i,by rw [List.getElem?_eraseIdx,if_pos hlt];exact hi⟩
 exact ⟨i - 1,by rw [List.getElem?_eraseIdx,if_neg (by omega),show i - 1+1=i from by omega];exact hi⟩
def mapUpW (P:Program) (t:TypeId) (b:Nat) (n:Int) (v:Value) (w:World):World:=match (Instr.mapUpdate t (.map (some b)) (.int .i64 n) v).run P w with
 | .ok _ w'=>w'
 | .halt _ w'=>w'
theorem MapAt.up (h:MapAt w b f) (ht:P.underlying t=some (.map k e)) (hk:P.underlying k=some (.int .i64)) {n:Int} (hn:(Lit.int .i64 n).wf=true) (v:Value) :
 (Instr.mapUpdate t (.map (some b)) (.int .i64 n) v).run P w = .ok () (mapUpW P t b n v w)/\MapAt (mapUpW P t b n v w) b (fun m=>if m=n then some v else f m)/\Fr (fun x=>x=b) w (mapUpW P t b n v w)/\(mapUpW P t b n v w).heap.size=w.heap.size:=by
 obtain ⟨w',hrun,h1,h2,h3⟩:=h.store ht hk hn v;have e1:mapUpW P t b n v w=w':=by unfold mapUpW;rw [hrun]
 rw [e1];exact ⟨hrun,h1,h2,h3⟩
end
theorem zga {P:Program} {w:World} {ops:Array Oper} {rest:List Oper} {o:Oper} {a:Act} {Q:Exit->Act->World->Prop} (hg:o.guard=none) (m x:Operand) (t:TypeId) (hop:o.op=Op.lookup t m x false)
 (k e:TypeId) (ht:P.underlying t=some (.map k e)) (hk:P.underlying k=some (.int .i64)) (b:Nat) (f:Int->Option Value) (hm:a.eval m = .map (some b)) (h:MapAt w b f) (n:Int) (hx:a.eval x = .int .i64 n)
 (hn:(Lit.int .i64 n).wf=true) (z:Value) (hz:(zeroValue e).run P w = .ok z w) (v:Value) (hv:(f n).getD z=v) (hK:wpList P ops Q rest (a.put o.dst v) w):wpList P ops Q (o :: rest) a w:=by
 refine wpList_plain hg fun K' hK'=>?_;have hrun:=h.look ht hk hn hz;rw [hv] at hrun;unfold Oper.wp;simp [execOp,hop,hm,hx,hrun,Result.andThen];exact hK' _ _ hK
theorem zlw {P:Program} {w:World} {ops:Array Oper} {rest:List Oper} {o:Oper} {a:Act} {Q:Exit->Act->World->Prop} (hg:o.guard=none) (m x v:Operand) (t:TypeId) (hop:o.op=Op.mapUpdate t m x v)
 (k e:TypeId) (ht:P.underlying t=some (.map k e)) (hk:P.underlying k=some (.int .i64)) (b:Nat) (f:Int->Option Value) (hm:a.eval m = .map (some b)) (h:MapAt w b f) (n:Int) (hx:a.eval x = .int .i64 n)
 (hn:(Lit.int .i64 n).wf=true) (u:Value) (hv:a.eval v=u)
 (hK:∀ w',MapAt w' b (fun m=>if m=n then some u else f m)->Fr (fun x=>x=b) w w'->w'.heap.size=w.heap.size->wpList P ops Q rest (a.put o.dst undef) w'):wpList P ops Q (o :: rest) a w:=by
 refine wpList_plain hg fun K' hK'=>?_;obtain ⟨w',hrun,r1,r2,r3⟩:=h.store ht hk hn u;unfold Oper.wp;simp [execOp,hop,hm,hx,hv,hrun,Result.andThen];exact hK' _ _ (hK w' r1 r2 r3)
end Go.Proofs.YthljnnjpmdgkoaaGreat