/- Own lemmas and contracts that the claim's proof needs, laid together. The conditions stand in each. -/
import Derived.Test.YthljnnjpmdgkoaaN12
import Derived.Test.YthljnnjpmdgkoaaN09
import Derived.RangeFuncNested
import Derived.RangeFuncBound
import Derived.RangeFuncCalls
import Derived.RangeFuncLeaves
import Derived.RangeFuncBox
import Derived.RangeFuncWrites
import Derived.Shelf.Abstract
import Derived.OwnWalkIn
import Derived.TacticsInMore
import Derived.LoopNIn
import Derived.LoopIn
namespace Go.Proofs.Ythljnnjpmdgkoaa
open Go Go.Proofs Go.RowKit
set_option maxRecDepth 100000
def upTo (l:List Int) (rev:Int):Nat:=l.findIdx fun p=>decide (rev < p)
def idxInt (l:List Int) (rev:Int):Int:=if upTo l rev=l.length then -1 else (upTo l rev:Int)
theorem ziq (w:World) (v:Value) (l:List Int) (rev:Int) (tb:Nat) (hv:SlF w 3 1 int1 v l) (hl:l.length<=1099511627776) (ht:w.cell? ⟨tb,0,none⟩=some (.int .i64 rev)) :
 Calls Try.prog 134 #[v,.func (.func 135) #[] #[.pointer (some ⟨tb,0,none⟩)]] w fun e w'=>e = .returned (.int .i64 (idxInt l rev))/\w=w':=by
 obtain ⟨a,cap,rfl,hc1,hc2,ha⟩:=hv.shape;have HV:=H_ hv;clear hv;have HA:=H_ ha;clear ha;go_enter Try.func134,Try.ntmps134;go_wp2
 go_loopg [8] l.length (fun g s8 wr=>∃ i:Nat,s8 = .int .i64 i/\i+g=l.length/\Hid (∀ j,j < i->¬ rev < l[j]?.getD 0)/\w=wr)
 case atStart=>exact ⟨0,rfl,by simp,H_ (by simp),rfl⟩
 case round =>
  obtain ⟨i,rfl,hi,HJ,rfl⟩:=hrel
  cases gk with
  | zero =>
    have hil:¬ (i:Int) < (l.length:Int):=(by omega);go_wp2;go_ret;refine ⟨?_,rfl⟩
    have hu:upTo l rev=l.length:=by
     unfold upTo;rw [List.findIdx_eq_length];intro x hx;obtain ⟨j,hj,rfl⟩:=List.getElem_of_mem hx;have:=HJ.out j (by omega);simpa [hj] using this
    unfold idxInt;rw [if_pos hu]
    rfl
  | succ g =>
    obtain ⟨gb,go,rfl⟩:=HA.out (by omega);have hx:l[i]? = some (l[i]'(by omega)):=List.getElem?_eq_getElem (by omega);have hcx:=HV.out.cell1 zht i hx rfl;have hil:(i:Int) < (l.length:Int):=(by omega);by_cases hp:rev < l[i]'(by omega)
    · have hpd:decide (rev < l[i]'(by omega))=true:=by simpa using hp
      have Hx:=H_ hx;have Hp:=H_ hp;clear hx hp;go_wp2;go_ret;refine ⟨?_,rfl⟩
      have hu:upTo l rev=i:=by
       unfold upTo;rw [List.findIdx_eq (by omega)];refine ⟨by simpa using Hp.out,fun j hj=>?_⟩;have:=HJ.out j hj;have hjl:j < l.length:=(by omega);simpa [hjl] using this
      unfold idxInt;rw [if_neg (by omega),hu]
      rfl
    have hpd:decide (rev < l[i]'(by omega))=false:=by simpa using hp
    have Hx:=H_ hx;have Hp:=H_ hp;clear hx hp;go_wp2;go_roundg g
    case rel =>
     refine ⟨i+1,by go_num,by omega,H_ fun j hj=>?_,rfl⟩;by_cases hji:j=i
     · subst hji
       rw [Hx.out];exact Hp.out
     exact HJ.out j (by omega)
    case measure=>omega
theorem zdp (l:List Int) (rev:Int):upTo l rev<=l.length:=List.findIdx_le_length
theorem zof (w:World) (x:Gen) (pv:Value) (rev:Int) (hv:SlF w 3 1 int1 pv x.puts) (hl:x.puts.length<=1099511627776) :
 Calls Try.prog 118 #[.agg #[.int .i64 x.create,.int .i64 x.cut,pv,.int .i64 x.end_],.int .i64 rev] w fun e w'=>e = .returned (.int .i64 (upTo x.puts rev))/\Fr No w w':=by
 have hmf:∀ (fn:Fn) (first cap:Array Value) (w:World),(Instr.makeFunc fn first cap).run Try.prog w = .ok (.func fn first cap) w:=fun _ _ _ _=>rfl;obtain ⟨a,cap,rfl,hc1,hc2,ha⟩:=hv.shape;have hidx:=fun W hw ht=>ziq W (.slice a x.puts.length cap) x.puts rev (w.heap.size+1) hw hl ht;have hle:=zdp x.puts rev;have HV:=H_ hv;clear hv ha;by_cases hu:upTo x.puts rev=x.puts.length
 · have hi:idxInt x.puts rev = -1:=by unfold idxInt;rw [if_pos hu]
   rw [hi] at hidx;have HU:=H_ hu;clear hu hi;go_enter Try.func118,Try.ntmps118;go_wp2_with (go_at_call 134;refine (hidx _ (by exact (HV.out.alloc _).alloc _) (by simp [go_sem])).mono ?_;rintro e w2 ⟨rfl,rfl⟩);go_ret;exact ⟨by rw [HU.out];rfl,((Fr.refl _ w).alloc _).alloc _⟩
 have hi:idxInt x.puts rev=(upTo x.puts rev:Int):=by unfold idxInt;rw [if_neg hu]
 rw [hi] at hidx;generalize upTo x.puts rev=n at *;clear hi hu;go_enter Try.func118,Try.ntmps118;go_wp2_with (go_at_call 134;refine (hidx _ (by exact (HV.out.alloc _).alloc _) (by simp [go_sem])).mono ?_;rintro e w2 ⟨rfl,rfl⟩);go_ret;exact ⟨rfl,((Fr.refl _ w).alloc _).alloc _⟩
open Go Go.Proofs Go.RowKit Go.Shelf
attribute [local go_sem] Oper.semAt_some
abbrev BElt (Z:List (Gen × Value)):={ x:Nat × (Gen × Value) // Z[x.1]? = some x.2 }
def bEnc (Z:List (Gen × Value)) (x:BElt Z):Array Value:=#[.int .i64 (x.1.1:Int),.agg #[.int .i64 x.1.2.1.create,.int .i64 x.1.2.1.cut,x.1.2.2,.int .i64 x.1.2.1.end_]]
def isBack (Z:List (Gen × Value)) (k:Nat) (pre:List (BElt Z)):Prop:=pre.map (fun x=>x.1.1)=(List.range k).map fun j=>Z.length - 1 - j
theorem isBack.snoc {Z:List (Gen × Value)} {k:Nat} {pre:List (BElt Z)} (h:isBack Z k pre) (x:BElt Z) (hx:x.1.1=Z.length - 1 - k):isBack Z (k+1) (pre++[x]):=by
 unfold isBack at *;rw [List.map_append,h,List.range_succ,List.map_append];simp [hx]
theorem isBack.length {Z:List (Gen × Value)} {k:Nat} {pre:List (BElt Z)} (h:isBack Z k pre):pre.length=k:=by
 have:=congrArg List.length h;simpa using this
theorem zsu (F:Fence) (n:Nat) (h7:F.fn 147) (hro:F.round=none) (hn:1<=n) (l Bs n₀:Nat) (gv:Value) (Z:List (Gen × Value)) (hZ:Z.length<=1099511627776)
 (J Jx:List (BElt Z)->World->Prop)
 (hY:∀ pre x W,J pre W->pre.length < Z.length->YieldAt F (n - 1) Try.prog l (bEnc Z x) W fun e W' =>
   (e = .returned (.bool true)/\J (pre++[x]) W'/\Below n₀ W W')\/(e = .returned (.bool false)/\Jx (pre++[x]) W'))
 (W:World) (hBs:W.cell? ⟨Bs,0,none⟩=some gv) (hBn:Bs < n₀) (hg:SlF W 190 4 genC gv Z) (hgn:∀ b,gv.ownBlock=some b->b < n₀) (h0:J [] W) :
 CallsIn F n Try.prog 147 #[.func (.yield l) #[] #[],.pointer (some ⟨Bs,0,none⟩)] W fun e W'=>(∃ v,e = .returned v) ∧
  ((∃ ys,isBack Z Z.length ys/\J ys W')\/(∃ pre,(∃ k,k<=Z.length/\isBack Z k pre)/\Jx pre W')):=by
 obtain ⟨a,cap,rfl,hc1,hc2,ha⟩:=hg.shape;have HG:=H_ hg;clear hg;have HA:=H_ ha;clear ha;have HN:=H_ hgn;clear hgn;refine callsIn_of_wp Try.func147 rfl h7 ?_ hro;simp only [Try.ntmps147,List.size_toArray,List.length_cons,List.length_nil,Nat.reduceAdd,Nat.reduceSub,Array.replicate_succ,Array.replicate_zero,List.push_toArray,List.append_toArray,List.nil_append,List.cons_append]
 gi_wp2
 gi_loopw [3] (fun i wr=>∃ (m:Nat) (pre:List (BElt Z)),i = .int .i64 ((m:Int) - 1)/\m<=Z.length/\isBack Z (Z.length - m) pre/\J pre wr/\Below n₀ W wr)
  (fun i _=>(intOf i+1).toNat)
 case atStart=>exact ⟨Z.length,[],rfl,Nat.le_refl _,by simp [isBack],h0,Below.refl _ _⟩
 case round =>
  obtain ⟨m,pre,hi,hm,hb,hJs,hnx⟩:=hrel;have hBx:=(hnx.cell (p:=⟨Bs,0,none⟩) hBn).trans hBs
  cases m with
  | zero =>
    subst hi
    gi_wp2
    go_end0
    exact ⟨⟨_,rfl⟩,.inl ⟨pre,hb,hJs⟩⟩
  | succ m =>
    obtain ⟨gb,go,rfl⟩:=HA.out (by omega);have hi':u3 = .int .i64 (m:Int):=(by rw [hi];congr 1;omega);clear hi;subst hi';obtain ⟨x0,hx0⟩:∃ x0:BElt Z,x0.1.1=m:=⟨⟨(m,Z[m]'(by omega)),List.getElem?_eq_getElem (by omega)⟩,rfl⟩;have hx:Z[m]? = some x0.1.2:=hx0 ▸ x0.2;obtain ⟨fn,tmps,assign,body,hy,hR⟩:=hY pre x0 wr hJs (by rw [hb.length];omega);have hgr:SlF wr 190 4 genC (.slice (some ⟨gb,go,none⟩) Z.length cap) Z:=Sl.keep HG.out fun k hk=>hnx.block k (HN.out k hk);have c0:=hgr.cell0 zax m hx rfl;have c1:=hgr.cell zax m 1 hx rfl;have c2:=hgr.cell zax m 2 hx rfl;have c3:=hgr.cell zax m 3 hx rfl;dsimp only [bEnc] at hy;rw [hx0] at hy;have HB:=H_ hb;clear hb;have HX:=H_ hx0;clear hx hx0;clear hgr;have hmz:(m:Int) < (Z.length:Int):=(by omega)
    gi_wp2
    refine hR.mono ?_;rintro e W3 (⟨rfl,hJ3,hk3⟩ | ⟨rfl,hJx3⟩)
    · gi_wp2
      go_roundw
      case rel=>exact ⟨m,_,rfl,by omega,by have:=HB.out.snoc x0 (by rw [HX.out];omega);rwa [show Z.length - (m+1)+1=Z.length - m from by omega] at this,hJ3,hnx.trans hk3⟩
      case measure=>simp [intOf]
    gi_wp2
    refine bodyPost_ret (results_none rfl _ _ _) rfl ?_;exact ⟨⟨_,rfl⟩,.inr ⟨_,⟨Z.length - (m+1)+1,by omega,HB.out.snoc x0 (by rw [HX.out];omega)⟩,hJx3⟩⟩
theorem zpd (F:Fence) (n:Nat) (h7:F.fn 147) (hro:F.round=none) (hn:1<=n) (Bs n₀:Nat) (gv:Value) (Z:List (Gen × Value)) (hZ:Z.length<=1099511627776) (w:World) (hBs:w.cell? ⟨Bs,0,none⟩=some gv) (hBn:Bs < n₀) (hn₀:n₀<=w.heap.size)
 (hg:SlF w 190 4 genC gv Z) (hgn:∀ b,gv.ownBlock=some b->b < n₀) :
 SeqStopsK F n Try.prog 147 #[.pointer (some ⟨Bs,0,none⟩)] (bEnc Z) (Below n₀) (fun ys=>isBack Z Z.length ys) (fun pre=>∃ k,k<=Z.length/\isBack Z k pre) Z.length w:=fun l J Jx W hW _ _ hY h0 =>
 zsu F n h7 hro hn l Bs n₀ gv Z hZ J Jx hY W ((hW.cell (p:=⟨Bs,0,none⟩) (by show Bs < _;omega)).trans hBs) hBn (Sl.keep hg fun k hk=>hW.block k (by have:=hgn k hk;omega)) hgn h0
theorem ziu (a:Option Addr) (len cap:Nat) (w:World) :
 Calls Try.prog 129 #[.slice a len cap] w fun e w'=>e = .returned (.func (.func 147) #[] #[.pointer (some ⟨w.heap.size,0,none⟩)])/\w.alloc (.cells #[.slice a len cap] 187)=w':=by
 have hmf:∀ (fn:Fn) (first cap:Array Value) (w:World),(Instr.makeFunc fn first cap).run Try.prog w = .ok (.func fn first cap) w:=fun _ _ _ _=>rfl;go_enter Try.func129,Try.ntmps129;go_wp2;go_ret;exact ⟨rfl,rfl⟩
def atK (K:List Gen) (rev:Int):(Int × Int × Int) × Bool :=
 match K.reverse.find? fun x=>upTo x.puts rev != 0 with
 | none=>((0,0,0),false)
 | some x=>if 0 < x.end_/\x.end_<=rev then ((0,0,0),false) else ((x.create,x.puts[upTo x.puts rev - 1]?.getD 0,x.cut+upTo x.puts rev),true)
def seenV (s:Int × Int × Int):List Value:=[.int .i64 s.1,.int .i64 s.2.1,.int .i64 s.2.2]
theorem KeepsFrom.of_fr {B:Nat} {W W':World} (h:Fr No W W'):KeepsFrom B W W':=⟨h.size,fun _ _ _ hk _=>h.heap hk fun s=>s⟩
structure AtI (w:World) (rev:Int) (s:List Value) (b:Bool) (W:World):Prop where
 b0:W.heap[w.heap.size]? = some (.cells #[Value.int .i64 rev] 3 (0,0))
 b1:W.heap[w.heap.size+1]? = some (.cells s.toArray 182 (0,0))
 b2:W.heap[w.heap.size+1+1]? = some (.cells #[Value.bool b] 4 (0,0))
 below:Below w.heap.size w W
theorem AtI.own {w:World} {rev:Int} {s:List Value} {b:Bool} {W W':World} {row:Option Nat} (h:AtI w rev s b W) (hg:W.grownBy W' row) (hr:∀ r,row=some r->w.heap.size<=r/\∃ o:Obj,W.heap[r]? = some o/\o.isCells=false):AtI w rev s b W':=by
 have key:∀ (k:Nat) (c:Array Value) (e:TypeId),W.heap[k]? = some (.cells c e (0,0))->W'.heap[k]? = some (.cells c e (0,0)):=fun k c e hk =>
  (hg.block k (zab hk) fun e'=>by obtain ⟨_,o,ho,hc⟩:=hr k e'.symm;rw [hk] at ho;cases ho;cases hc).trans hk
 exact ⟨key _ _ _ h.b0,key _ _ _ h.b1,key _ _ _ h.b2,h.below.grown hg h.below.size fun k hk=>(hr k hk).1⟩
theorem AtI.fr {w:World} {rev:Int} {s:List Value} {b:Bool} {W W':World} (h:AtI w rev s b W) (hf:Fr No W W'):AtI w rev s b W' :=
 ⟨hf.heap h.b0 id,hf.heap h.b1 id,hf.heap h.b2 id,h.below.trans (hf.below0.mono h.below.size)⟩
def AtIx (w:World) (Z:List (Gen × Value)) (rev:Int) (c:Code) (pre:List (BElt Z)) (W:World):Prop :=
 match c with
 | .exit id=>id=0/\AtI w rev (seenV (0,0,0)) false W/\Hid (∃ pre' x,pre=pre'++[x]/\(∀ y∈pre',upTo y.1.2.1.puts rev=0)/\upTo x.1.2.1.puts rev≠0/\0 < x.1.2.1.end_/\x.1.2.1.end_<=rev)
 | .ret=>∃ pre' x,pre=pre'++[x]/\(∀ y∈pre',upTo y.1.2.1.puts rev=0)/\upTo x.1.2.1.puts rev≠0/\¬ (0 < x.1.2.1.end_/\x.1.2.1.end_<=rev) ∧
    AtI w rev (seenV (x.1.2.1.create,x.1.2.1.puts[upTo x.1.2.1.puts rev - 1]?.getD 0,x.1.2.1.cut+upTo x.1.2.1.puts rev)) true W
 | _=>False
theorem AtI.store {w:World} {rev:Int} {s0:List Value} {b0:Bool} {W:World} (h:AtI w rev s0 b0 W) (h3:s0.length=3) (x y z:Int) (b:Bool) :
 AtI w rev (seenV (x,y,z)) b ((((W.setCell ⟨w.heap.size+1,0,none⟩ (.int .i64 x)).setCell ⟨w.heap.size+1,1,none⟩ (.int .i64 y)).setCell ⟨w.heap.size+1,2,none⟩ (.int .i64 z)).setCell ⟨w.heap.size+1+1,0,none⟩ (.bool b)):=by
 match s0,h3 with
 | [u0,u1,u2],_ =>
   refine ⟨?_,?_,?_,?_⟩
   · rw [Below.heap_setCell _ _ _ _ (by simp;omega),Below.heap_setCell _ _ _ _ (by simp),Below.heap_setCell _ _ _ _ (by simp),Below.heap_setCell _ _ _ _ (by simp)]
     exact h.b0
   · rw [Below.heap_setCell _ _ _ _ (by simp)]
     have e1:=zaa h.b1 0 (.int .i64 x);have e2:=zaa e1 1 (.int .i64 y);have e3:=zaa e2 2 (.int .i64 z);rw [e3];simp [seenV]
   · refine (zaa (c:=#[.bool b0]) (e:=4) (fr:=(0,0)) ?_ 0 (.bool b)).trans (by simp)
     rw [Below.heap_setCell _ _ _ _ (by simp),Below.heap_setCell _ _ _ _ (by simp),Below.heap_setCell _ _ _ _ (by simp)];exact h.b2
   have hs:=fun (p:Addr) (hp:w.heap.size<=p.block) (X:World) (hX:Below w.heap.size w X) (u:Value)=>hX.setCell (p:=p) hp u
   exact hs _ (by simp;omega) _ (hs _ (by simp) _ (hs _ (by simp) _ (hs _ (by simp) _ h.below _) _) _) _
theorem zlr {w W:World} {D:Nat} {o:Obj} (hK:W.heap[D]? = some o) (hD:w.heap.size+1+1 < D) (x y z u:Value) :
 ((((W.setCell ⟨w.heap.size+1,0,none⟩ x).setCell ⟨w.heap.size+1,1,none⟩ y).setCell ⟨w.heap.size+1,2,none⟩ z).setCell ⟨w.heap.size+1+1,0,none⟩ u).heap[D]? = some o:=by
 rw [Below.heap_setCell _ _ _ _ (by simp;omega),Below.heap_setCell _ _ _ _ (by simp;omega),Below.heap_setCell _ _ _ _ (by simp;omega),Below.heap_setCell _ _ _ _ (by simp;omega)];exact hK
theorem isBack.take {Z:List (Gen × Value)} {k:Nat} {pre:List (BElt Z)} (h:isBack Z k pre) (hk:k<=Z.length):pre.map (fun x=>x.1.2)=Z.reverse.take k:=by
 have hl:=h.length;apply List.ext_getElem?;intro j;by_cases hj:j < k
 · have hp:pre[j]? = some (pre[j]'(by omega)):=List.getElem?_eq_getElem (by omega)
   have hi:(pre[j]'(by omega)).1.1=Z.length - 1 - j:=by
    have:=congrArg (fun l:List Nat=>l[j]?) h;simp only [List.getElem?_map,hp,List.getElem?_range hj,Option.map_some,Option.some.injEq] at this;exact this
   rw [List.getElem?_map,hp,List.getElem?_take,if_pos hj,List.getElem?_reverse (by omega),<-hi,(pre[j]'(by omega)).2]
   rfl
 rw [List.getElem?_eq_none (by simp;omega),List.getElem?_eq_none (by simp;omega)]
theorem zsw {Z:List (Gen × Value)} {rev:Int} {pre:List (BElt Z)} (h:isBack Z Z.length pre) (h0:∀ x∈pre,upTo x.1.2.1.puts rev=0):atK (Z.map (·.1)) rev=((0,0,0),false):=by
 have ht:=h.take (Nat.le_refl _);rw [List.take_of_length_le (by simp)] at ht
 have hf:((Z.map (·.1)).reverse.find? fun x=>upTo x.puts rev != 0)=none:=by
  rw [<-List.map_reverse,<-ht,List.find?_eq_none];intro x hx;simp only [List.map_map,List.mem_map] at hx;obtain ⟨y,hy,rfl⟩:=hx;simpa using h0 y hy
 unfold atK;rw [hf]
theorem zob {Z:List (Gen × Value)} {rev:Int} {pre':List (BElt Z)} {x:BElt Z} {k:Nat} (hk:k<=Z.length) (h:isBack Z k (pre'++[x])) (h0:∀ y∈pre',upTo y.1.2.1.puts rev=0) (hx:upTo x.1.2.1.puts rev≠0) :
 ((Z.map (·.1)).reverse.find? fun x=>upTo x.puts rev != 0)=some x.1.2.1:=by
 have ht:=h.take hk;have hr:Z.reverse=(pre'++[x]).map (fun x=>x.1.2)++Z.reverse.drop k:=by rw [ht,List.take_append_drop]
 rw [<-List.map_reverse,hr];rw [List.map_append,List.map_append,List.map_append,List.append_assoc,List.find?_append]
 have hn:(((pre'.map fun x=>x.1.2).map fun x=>x.1).find? fun x=>upTo x.puts rev != 0)=none:=by
  rw [List.find?_eq_none];intro y hy;simp only [List.map_map,List.mem_map] at hy;obtain ⟨y,hy,rfl⟩:=hy;simpa using h0 y hy
 rw [hn];simp [hx]
theorem zjt (n:Nat) (w W:World) (D:Nat) (rev:Int) (s:Int × Int × Int) (b:Bool) (tmps:Array Value) (ht4:tmps.getD 4 undef = .pointer (some ⟨w.heap.size+1,0,none⟩)) (ht5:tmps.getD 5 undef = .pointer (some ⟨w.heap.size+1+1,0,none⟩))
 (h:AtI w rev (seenV s) b W) (hK:W.heap[D]? = some (.deferred (some []))) (hD:w.heap.size<=D) (R:Ending->World->Prop) (hR:∀ W',Below w.heap.size w W'->R (.returned (.tuple #[.agg (seenV s).toArray,.bool b])) W') :
 bodyPostM Fence.wide n Try.prog Try.f109 R .ret ⟨tmps,[{ target:=.collected D,args:=#[] }]⟩ W:=by
 refine ⟨by simp,.inl ⟨_,_,rfl,run_takeDeferred hK,?_⟩⟩;have h':AtI w rev (seenV s) b (W.putObj D (.deferred none)):=h.own (grownBy_putObj' W D _) fun r e=>by cases e;exact ⟨hD,_,hK,rfl⟩
 generalize W.putObj D (.deferred none)=W2 at h' ⊢
 have c0:W2.cell? ⟨w.heap.size+1,0,none⟩=some (.int .i64 s.1):=by simp [World.cell?,h'.b1,seenV]
 have c1:W2.cell? ⟨w.heap.size+1,1,none⟩=some (.int .i64 s.2.1):=by simp [World.cell?,h'.b1,seenV]
 have c2:W2.cell? ⟨w.heap.size+1,2,none⟩=some (.int .i64 s.2.2):=by simp [World.cell?,h'.b1,seenV]
 have c3:W2.cell? ⟨w.heap.size+1+1,0,none⟩=some (.bool b):=by simp [World.cell?,h'.b2]
 refine ⟨.tuple #[.agg (seenV s).toArray,.bool b],?_,hR _ h'.below⟩;have ht4':tmps[4]?.getD undef = .pointer (some ⟨w.heap.size+1,0,none⟩):=by simpa using ht4
 have ht5':tmps[5]?.getD undef = .pointer (some ⟨w.heap.size+1+1,0,none⟩):=by simpa using ht5
 simp [results,Try.results109,ht4',ht5',go_sem,c0,c1,c2,c3,seenV]
set_option maxHeartbeats 1000000 in
theorem At_in (n:Nat) (hn:6<=n) (w:World) (g:Nat) (gv:Value) (Z:List (Gen × Value)) (last rev:Int) (h:KeyRep w g gv Z last) (hl:Z.length<=1099511627) (hp:∀ x∈Z,x.1.puts.length<=1099511627/\0<=x.1.cut/\x.1.cut<=1099511627776) :
 CallsIn Fence.wide n Try.prog 109 #[.pointer (some ⟨g,0,none⟩),.int .i64 rev] w fun e w' =>
  e = .returned (.tuple #[.agg (seenV (atK (Z.map (·.1)) rev).1).toArray,.bool (atK (Z.map (·.1)) rev).2])/\Below w.heap.size w w':=by
 have h1:1<=n:=by omega
 obtain ⟨a,cap,rfl,hc1,hc2,ha⟩:=h.gens.shape;have hg0:=h.obj.cell 0 rfl;have hgl:=h.obj.lt;have hgl1:g < w.heap.size+1:=by omega
 have hgl2:g < w.heap.size+1+1:=by omega
 have H:=H_ h;clear h ha;refine callsIn_of_wp_marks Try.func109 rfl trivial ?_ rfl;simp only [Try.ntmps109,List.size_toArray,List.length_cons,List.length_nil,Nat.reduceAdd,Nat.reduceSub,Array.replicate_succ,Array.replicate_zero,List.push_toArray,List.append_toArray,List.nil_append,List.cons_append]
 gi_wp2_with (refine ⟨trivial,?_⟩;gi_at_call 129;refine (callsIn_wide.2 (ziu _ _ _ _)).mono ?_;rintro e w' ⟨rfl,rfl⟩)
 obtain ⟨W0,hW0⟩:∃ W0,(((w.alloc (Obj.cells #[Value.int IntKind.i64 rev] 3)).alloc (Obj.cells #[Value.int IntKind.i64 0,Value.int IntKind.i64 0,Value.int IntKind.i64 0] 182)).alloc (Obj.cells #[Value.bool false] 4)).alloc
  (Obj.cells #[Value.slice a Z.length cap] 187)=W0:=⟨_,rfl⟩
 have hsz:W0.heap.size=w.heap.size+4:=by rw [<-hW0];simp
 have b0:W0.heap[w.heap.size]? = some (.cells #[Value.int IntKind.i64 rev] 3 (0,0)):=by
  rw [<-hW0];exact zae (zae (zae (zac _ _ _ rfl) _) _) _
 have b1:W0.heap[w.heap.size+1]? = some (.cells #[Value.int IntKind.i64 0,Value.int IntKind.i64 0,Value.int IntKind.i64 0] 182 (0,0)):=by rw [<-hW0];exact zae (zae (zac _ _ _ (by simp)) _) _
 have b2:W0.heap[w.heap.size+1+1]? = some (.cells #[Value.bool false] 4 (0,0)):=by rw [<-hW0];exact zae (zac _ _ _ (by simp)) _
 have b3:W0.heap[w.heap.size+1+1+1]? = some (.cells #[Value.slice a Z.length cap] 187 (0,0)):=by rw [<-hW0];exact zac _ _ _ (by simp)
 have hB0:Below w.heap.size w W0:=by rw [<-hW0];exact ((((Fr.refl No w).alloc _).alloc _).alloc _).alloc _ |>.below0
 simp only [hW0];clear hW0;have hsl:SlF W0 190 4 genC (.slice a Z.length cap) Z:=Sl.keep H.out.gens fun k hk=>hB0.block k (H.out.gens.lt k hk)
 refine wpIn_rangeFunc_ownH rfl h1 (gf:=147) (lb:=#[.pointer (some ⟨w.heap.size+1+1+1,0,none⟩)]) rfl trivial (enters_of Try.func147 (by kernel_rfl) rfl)
  (zpd Fence.wide (n - 1) trivial rfl (by omega) (w.heap.size+1+1+1) W0.heap.size (.slice a Z.length cap) Z (by omega) W0 (by simp [World.cell?,b3]) (by omega) (Nat.le_refl _) hsl (fun b hb=>hsl.lt b hb)) belowK_t (belowK_b (Nat.le_refl _)) (Below.refl _ _) (fun _=>rfl)
  (fun pre W=>AtI w rev (seenV (0,0,0)) false W/\W0.heap.size<=W.heap.size/\Hid (∀ x∈pre,upTo x.1.2.1.puts rev=0))
  (AtIx w Z rev)
  (fun s W W' row hs hg hr=>⟨hs.1.own hg fun r e=>⟨by have:=(hr r e).1;omega,(hr r e).2⟩,Nat.le_trans hs.2.1 hg.size,hs.2.2⟩)
  (fun c s W W' row hs hg hr=>by
    have hr':∀ r,row=some r->w.heap.size<=r/\∃ o:Obj,W.heap[r]? = some o/\o.isCells=false:=fun r e=>⟨by have:=(hr r e).1;omega,(hr r e).2⟩
    cases c with
    | exit id=>exact ⟨hs.1,hs.2.1.own hg hr',hs.2.2⟩
    | ret=>obtain ⟨pre',x,h1,h2,h3,h4,h5⟩:=hs;exact ⟨pre',x,h1,h2,h3,h4,h5.own hg hr'⟩
    | _=>exact hs.elim)
  ⟨⟨b0,b1,b2,hB0⟩,Nat.le_refl _,H_ (by simp)⟩
  (fun x a' W=>∃ Bx,W0.heap.size<=Bx/\W.heap[Bx]? = some (.cells #[.int .i64 x.1.2.1.create,.int .i64 x.1.2.1.cut,x.1.2.2,.int .i64 x.1.2.1.end_] 190 (0,0))/\a'=⟨#[.pointer (some ⟨g,0,none⟩),.int .i64 rev,undef,.pointer (some ⟨w.heap.size,0,none⟩),.pointer (some ⟨w.heap.size+1,0,none⟩),.pointer (some ⟨w.heap.size+1+1,0,none⟩),undef,.pointer (some ⟨Bx,0,none⟩),undef,.pointer (some ⟨g,0,none⟩),.bool false,undef,.pointer (some ⟨g,0,none⟩),.pointer (some ⟨g,0,none⟩),.pointer (some ⟨g,0,none⟩),.slice a Z.length cap,.func (.func 147) #[] #[.pointer (some ⟨w.heap.size+1+1+1,0,none⟩)],.int .i64 (x.1.1:Int),.agg #[.int .i64 x.1.2.1.create,.int .i64 x.1.2.1.cut,x.1.2.2,.int .i64 x.1.2.1.end_],undef,undef,undef,undef,undef,undef,undef,undef,undef,undef,undef,undef,undef,undef,undef,undef,undef,undef,undef,undef,undef,undef,undef,undef,undef,undef,undef,undef],[]⟩)
  (fun x a' s W W' row hs hg hr=>by
    obtain ⟨Bx,h1,h2,h3⟩:=hs;exact ⟨Bx,h1,(hg.block Bx (zab h2) fun e'=>by obtain ⟨_,o,ho,hc⟩:=hr Bx e'.symm;rw [h2] at ho;cases ho;cases hc).trans h2,h3⟩)
  ?assign ?body ?done ?stop
 case assign =>
  rintro l pre ⟨⟨i,y,pv⟩,hx⟩ W K ⟨hI,hW0,hpre⟩ hK;have hpv:SlF w 3 1 int1 pv y.puts:=H.out.puts i (y,pv) hx;obtain ⟨pa,pcap,rfl,_,_,_⟩:=hpv.shape;have hK':=H_ hK;clear hK hpv;dsimp only [bEnc]
  gi_wp2
  exact hK'.out _ _ ((KeepsOthers.alloc _ _).from _) ((Below.refl _ W).alloc hW0 _) ⟨hI.fr ((Fr.refl _ _).alloc _),by simp;omega,hpre⟩ ⟨W.heap.size,hW0,heap_alloc_new _ _,rfl⟩
 case body =>
  rintro l pre ⟨⟨i,y,pv⟩,hx⟩ a' W hl ⟨r,hr⟩ ⟨hI,hW0,hpre⟩ ⟨Bx,hBx,bX,rfl⟩ hlt;have hpv:SlF w 3 1 int1 pv y.puts:=H.out.puts i (y,pv) hx;have hpW:SlF W 3 1 int1 pv y.puts:=Sl.keep hpv fun k hk=>hI.below.block k (hpv.lt k hk);have hy:=hp (y,pv) (List.mem_of_getElem? hx);obtain ⟨pa,pcap,rfl,_,_,hpa⟩:=hpv.shape;obtain ⟨c0,c1,c2,c3⟩:=cells4 bX;have r0:W.cell? ⟨w.heap.size,0,none⟩=some (.int .i64 rev):=(by simp [World.cell?,hI.b0]);have hup:=zof W y (.slice pa y.puts.length pcap) rev hpW (by have:=hy.1;simp at this;omega);have HP:=H_ hpre;clear hpre;have HX:=H_ hx;have hul:=zdp y.puts rev;by_cases hu:upTo y.puts rev=0
  · have hu':((upTo y.puts rev:Int) == 0)=true:=by simp [hu]
    have HU:=H_ hu;clear hu
    gi_wp2_with (refine ⟨trivial,(fun h=>by cases h),?_⟩;gi_at_call 118;refine (CallsIn.inRound l (callsIn_wide.2 hup)).mono ?_;clear hup;rintro e w' ⟨rfl,hf⟩)
    refine ⟨KeepsFrom.of_fr hf,hf.below0.mono hW0,hI.fr hf,Nat.le_trans hW0 hf.size,H_ ?_⟩;intro x hx;rcases List.mem_append.1 hx with h | h
    · exact HP.out x h
    simp at h;subst h;exact HU.out
  have hu':((upTo y.puts rev:Int) == 0)=false:=by simp [hu]
  have HU:=H_ hu;clear hu;by_cases he:0 < y.end_/\y.end_<=rev
  · obtain ⟨he0,he1⟩:=he
    gi_wp2_with (refine ⟨trivial,(fun h=>by cases h),?_⟩;gi_at_call 118;refine (CallsIn.inRound l (callsIn_wide.2 hup)).mono ?_;clear hup;rintro e w' ⟨rfl,hf⟩;have d3:=hf.cell0 c3;have d0:=hf.cell0 r0)
    exact ⟨KeepsFrom.of_fr hf,rfl,hI.fr hf,H_ ⟨pre,_,rfl,HP.out,HU.out,he0,he1⟩⟩
  have hed:=H_ he
  have hor:(0 < y.end_/\rev < y.end_)\/y.end_<=0:=(by omega);clear he;rcases hor with ⟨he0,he1⟩ | he0
  all_goals
   have hlen:(0:Int)<=(upTo y.puts rev:Int) - 1:=(by have:=HU.out;omega);have hlen1:(1:Int)<=(upTo y.puts rev:Int):=(by omega);have hlen2:(upTo y.puts rev:Int) - 1 < (y.puts.length:Int):=(by omega);obtain ⟨pb,po,rfl⟩:=hpa (by have:=HU.out;omega)
   have hpx:y.puts[upTo y.puts rev - 1]? = some (y.puts[upTo y.puts rev - 1]?.getD 0):=by
    rw [List.getElem?_eq_getElem (by have:=HU.out;omega)];rfl
   have c4:=SlF.cell1 zht hpW (upTo y.puts rev - 1) hpx rfl;have HPX:=H_ hpx;generalize hpg:y.puts[upTo y.puts rev - 1]?.getD 0=pg at c4;have HPG:=H_ hpg;have hyc:=hy.2;simp only at hyc;have hy1:=hy.1;simp only at hy1;clear hpx hpg hpv hpW hy
   gi_wp2_with (refine ⟨trivial,(fun h=>by cases h),?_⟩;gi_at_call 118;refine (CallsIn.inRound l (callsIn_wide.2 hup)).mono ?_;clear hup;rintro e w' ⟨rfl,hf⟩;have d3:=hf.cell0 c3;have d0:=hf.cell0 r0;have d1:=hf.cell0 c0;have d2:=hf.cell0 c1;have d4:=hf.cell0 c2;have d5:=hf.cell0 c4)
   refine zbx 13 (fun _=>trivial) rfl (zit l) (by kernel_rfl) (by kernel_rfl) ?_;simp only [List.take_succ_cons,List.take_zero,List.drop_succ_cons,List.drop_zero]
   repeat (refine wpStill_step (fun K hK=>?_);go_simp;(try go_bits);refine hK _ ?_;clear hK K)
   refine wpStill_nil ?_;have hI':=hI.fr hf;have r1:w'.cell? ⟨w.heap.size+1,0,none⟩=some (.int .i64 0):=(by simp [World.cell?,hI'.b1,seenV]);have r2:w'.cell? ⟨w.heap.size+1,1,none⟩=some (.int .i64 0):=(by simp [World.cell?,hI'.b1,seenV]);have r3:w'.cell? ⟨w.heap.size+1,2,none⟩=some (.int .i64 0):=(by simp [World.cell?,hI'.b1,seenV]);have r4:w'.cell? ⟨w.heap.size+1+1,0,none⟩=some (.bool false):=(by simp [World.cell?,hI'.b2]);have f10:w'.frozen? ⟨w.heap.size+1,0,none⟩=false:=(by simp [World.frozen?,hI'.b1]);have f11:w'.frozen? ⟨w.heap.size+1,1,none⟩=false:=(by simp [World.frozen?,hI'.b1]);have f12:w'.frozen? ⟨w.heap.size+1,2,none⟩=false:=(by simp [World.frozen?,hI'.b1]);have f4:w'.frozen? ⟨w.heap.size+1+1,0,none⟩=false:=(by simp [World.frozen?,hI'.b2])
   gi_wp2
   have hcc:=hI'.store rfl y.create pg (y.cut + ↑(upTo y.puts rev)) true;refine ⟨⟨by simpa using hf.size,fun k o hB hk ho=>?_⟩,pre,_,rfl,HP.out,HU.out,hed.out,?_⟩
   · have hk':=hf.heap hk id
     exact zlr hk' (by have:=hB;omega) _ _ _ _
   show AtI w rev (seenV (y.create,y.puts[upTo y.puts rev - 1]?.getD 0,y.cut+upTo y.puts rev)) true _
   rw [HPG.out];exact ⟨hcc.b0,hcc.b1,hcc.b2,hcc.below.drew⟩
 case done =>
  rintro D xs W hD hS ⟨hI,hW,hpre⟩ hK;have r1:W.cell? ⟨w.heap.size+1,0,none⟩=some (.int .i64 0):=(by simp [World.cell?,hI.b1,seenV]);have r2:W.cell? ⟨w.heap.size+1,1,none⟩=some (.int .i64 0):=(by simp [World.cell?,hI.b1,seenV]);have r3:W.cell? ⟨w.heap.size+1,2,none⟩=some (.int .i64 0):=(by simp [World.cell?,hI.b1,seenV]);have r4:W.cell? ⟨w.heap.size+1+1,0,none⟩=some (.bool false):=(by simp [World.cell?,hI.b2]);have f1:∀ j,W.frozen? ⟨w.heap.size+1,j,none⟩=false:=fun j=>by simp [World.frozen?,hI.b1]
  have f4:W.frozen? ⟨w.heap.size+1+1,0,none⟩=false:=(by simp [World.frozen?,hI.b2]);have f10:=f1 0;have f11:=f1 1;have f12:=f1 2;clear f1
  gi_wp2
  have hat:atK (Z.map (·.1)) rev=((0,0,0),false):=zsw hS hpre.out;exact zjt n w _ D rev (0,0,0) false _ rfl rfl (hI.store rfl 0 0 0 false) (zlr hK (by omega) _ _ _ _) (by omega) _ fun W' hb=>⟨by rw [hat],hb⟩
 case stop =>
  rintro D c pre W hD ⟨k,hk,hS⟩ hIx hK
  cases c with
  | exit id =>
    obtain ⟨rfl,hI,HP⟩:=hIx;have r1:W.cell? ⟨w.heap.size+1,0,none⟩=some (.int .i64 0):=(by simp [World.cell?,hI.b1,seenV]);have r2:W.cell? ⟨w.heap.size+1,1,none⟩=some (.int .i64 0):=(by simp [World.cell?,hI.b1,seenV]);have r3:W.cell? ⟨w.heap.size+1,2,none⟩=some (.int .i64 0):=(by simp [World.cell?,hI.b1,seenV]);have r4:W.cell? ⟨w.heap.size+1+1,0,none⟩=some (.bool false):=(by simp [World.cell?,hI.b2]);have f10:W.frozen? ⟨w.heap.size+1,0,none⟩=false:=(by simp [World.frozen?,hI.b1]);have f11:W.frozen? ⟨w.heap.size+1,1,none⟩=false:=(by simp [World.frozen?,hI.b1]);have f12:W.frozen? ⟨w.heap.size+1,2,none⟩=false:=(by simp [World.frozen?,hI.b1]);have f4:W.frozen? ⟨w.heap.size+1+1,0,none⟩=false:=(by simp [World.frozen?,hI.b2])
    have hat:Hid (atK (Z.map (·.1)) rev=((0,0,0),false)):=by
     obtain ⟨pre',x,rfl,h0,hx,h1,h2⟩:=HP.out;refine H_ ?_;unfold atK;rw [zob hk hS h0 hx];simp only;rw [if_pos ⟨h1,h2⟩]
    gi_wp2
    exact zjt n w _ D rev (0,0,0) false _ rfl rfl (hI.store rfl 0 0 0 false) (zlr hK (by omega) _ _ _ _) (by omega) _ fun W' hb=>⟨by rw [hat.out],hb⟩
  | ret =>
    obtain ⟨pre',x,rfl,h0,hx,hn,hI⟩:=hIx
    have hat:Hid (atK (Z.map (·.1)) rev=((x.1.2.1.create,x.1.2.1.puts[upTo x.1.2.1.puts rev - 1]?.getD 0,x.1.2.1.cut+upTo x.1.2.1.puts rev),true)):=by
     refine H_ ?_;unfold atK;rw [zob hk hS h0 hx];simp only;rw [if_neg hn]
    gi_wp2
    exact zjt n w _ D rev _ true _ rfl rfl hI hK (by omega) _ fun W' hb=>⟨by rw [hat.out],hb⟩
  | _=>exact hIx.elim
def zkj (s:(Int × Int × Int) × Bool):Value:=.tuple #[.agg (seenV s.1).toArray,.bool s.2]
theorem zsz (w:World) (g:Nat) (K:List Gen) (last rev:Int) (F:Nat->Prop) (h:KeyAt w g K last F) (hK:Fits K) :
 Calls Try.prog 109 #[.pointer (some ⟨g,0,none⟩),.int .i64 rev] w fun e w'=>e = .returned (zkj (atK K rev))/\Fr No w w':=by
 obtain ⟨gv,Z,h,rfl,hF⟩:=h;refine (callsIn_wide.1 (At_in 6 (by omega) w g gv Z last rev h (by simpa using hK.1) fun x hx=>hK.2 x.1 (List.mem_map.2 ⟨x,hx,rfl⟩))).mono ?_;rintro e w' ⟨he,hb⟩;exact ⟨he,Fr.of_below hb⟩
end Go.Proofs.Ythljnnjpmdgkoaa