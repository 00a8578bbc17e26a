/- Own lemmas. -/
import Derived.Test.YtdgkdfmfoonbpaaGreatR12
import Derived.Test.YtdgkdfmfoonbpaaGreatR10
import Derived.Test.YtdgkdfmfoonbpaaGreatR11
import Derived.Test.YtdgkdfmfoonbpaaGreatR09
import Derived.RangeFuncNested
import Derived.RangeFuncBound
import Derived.RangeFuncCalls
import Derived.RangeFuncLeaves
import Derived.RangeFuncBox
import Derived.RangeFuncWrites
import Derived.Shelf.Abstract
import Derived.OwnWalkIn
import Derived.TacticsInMore
import Derived.LoopNIn
import Derived.LoopIn
namespace Go.Proofs.YtdgkdfmfoonbpaaGreat
open Go Go.Proofs Go.RowKit Go.Shelf
set_option maxRecDepth 100000
attribute [local go_sem] Oper.semAt_some
abbrev BElt (Z:List (Gen×Value)):={ x:Nat×(Gen×Value) // Z[x.1]?=some x.2 }
def bEnc (Z:List (Gen×Value)) (x:BElt Z):Array Value:=#[.int .i64 (x.1.1:Int),.agg #[.int .i64 x.1.2.1.create,.int .i64 x.1.2.1.cut,x.1.2.2,.int .i64 x.1.2.1.end_]]
def isBack (Z:List (Gen×Value)) (k:Nat) (pre:List (BElt Z)):Prop:=pre.map (fun x=>x.1.1)=(List.range k).map fun j=>Z.length-1-j
theorem isBack.snoc {Z:List (Gen×Value)} {k:Nat} {pre:List (BElt Z)} (h:isBack Z k pre) (x:BElt Z) (hx:x.1.1=Z.length-1-k):isBack Z (k+1) (pre++[x]):=by
 unfold isBack at *;rw [List.map_append,h,List.range_succ,List.map_append];simp [hx]
theorem isBack.length {Z:List (Gen×Value)} {k:Nat} {pre:List (BElt Z)} (h:isBack Z k pre):pre.length=k:=by
 have:=congrArg List.length h;simpa using this
theorem zvn (F:Fence) (n:Nat) (h7:F.fn 145) (hro:F.round=none) (hn:1<=n) (l Bs n₀:Nat) (gv:Value) (Z:List (Gen×Value)) (hZ:Z.length<=1099511627776)
 (J Jx:List (BElt Z)->World->Prop)
 (hY:∀ pre x W,J pre W->pre.length<Z.length->YieldAt F (n-1) Tryz.prog l (bEnc Z x) W fun e W' =>
   (e=.returned (.bool true)/\J (pre++[x]) W'/\Below n₀ W W')\/(e=.returned (.bool false)/\Jx (pre++[x]) W'))
 (W:World) (hBs:W.cell? ⟨Bs,0,none⟩=some gv) (hBn:Bs<n₀) (hg:SlF W 187 4 genC gv Z) (hgn:∀ b,gv.ownBlock=some b->b<n₀) (h0:J [] W) :
 CallsIn F n Tryz.prog 145 #[.func (.yield l) #[] #[],.pointer (some ⟨Bs,0,none⟩)] W fun e W'=>(∃ v,e=.returned v) ∧
  ((∃ ys,isBack Z Z.length ys/\J ys W')\/(∃ pre,(∃ k,k<=Z.length/\isBack Z k pre)/\Jx pre W')):=by
 obtain ⟨a,cap,rfl,N,O,C⟩:=hg.shape;have H:=H_ hg;clear hg;have G:=H_ C;clear C;have I:=H_ hgn;clear hgn;refine callsIn_of_wp Tryz.func145 rfl h7 ?_ hro;simp only [Tryz.ntmps145,List.size_toArray,List.length_cons,List.length_nil,Nat.reduceAdd,Nat.reduceSub,Array.replicate_succ,Array.replicate_zero,List.push_toArray,List.append_toArray,List.nil_append,List.cons_append]
 gi_wp2
 gi_loopw [3] (fun i wr=>∃ (m:Nat) (pre:List (BElt Z)),i=.int .i64 ((m:Int)-1)/\m<=Z.length/\isBack Z (Z.length-m) pre/\J pre wr/\Below n₀ W wr)
  (fun i _=>(intOf i+1).toNat)
 case atStart=>exact ⟨Z.length,[],rfl,Nat.le_refl _,by simp [isBack],h0,Below.refl _ _⟩
 case round =>
  obtain ⟨m,pre,u,X,s,j,f⟩:=hrel;have L:=(f.cell (p:=⟨Bs,0,none⟩) hBn).trans hBs
  cases m with
  | zero =>
    subst u
    gi_wp2
    go_end0
    exact ⟨⟨_,rfl⟩,.inl ⟨pre,s,j⟩⟩
  | succ m =>
    obtain ⟨K,go,rfl⟩:=G.out (by omega);have w:u3=.int .i64 (m:Int):=(by rw [u];congr 1;omega);clear u;subst w;obtain ⟨g,d⟩:∃ g:BElt Z,g.1.1=m:=⟨⟨(m,Z[m]'(by omega)),List.getElem?_eq_getElem (by omega)⟩,rfl⟩;have q:Z[m]?=some g.1.2:=d▸g.2;obtain ⟨V,E,r,B,D,M⟩:=hY pre g wr j (by rw [s.length];omega);have c:SlF wr 187 4 genC (.slice (some ⟨K,go,none⟩) Z.length cap) Z:=Sl.keep H.out fun k hk=>f.block k (I.out k hk);have R:=c.cell0 zaj m q rfl;have S:=c.cell zaj m 1 q rfl;have T:=c.cell zaj m 2 q rfl;have U:=c.cell zaj m 3 q rfl;dsimp only [bEnc] at D;rw [d] at D;have z:=H_ s;clear s;have A:=H_ d;clear q d;clear c;have P:(m:Int)<(Z.length:Int):=(by omega)
    gi_wp2
    refine M.mono ?_;rintro e Q (⟨rfl,t,y⟩ | ⟨rfl,o⟩)
    · gi_wp2
      go_roundw
      case rel=>exact ⟨m,_,rfl,by omega,by have:=z.out.snoc g (by rw [A.out];omega);rwa [show Z.length-(m+1)+1=Z.length-m from by omega] at this,t,f.trans y⟩
      case measure=>simp [intOf]
    gi_wp2
    refine bodyPost_ret (results_none rfl _ _ _) rfl ?_;exact ⟨⟨_,rfl⟩,.inr ⟨_,⟨Z.length-(m+1)+1,by omega,z.out.snoc g (by rw [A.out];omega)⟩,o⟩⟩
theorem zqu (F:Fence) (n:Nat) (h7:F.fn 145) (hro:F.round=none) (hn:1<=n) (Bs n₀:Nat) (gv:Value) (Z:List (Gen×Value)) (hZ:Z.length<=1099511627776) (w:World) (hBs:w.cell? ⟨Bs,0,none⟩=some gv) (hBn:Bs<n₀) (hn₀:n₀<=w.heap.size)
 (hg:SlF w 187 4 genC gv Z) (hgn:∀ b,gv.ownBlock=some b->b<n₀) :
 SeqStopsK F n Tryz.prog 145 #[.pointer (some ⟨Bs,0,none⟩)] (bEnc Z) (Below n₀) (fun ys=>isBack Z Z.length ys) (fun pre=>∃ k,k<=Z.length/\isBack Z k pre) Z.length w:=fun l J Jx W hW _ _ hY h0 =>
 zvn F n h7 hro hn l Bs n₀ gv Z hZ J Jx hY W ((hW.cell (p:=⟨Bs,0,none⟩) (by show Bs<_;omega)).trans hBs) hBn (Sl.keep hg fun k hk=>hW.block k (by have:=hgn k hk;omega)) hgn h0
theorem zje (a:Option Addr) (len cap:Nat) (w:World) :
 Calls Tryz.prog 117 #[.slice a len cap] w fun e w'=>e=.returned (.func (.func 145) #[] #[.pointer (some ⟨w.heap.size,0,none⟩)])/\w.alloc (.cells #[.slice a len cap] 184)=w':=by
 have b:∀ (fn:Fn) (first cap:Array Value) (w:World),(Instr.makeFunc fn first cap).run Tryz.prog w=.ok (.func fn first cap) w:=fun _ _ _ _=>rfl;go_enter Tryz.func117,Tryz.ntmps117;go_wp2;go_ret;exact ⟨rfl,rfl⟩
def atK (K:List Gen) (rev:Int):(Int×Int×Int)×Bool :=
 match K.reverse.find? fun x=>upTo x.puts rev != 0 with
 | none=>((0,0,0),false)
 | some x=>if 0<x.end_/\x.end_<=rev then ((0,0,0),false) else ((x.create,x.puts[upTo x.puts rev-1]?.getD 0,x.cut+upTo x.puts rev),true)
def seenV (s:Int×Int×Int):List Value:=[.int .i64 s.1,.int .i64 s.2.1,.int .i64 s.2.2]
theorem KeepsFrom.of_fr {B:Nat} {W W':World} (h:Fr No W W'):KeepsFrom B W W':=⟨h.size,fun _ _ _ hk _=>h.heap hk fun s=>s⟩
structure AtI (w:World) (rev:Int) (s:List Value) (b:Bool) (W:World):Prop where
 b0:W.heap[w.heap.size]?=some (.cells #[Value.int .i64 rev] 3 (0,0))
 b1:W.heap[w.heap.size+1]?=some (.cells s.toArray 173 (0,0))
 b2:W.heap[w.heap.size+1+1]?=some (.cells #[Value.bool b] 4 (0,0))
 below:Below w.heap.size w W
theorem AtI.own {w:World} {rev:Int} {s:List Value} {b:Bool} {W W':World} {row:Option Nat} (h:AtI w rev s b W) (hg:W.grownBy W' row) (hr:∀ r,row=some r->w.heap.size<=r/\∃ o:Obj,W.heap[r]?=some o/\o.isCells=false):AtI w rev s b W':=by
 have key:∀ (k:Nat) (c:Array Value) (e:TypeId),W.heap[k]?=some (.cells c e (0,0))->W'.heap[k]?=some (.cells c e (0,0)):=fun k c e hk =>
  (hg.block k (zac hk) fun e'=>by obtain ⟨_,o,a,d⟩:=hr k e'.symm;rw [hk] at a;cases a;cases d).trans hk
 exact ⟨key _ _ _ h.b0,key _ _ _ h.b1,key _ _ _ h.b2,h.below.grown hg h.below.size fun k hk=>(hr k hk).1⟩
theorem AtI.fr {w:World} {rev:Int} {s:List Value} {b:Bool} {W W':World} (h:AtI w rev s b W) (hf:Fr No W W'):AtI w rev s b W' :=
 ⟨hf.heap h.b0 id,hf.heap h.b1 id,hf.heap h.b2 id,h.below.trans (hf.below0.mono h.below.size)⟩
def AtIx (w:World) (Z:List (Gen×Value)) (rev:Int) (c:Code) (pre:List (BElt Z)) (W:World):Prop :=
 match c with
 | .exit id=>id=0/\AtI w rev (seenV (0,0,0)) false W/\Hid (∃ pre' x,pre=pre'++[x]/\(∀ y∈pre',upTo y.1.2.1.puts rev=0)/\upTo x.1.2.1.puts rev≠0/\0<x.1.2.1.end_/\x.1.2.1.end_<=rev)
 | .ret=>∃ pre' x,pre=pre'++[x]/\(∀ y∈pre',upTo y.1.2.1.puts rev=0)/\upTo x.1.2.1.puts rev≠0/\¬ (0<x.1.2.1.end_/\x.1.2.1.end_<=rev) ∧
    AtI w rev (seenV (x.1.2.1.create,x.1.2.1.puts[upTo x.1.2.1.puts rev-1]?.getD 0,x.1.2.1.cut+upTo x.1.2.1.puts rev)) true W
 | _=>False
theorem AtI.store {w:World} {rev:Int} {s0:List Value} {b0:Bool} {W:World} (h:AtI w rev s0 b0 W) (h3:s0.length=3) (x y z:Int) (b:Bool) :
 AtI w rev (seenV (x,y,z)) b ((((W.setCell ⟨w.heap.size+1,0,none⟩ (.int .i64 x)).setCell ⟨w.heap.size+1,1,none⟩ (.int .i64 y)).setCell ⟨w.heap.size+1,2,none⟩ (.int .i64 z)).setCell ⟨w.heap.size+1+1,0,none⟩ (.bool b)):=by
 match s0,h3 with
 | [u0,u1,u2],_ =>
   refine ⟨?_,?_,?_,?_⟩
   · rw [Below.heap_setCell _ _ _ _ (by simp;omega),Below.heap_setCell _ _ _ _ (by simp),Below.heap_setCell _ _ _ _ (by simp),Below.heap_setCell _ _ _ _ (by simp)]
     exact h.b0
   · rw [Below.heap_setCell _ _ _ _ (by simp)]
     have d:=zab h.b1 0 (.int .i64 x);have f:=zab d 1 (.int .i64 y);have g:=zab f 2 (.int .i64 z);rw [g];simp [seenV]
   · refine (zab (c:=#[.bool b0]) (e:=4) (fr:=(0,0)) ?_ 0 (.bool b)).trans (by simp)
     rw [Below.heap_setCell _ _ _ _ (by simp),Below.heap_setCell _ _ _ _ (by simp),Below.heap_setCell _ _ _ _ (by simp)];exact h.b2
   have a:=fun (p:Addr) (hp:w.heap.size<=p.block) (X:World) (hX:Below w.heap.size w X) (u:Value)=>hX.setCell (p:=p) hp u
   exact a _ (by simp;omega) _ (a _ (by simp) _ (a _ (by simp) _ (a _ (by simp) _ h.below _) _) _) _
theorem zmv {w W:World} {D:Nat} {o:Obj} (hK:W.heap[D]?=some o) (hD:w.heap.size+1+1<D) (x y z u:Value) :
 ((((W.setCell ⟨w.heap.size+1,0,none⟩ x).setCell ⟨w.heap.size+1,1,none⟩ y).setCell ⟨w.heap.size+1,2,none⟩ z).setCell ⟨w.heap.size+1+1,0,none⟩ u).heap[D]?=some o:=by
 rw [Below.heap_setCell _ _ _ _ (by simp;omega),Below.heap_setCell _ _ _ _ (by simp;omega),Below.heap_setCell _ _ _ _ (by simp;omega),Below.heap_setCell _ _ _ _ (by simp;omega)];exact hK
theorem isBack.take {Z:List (Gen×Value)} {k:Nat} {pre:List (BElt Z)} (h:isBack Z k pre) (hk:k<=Z.length):pre.map (fun x=>x.1.2)=Z.reverse.take k:=by
 have c:=h.length;apply List.ext_getElem?;intro j;by_cases hj:j<k
 · have a:pre[j]?=some (pre[j]'(by omega)):=List.getElem?_eq_getElem (by omega)
   have b:(pre[j]'(by omega)).1.1=Z.length-1-j:=by
    have:=congrArg (fun l:List Nat=>l[j]?) h;simp only [List.getElem?_map,a,List.getElem?_range hj,Option.map_some,Option.some.injEq] at this;exact this
   rw [List.getElem?_map,a,List.getElem?_take,if_pos hj,List.getElem?_reverse (by omega),<-b,(pre[j]'(by omega)).2]
   rfl
 rw [List.getElem?_eq_none (by simp;omega),List.getElem?_eq_none (by simp;omega)]
theorem zvp {Z:List (Gen×Value)} {rev:Int} {pre:List (BElt Z)} (h:isBack Z Z.length pre) (h0:∀ x∈pre,upTo x.1.2.1.puts rev=0):atK (Z.map (·.1)) rev=((0,0,0),false):=by
 have a:=h.take (Nat.le_refl _);rw [List.take_of_length_le (by simp)] at a
 have c:((Z.map (·.1)).reverse.find? fun x=>upTo x.puts rev != 0)=none:=by
  rw [<-List.map_reverse,<-a,List.find?_eq_none];intro x b;simp only [List.map_map,List.mem_map] at b;obtain ⟨y,d,rfl⟩:=b;simpa using h0 y d
 unfold atK;rw [c]
theorem zpk {Z:List (Gen×Value)} {rev:Int} {pre':List (BElt Z)} {x:BElt Z} {k:Nat} (hk:k<=Z.length) (h:isBack Z k (pre'++[x])) (h0:∀ y∈pre',upTo y.1.2.1.puts rev=0) (hx:upTo x.1.2.1.puts rev≠0) :
 ((Z.map (·.1)).reverse.find? fun x=>upTo x.puts rev != 0)=some x.1.2.1:=by
 have d:=h.take hk;have c:Z.reverse=(pre'++[x]).map (fun x=>x.1.2)++Z.reverse.drop k:=by rw [d,List.take_append_drop]
 rw [<-List.map_reverse,c];rw [List.map_append,List.map_append,List.map_append,List.append_assoc,List.find?_append]
 have b:(((pre'.map fun x=>x.1.2).map fun x=>x.1).find? fun x=>upTo x.puts rev != 0)=none:=by
  rw [List.find?_eq_none];intro y a;simp only [List.map_map,List.mem_map] at a;obtain ⟨y,a,rfl⟩:=a;simpa using h0 y a
 rw [b];simp [hx]
theorem zks (n:Nat) (w W:World) (D:Nat) (rev:Int) (s:Int×Int×Int) (b:Bool) (tmps:Array Value) (ht4:tmps.getD 4 undef=.pointer (some ⟨w.heap.size+1,0,none⟩)) (ht5:tmps.getD 5 undef=.pointer (some ⟨w.heap.size+1+1,0,none⟩))
 (h:AtI w rev (seenV s) b W) (hK:W.heap[D]?=some (.deferred (some []))) (hD:w.heap.size<=D) (R:Ending->World->Prop) (hR:∀ W',Below w.heap.size w W'->R (.returned (.tuple #[.agg (seenV s).toArray,.bool b])) W') :
 bodyPostM Fence.wide n Tryz.prog Tryz.f93 R .ret ⟨tmps,[{ target:=.collected D,args:=#[] }]⟩ W:=by
 refine ⟨by simp,.inl ⟨_,_,rfl,run_takeDeferred hK,?_⟩⟩;have a:AtI w rev (seenV s) b (W.putObj D (.deferred none)):=h.own (grownBy_putObj' W D _) fun r e=>by cases e;exact ⟨hD,_,hK,rfl⟩
 generalize W.putObj D (.deferred none)=f at a ⊢
 have g:f.cell? ⟨w.heap.size+1,0,none⟩=some (.int .i64 s.1):=by simp [World.cell?,a.b1,seenV]
 have i:f.cell? ⟨w.heap.size+1,1,none⟩=some (.int .i64 s.2.1):=by simp [World.cell?,a.b1,seenV]
 have j:f.cell? ⟨w.heap.size+1,2,none⟩=some (.int .i64 s.2.2):=by simp [World.cell?,a.b1,seenV]
 have k:f.cell? ⟨w.heap.size+1+1,0,none⟩=some (.bool b):=by simp [World.cell?,a.b2]
 refine ⟨.tuple #[.agg (seenV s).toArray,.bool b],?_,hR _ a.below⟩;have c:tmps[4]?.getD undef=.pointer (some ⟨w.heap.size+1,0,none⟩):=by simpa using ht4
 have d:tmps[5]?.getD undef=.pointer (some ⟨w.heap.size+1+1,0,none⟩):=by simpa using ht5
 simp [results,Tryz.results93,c,d,go_sem,g,i,j,k,seenV]
set_option maxHeartbeats 1000000 in
theorem At_in (n:Nat) (hn:6<=n) (w:World) (g:Nat) (gv:Value) (Z:List (Gen×Value)) (last rev:Int) (h:KeyRep w g gv Z last) (hl:Z.length<=1099511627) (hp:∀ x∈Z,x.1.puts.length<=1099511627/\0<=x.1.cut/\x.1.cut<=1099511627776) :
 CallsIn Fence.wide n Tryz.prog 93 #[.pointer (some ⟨g,0,none⟩),.int .i64 rev] w fun e w' =>
  e=.returned (.tuple #[.agg (seenV (atK (Z.map (·.1)) rev).1).toArray,.bool (atK (Z.map (·.1)) rev).2])/\Below w.heap.size w w':=by
 have O:1<=n:=by omega
 obtain ⟨a,cap,rfl,aR,aS,ha⟩:=h.gens.shape;have aT:=h.obj.cell 0 rfl;have aU:=h.obj.lt;have ar:g<w.heap.size+1:=by omega
 have au:g<w.heap.size+1+1:=by omega
 have H:=H_ h;clear h ha;refine callsIn_of_wp_marks Tryz.func93 rfl trivial ?_ rfl;simp only [Tryz.ntmps93,List.size_toArray,List.length_cons,List.length_nil,Nat.reduceAdd,Nat.reduceSub,Array.replicate_succ,Array.replicate_zero,List.push_toArray,List.append_toArray,List.nil_append,List.cons_append]
 gi_wp2_with (refine ⟨trivial,?_⟩;gi_at_call 117;refine (callsIn_wide.2 (zje _ _ _ _)).mono ?_;rintro e w' ⟨rfl,rfl⟩)
 obtain ⟨v,d⟩:∃ v,(((w.alloc (Obj.cells #[Value.int IntKind.i64 rev] 3)).alloc (Obj.cells #[Value.int IntKind.i64 0,Value.int IntKind.i64 0,Value.int IntKind.i64 0] 173)).alloc (Obj.cells #[Value.bool false] 4)).alloc
  (Obj.cells #[Value.slice a Z.length cap] 184)=v:=⟨_,rfl⟩
 have aW:v.heap.size=w.heap.size+4:=by rw [<-d];simp
 have b0:v.heap[w.heap.size]?=some (.cells #[Value.int IntKind.i64 rev] 3 (0,0)):=by
  rw [<-d];exact zaq (zaq (zaq (zae _ _ _ rfl) _) _) _
 have b1:v.heap[w.heap.size+1]?=some (.cells #[Value.int IntKind.i64 0,Value.int IntKind.i64 0,Value.int IntKind.i64 0] 173 (0,0)):=by rw [<-d];exact zaq (zaq (zae _ _ _ (by simp)) _) _
 have b2:v.heap[w.heap.size+1+1]?=some (.cells #[Value.bool false] 4 (0,0)):=by rw [<-d];exact zaq (zae _ _ _ (by simp)) _
 have b3:v.heap[w.heap.size+1+1+1]?=some (.cells #[Value.slice a Z.length cap] 184 (0,0)):=by rw [<-d];exact zae _ _ _ (by simp)
 have a0:Below w.heap.size w v:=by rw [<-d];exact ((((Fr.refl No w).alloc _).alloc _).alloc _).alloc _ |>.below0
 simp only [d];clear d;have a4:SlF v 187 4 genC (.slice a Z.length cap) Z:=Sl.keep H.out.gens fun k J=>a0.block k (H.out.gens.lt k J)
 refine wpIn_rangeFunc_ownH rfl O (gf:=145) (lb:=#[.pointer (some ⟨w.heap.size+1+1+1,0,none⟩)]) rfl trivial (enters_of Tryz.func145 (by kernel_rfl) rfl)
  (zqu Fence.wide (n-1) trivial rfl (by omega) (w.heap.size+1+1+1) v.heap.size (.slice a Z.length cap) Z (by omega) v (by simp [World.cell?,b3]) (by omega) (Nat.le_refl _) a4 (fun b hb=>a4.lt b hb)) belowK_t (belowK_b (Nat.le_refl _)) (Below.refl _ _) (fun _=>rfl)
  (fun A W=>AtI w rev (seenV (0,0,0)) false W/\v.heap.size<=W.heap.size/\Hid (∀ x∈A,upTo x.1.2.1.puts rev=0))
  (AtIx w Z rev)
  (fun s W W' row hs hg L=>⟨hs.1.own hg fun r e=>⟨by have:=(L r e).1;omega,(L r e).2⟩,Nat.le_trans hs.2.1 hg.size,hs.2.2⟩)
  (fun c s W W' row hs hg L=>by
    have a3:∀ r,row=some r->w.heap.size<=r/\∃ o:Obj,W.heap[r]?=some o/\o.isCells=false:=fun r e=>⟨by have:=(L r e).1;omega,(L r e).2⟩
    cases c with
    | exit id=>exact ⟨hs.1,hs.2.1.own hg a3,hs.2.2⟩
    | ret=>obtain ⟨E,x,O,P,h3,h4,h5⟩:=hs;exact ⟨E,x,O,P,h3,h4,h5.own hg a3⟩
    | _=>exact hs.elim)
  ⟨⟨b0,b1,b2,a0⟩,Nat.le_refl _,H_ (by simp)⟩
  (fun x a' W=>∃ I,v.heap.size<=I/\W.heap[I]?=some (.cells #[.int .i64 x.1.2.1.create,.int .i64 x.1.2.1.cut,x.1.2.2,.int .i64 x.1.2.1.end_] 187 (0,0))/\a'=⟨#[.pointer (some ⟨g,0,none⟩),.int .i64 rev,undef,.pointer (some ⟨w.heap.size,0,none⟩),.pointer (some ⟨w.heap.size+1,0,none⟩),.pointer (some ⟨w.heap.size+1+1,0,none⟩),undef,.pointer (some ⟨I,0,none⟩),undef,.pointer (some ⟨g,0,none⟩),.bool false,undef,.pointer (some ⟨g,0,none⟩),.pointer (some ⟨g,0,none⟩),.pointer (some ⟨g,0,none⟩),.slice a Z.length cap,.func (.func 145) #[] #[.pointer (some ⟨w.heap.size+1+1+1,0,none⟩)],.int .i64 (x.1.1:Int),.agg #[.int .i64 x.1.2.1.create,.int .i64 x.1.2.1.cut,x.1.2.2,.int .i64 x.1.2.1.end_],undef,undef,undef,undef,undef,undef,undef,undef,undef,undef,undef,undef,undef,undef,undef,undef,undef,undef,undef,undef,undef,undef,undef,undef,undef,undef,undef,undef],[]⟩)
  (fun x a' s W W' row hs hg L=>by
    obtain ⟨I,O,P,h3⟩:=hs;exact ⟨I,O,(hg.block I (zac P) fun e'=>by obtain ⟨_,o,ho,hc⟩:=L I e'.symm;rw [P] at ho;cases ho;cases hc).trans P,h3⟩)
  ?assign ?body ?done ?stop
 case assign =>
  rintro l A ⟨⟨i,y,pv⟩,C⟩ W K ⟨f,d,m⟩ F;have u:SlF w 3 1 int1 pv y.puts:=H.out.puts i (y,pv) C;obtain ⟨pa,M,rfl,_,_,_⟩:=u.shape;have ad:=H_ F;clear F u;dsimp only [bEnc]
  gi_wp2
  exact ad.out _ _ ((KeepsOthers.alloc _ _).from _) ((Below.refl _ W).alloc d _) ⟨f.fr ((Fr.refl _ _).alloc _),by simp;omega,m⟩ ⟨W.heap.size,d,heap_alloc_new _ _,rfl⟩
 case body =>
  rintro l A ⟨⟨i,y,pv⟩,C⟩ a' W hl ⟨r,L⟩ ⟨f,d,m⟩ ⟨I,aN,bX,rfl⟩ aV;have u:SlF w 3 1 int1 pv y.puts:=H.out.puts i (y,pv) C;have S:SlF W 3 1 int1 pv y.puts:=Sl.keep u fun k J=>f.below.block k (u.lt k J);have hy:=hp (y,pv) (List.mem_of_getElem? C);obtain ⟨pa,M,rfl,_,_,ak⟩:=u.shape;obtain ⟨c0,c1,c2,c3⟩:=cells4 bX;have r0:W.cell? ⟨w.heap.size,0,none⟩=some (.int .i64 rev):=(by simp [World.cell?,f.b0]);have z:=zjk W y (.slice pa y.puts.length M) rev S (by have:=hy.1;simp at this;omega);have U:=H_ m;clear m;have HX:=H_ C;have aX:=zds y.puts rev;by_cases hu:upTo y.puts rev=0
  · have al:((upTo y.puts rev:Int)==0)=true:=by simp [hu]
    have N:=H_ hu;clear hu
    gi_wp2_with (refine ⟨trivial,(fun h=>by cases h),?_⟩;gi_at_call 104;refine (CallsIn.inRound l (callsIn_wide.2 z)).mono ?_;clear z;rintro e w' ⟨rfl,t⟩)
    refine ⟨KeepsFrom.of_fr t,t.below0.mono d,f.fr t,Nat.le_trans d t.size,H_ ?_⟩;intro x C;rcases List.mem_append.1 C with h | h
    · exact U.out x h
    simp at h;subst h;exact N.out
  have al:((upTo y.puts rev:Int)==0)=false:=by simp [hu]
  have N:=H_ hu;clear hu;by_cases he:0<y.end_/\y.end_<=rev
  · obtain ⟨R,a1⟩:=he
    gi_wp2_with (refine ⟨trivial,(fun h=>by cases h),?_⟩;gi_at_call 104;refine (CallsIn.inRound l (callsIn_wide.2 z)).mono ?_;clear z;rintro e w' ⟨rfl,t⟩;have d3:=t.cell0 c3;have d0:=t.cell0 r0)
    exact ⟨KeepsFrom.of_fr t,rfl,f.fr t,H_ ⟨A,_,rfl,U.out,N.out,R,a1⟩⟩
  have ae:=H_ he
  have aj:(0<y.end_/\rev<y.end_)\/y.end_<=0:=(by omega);clear he;rcases aj with ⟨R,a1⟩ | R
  all_goals
   have av:(0:Int)<=(upTo y.puts rev:Int)-1:=(by have:=N.out;omega);have ag:(1:Int)<=(upTo y.puts rev:Int):=(by omega);have ah:(upTo y.puts rev:Int)-1<(y.puts.length:Int):=(by omega);obtain ⟨pb,po,rfl⟩:=ak (by have:=N.out;omega)
   have T:y.puts[upTo y.puts rev-1]?=some (y.puts[upTo y.puts rev-1]?.getD 0):=by
    rw [List.getElem?_eq_getElem (by have:=N.out;omega)];rfl
   have c4:=SlF.cell1 zbj S (upTo y.puts rev-1) T rfl;have aC:=H_ T;generalize a2:y.puts[upTo y.puts rev-1]?.getD 0=pg at c4;have a8:=H_ a2;have an:=hy.2;simp only at an;have am:=hy.1;simp only at am;clear T a2 u S hy
   gi_wp2_with (refine ⟨trivial,(fun h=>by cases h),?_⟩;gi_at_call 104;refine (CallsIn.inRound l (callsIn_wide.2 z)).mono ?_;clear z;rintro e w' ⟨rfl,t⟩;have d3:=t.cell0 c3;have d0:=t.cell0 r0;have d1:=t.cell0 c0;have d2:=t.cell0 c1;have d4:=t.cell0 c2;have d5:=t.cell0 c4)
   refine zcc 13 (fun _=>trivial) rfl (zjd l) (by kernel_rfl) (by kernel_rfl) ?_;simp only [List.take_succ_cons,List.take_zero,List.drop_succ_cons,List.drop_zero]
   repeat (refine wpStill_step (fun K F=>?_);go_simp;(try go_bits);refine F _ ?_;clear F K)
   refine wpStill_nil ?_;have q:=f.fr t;have r1:w'.cell? ⟨w.heap.size+1,0,none⟩=some (.int .i64 0):=(by simp [World.cell?,q.b1,seenV]);have r2:w'.cell? ⟨w.heap.size+1,1,none⟩=some (.int .i64 0):=(by simp [World.cell?,q.b1,seenV]);have r3:w'.cell? ⟨w.heap.size+1,2,none⟩=some (.int .i64 0):=(by simp [World.cell?,q.b1,seenV]);have r4:w'.cell? ⟨w.heap.size+1+1,0,none⟩=some (.bool false):=(by simp [World.cell?,q.b2]);have V:w'.frozen? ⟨w.heap.size+1,0,none⟩=false:=(by simp [World.frozen?,q.b1]);have X:w'.frozen? ⟨w.heap.size+1,1,none⟩=false:=(by simp [World.frozen?,q.b1]);have Y:w'.frozen? ⟨w.heap.size+1,2,none⟩=false:=(by simp [World.frozen?,q.b1]);have f4:w'.frozen? ⟨w.heap.size+1+1,0,none⟩=false:=(by simp [World.frozen?,q.b2])
   gi_wp2
   have G:=q.store rfl y.create pg (y.cut + ↑(upTo y.puts rev)) true;refine ⟨⟨by simpa using t.size,fun k o hB J ho=>?_⟩,A,_,rfl,U.out,N.out,ae.out,?_⟩
   · have af:=t.heap J id
     exact zmv af (by have:=hB;omega) _ _ _ _
   show AtI w rev (seenV (y.create,y.puts[upTo y.puts rev-1]?.getD 0,y.cut+upTo y.puts rev)) true _
   rw [a8.out];exact ⟨G.b0,G.b1,G.b2,G.below.drew⟩
 case done =>
  rintro D xs W hD hS ⟨f,hW,m⟩ F;have r1:W.cell? ⟨w.heap.size+1,0,none⟩=some (.int .i64 0):=(by simp [World.cell?,f.b1,seenV]);have r2:W.cell? ⟨w.heap.size+1,1,none⟩=some (.int .i64 0):=(by simp [World.cell?,f.b1,seenV]);have r3:W.cell? ⟨w.heap.size+1,2,none⟩=some (.int .i64 0):=(by simp [World.cell?,f.b1,seenV]);have r4:W.cell? ⟨w.heap.size+1+1,0,none⟩=some (.bool false):=(by simp [World.cell?,f.b2]);have f1:∀ j,W.frozen? ⟨w.heap.size+1,j,none⟩=false:=fun j=>by simp [World.frozen?,f.b1]
  have f4:W.frozen? ⟨w.heap.size+1+1,0,none⟩=false:=(by simp [World.frozen?,f.b2]);have V:=f1 0;have X:=f1 1;have Y:=f1 2;clear f1
  gi_wp2
  have B:atK (Z.map (·.1)) rev=((0,0,0),false):=zvp hS m.out;exact zks n w _ D rev (0,0,0) false _ rfl rfl (f.store rfl 0 0 0 false) (zmv F (by omega) _ _ _ _) (by omega) _ fun W' hb=>⟨by rw [B],hb⟩
 case stop =>
  rintro D c A W hD ⟨k,J,hS⟩ Q F
  cases c with
  | exit id =>
    obtain ⟨rfl,f,U⟩:=Q;have r1:W.cell? ⟨w.heap.size+1,0,none⟩=some (.int .i64 0):=(by simp [World.cell?,f.b1,seenV]);have r2:W.cell? ⟨w.heap.size+1,1,none⟩=some (.int .i64 0):=(by simp [World.cell?,f.b1,seenV]);have r3:W.cell? ⟨w.heap.size+1,2,none⟩=some (.int .i64 0):=(by simp [World.cell?,f.b1,seenV]);have r4:W.cell? ⟨w.heap.size+1+1,0,none⟩=some (.bool false):=(by simp [World.cell?,f.b2]);have V:W.frozen? ⟨w.heap.size+1,0,none⟩=false:=(by simp [World.frozen?,f.b1]);have X:W.frozen? ⟨w.heap.size+1,1,none⟩=false:=(by simp [World.frozen?,f.b1]);have Y:W.frozen? ⟨w.heap.size+1,2,none⟩=false:=(by simp [World.frozen?,f.b1]);have f4:W.frozen? ⟨w.heap.size+1+1,0,none⟩=false:=(by simp [World.frozen?,f.b2])
    have B:Hid (atK (Z.map (·.1)) rev=((0,0,0),false)):=by
     obtain ⟨E,x,rfl,h0,C,O,P⟩:=U.out;refine H_ ?_;unfold atK;rw [zpk J hS h0 C];simp only;rw [if_pos ⟨O,P⟩]
    gi_wp2
    exact zks n w _ D rev (0,0,0) false _ rfl rfl (f.store rfl 0 0 0 false) (zmv F (by omega) _ _ _ _) (by omega) _ fun W' hb=>⟨by rw [B.out],hb⟩
  | ret =>
    obtain ⟨E,x,rfl,h0,C,hn,f⟩:=Q
    have B:Hid (atK (Z.map (·.1)) rev=((x.1.2.1.create,x.1.2.1.puts[upTo x.1.2.1.puts rev-1]?.getD 0,x.1.2.1.cut+upTo x.1.2.1.puts rev),true)):=by
     refine H_ ?_;unfold atK;rw [zpk J hS h0 C];simp only;rw [if_neg hn]
    gi_wp2
    exact zks n w _ D rev _ true _ rfl rfl f F (by omega) _ fun W' hb=>⟨by rw [B.out],hb⟩
  | _=>exact Q.elim
def zhy (s:(Int×Int×Int)×Bool):Value:=.tuple #[.agg (seenV s.1).toArray,.bool s.2]
theorem zpm (w:World) (g:Nat) (K:List Gen) (last rev:Int) (F:Nat->Prop) (h:KeyAt w g K last F) (hK:Fits K) :
 Calls Tryz.prog 93 #[.pointer (some ⟨g,0,none⟩),.int .i64 rev] w fun e w'=>e=.returned (zhy (atK K rev))/\Fr No w w':=by
 obtain ⟨a,Z,h,rfl,hF⟩:=h;refine (callsIn_wide.1 (At_in 6 (by omega) w g a Z last rev h (by simpa using hK.1) fun x hx=>hK.2 x.1 (List.mem_map.2 ⟨x,hx,rfl⟩))).mono ?_;rintro e w' ⟨c,b⟩;exact ⟨c,Fr.of_below b⟩
open Go Go.Proofs Go.RowKit
structure Kv where
 key:ByteArray
 value:ByteArray
 create:Int
 mod:Int
 version:Int
 lease:Int
def kv0:Kv:=⟨ByteArray.empty,ByteArray.empty,0,0,0,0⟩
def kvC (x:Kv):List Value:=[.string x.key,.string x.value,.int .i64 x.create,.int .i64 x.mod,.int .i64 x.version,.int .i64 x.lease]
def kvV (x:Kv):Value:=.agg #[.string x.key,.string x.value,.int .i64 x.create,.int .i64 x.mod,.int .i64 x.version,.int .i64 x.lease]
theorem zar (x:Kv):(kvC x).length=6:=rfl
structure Ev where
 kind:Int
 kv:Kv
 prev:Kv
def evC (x:Ev):List Value:=.int .i64 x.kind :: (kvC x.kv++kvC x.prev)
theorem zaa (x:Ev):(evC x).length=13:=rfl
def evV (x:Ev):Value:=.agg #[.int .i64 x.kind,.string x.kv.key,.string x.kv.value,.int .i64 x.kv.create,.int .i64 x.kv.mod,.int .i64 x.kv.version,.int .i64 x.kv.lease,.string x.prev.key,.string x.prev.value,.int .i64 x.prev.create,.int .i64 x.prev.mod,.int .i64 x.prev.version,.int .i64 x.prev.lease]
structure Hist where
 gens:List Gen
 last:Int
 kvs:Int->Option Kv
def hadH (H:Hist) (rev:Int):Kv×Bool:=((H.kvs (atK H.gens rev).1.2.1).getD kv0,(atK H.gens rev).2)
def top:Int:=1099511627776
structure HistOk (n:Nat) (H:Hist):Prop where
 len:H.gens.length<=n
 puts:∀ x∈H.gens,x.puts.length<=n/\0<=x.cut/\x.cut<=top/\(∀ p∈x.puts,1<=p/\p<=top)
theorem HistOk.fits {n:Nat} {H:Hist} (h:HistOk n H) (hn:n<=1099511627):Fits H.gens :=
 ⟨Nat.le_trans h.len hn,fun x hx=>⟨Nat.le_trans (h.puts x hx).1 hn,(h.puts x hx).2.1,(h.puts x hx).2.2.1⟩⟩
theorem wf64 {a:Int} (h0 : -9223372036854775808<=a) (h1:a<=9223372036854775807):(Lit.int .i64 a).wf=true:=by
 simp [Lit.wf,IntKind.min,IntKind.max,IntKind.signed,IntKind.bits];omega
theorem HistOk.wf {n:Nat} {H:Hist} (h:HistOk n H) (rev:Int):(Lit.int .i64 (atK H.gens rev).1.2.1).wf=true:=by
 have key:0<=(atK H.gens rev).1.2.1/\(atK H.gens rev).1.2.1<=top:=by
  unfold atK
  split
  · simp [top]
  rename_i x hx
  have a:=List.mem_of_find?_eq_some hx;rw [List.mem_reverse] at a
  split
  · simp [top]
  dsimp only
  cases hp:x.puts[upTo x.puts rev-1]? with
  | none=>simp [top]
  | some p =>
    have:=(h.puts x a).2.2.2 p (List.mem_of_getElem? hp);simp;omega
 unfold top at key;exact wf64 (by omega) (by omega)
structure HistR (w:World) (h g m:Nat) (FK:Nat->Prop) (H:Hist):Prop where
 obj:Has w h [.pointer (some ⟨g,0,none⟩),.map (some m)]
 key:KeyAt w g H.gens H.last FK
 map:MapAt w m fun r=>(H.kvs r).map kvV
 d1:¬ FK h
 d2:¬ FK m
def HistAt (w:World) (h:Nat) (H:Hist) (F:Nat->Prop):Prop:=∃ g m FK,HistR w h g m FK H/\∀ b,F b↔(b=h\/b=m\/FK b)
theorem HistAt.lt {w:World} {h:Nat} {H:Hist} {F:Nat->Prop} (a:HistAt w h H F):∀ b,F b->b<w.heap.size:=by
 obtain ⟨g,m,d,a,hF⟩:=a;intro b c;rcases (hF b).1 c with rfl | rfl | e
 · exact a.obj.lt
 · exact a.map.lt
 exact a.key.lt b e
theorem HistR.fr {w w':World} {h g m:Nat} {H:Hist} {FK S:Nat->Prop} (a:HistR w h g m FK H) (hf:Fr S w w') (h1:¬ S h) (h2:¬ S m) (h3:∀ b,FK b->¬ S b):HistR w' h g m FK H :=
 ⟨a.obj.fr hf h1,a.key.fr hf h3,a.map.fr hf h2,a.d1,a.d2⟩
theorem HistAt.fr {w w':World} {h:Nat} {H:Hist} {F S:Nat->Prop} (a:HistAt w h H F) (hf:Fr S w w') (hn:∀ b,F b->¬ S b):HistAt w' h H F:=by
 obtain ⟨g,m,c,a,hF⟩:=a;exact ⟨g,m,c,a.fr hf (hn _ ((hF _).2 (.inl rfl))) (hn _ ((hF _).2 (.inr (.inl rfl)))) (fun b hb=>hn b ((hF b).2 (.inr (.inr hb)))),hF⟩
structure St where
 T:Pairs
 past:Int->Option Hist
 next:Int
 rev:Int
 mark:Int
 events:List Ev
structure StOk (n:Nat) (S:St):Prop where
 pos:0<=S.next
 next:S.next<=n
 id:∀ p∈S.T,∃ H,S.past p.2=some H
 ids:∀ i H,S.past i=some H->0<=i/\i<S.next
 hist:∀ i H,S.past i=some H->HistOk n H/\H.last<=top
 rev0 : -top<=S.rev
 rev1:S.rev<=top
 mark0:0<=S.mark
 ev:S.events.length<=n
structure StoreR (TA:zai) (w:World) (s t p:Nat) (ev:Value) (hp:Int->Option Nat) (FT:Nat->Prop) (FH:Int->Nat->Prop) (S:St):Prop where
 obj:Has w s [.pointer (some ⟨t,0,none⟩),.map (some p),.int .i64 S.next,.int .i64 S.rev,.int .i64 S.mark,ev]
 tree:TA w t S.T FT
 map:MapAt w p fun i=>(hp i).map fun h=>.pointer (some ⟨h,0,none⟩)
 events:SlF w 72 13 evC ev S.events
 hist:∀ i H,S.past i=some H->∃ h,hp i=some h/\HistAt w h H (FH i)
 gone:∀ i,S.past i=none->hp i=none/\∀ b,¬ FH i b
 ds:¬ FT s/\ev.ownBlock≠some s/\∀ i,¬ FH i s
 dp:¬ FT p/\ev.ownBlock≠some p/\∀ i,¬ FH i p
 dt:∀ b,FT b->ev.ownBlock≠some b/\∀ i,¬ FH i b
 de:∀ b,ev.ownBlock=some b->∀ i,¬ FH i b
 dh:∀ i j b,FH i b->FH j b->i=j
def storeF (s p:Nat) (ev:Value) (FT:Nat->Prop) (FH:Int->Nat->Prop) (b:Nat):Prop:=b=s\/b=p\/FT b\/ev.ownBlock=some b\/∃ i,FH i b
def zal (TA:zai) (w:World) (s:Nat) (S:St) (F:Nat->Prop):Prop :=
 ∃ t p ev hp FT FH,StoreR TA w s t p ev hp FT FH S/\∀ b,F b↔storeF s p ev FT FH b
section
variable {TA:zai} {N:Nat} (hT:TreeOk TA N)
include hT
theorem StoreR.fr {w w':World} {s t p:Nat} {ev:Value} {hp:Int->Option Nat} {FT:Nat->Prop} {FH:Int->Nat->Prop} {S:St} {X:Nat->Prop} (a:StoreR TA w s t p ev hp FT FH S) (hf:Fr X w w')
 (hn:∀ b,storeF s p ev FT FH b->¬ X b):StoreR TA w' s t p ev hp FT FH S where
 obj:=a.obj.fr hf (hn _ (.inl rfl))
 tree:=hT.fr a.tree hf fun b hb=>hn b (.inr (.inr (.inl hb)))
 map:=a.map.fr hf (hn _ (.inr (.inl rfl)))
 events:=a.events.fr hf fun b hb=>hn b (.inr (.inr (.inr (.inl hb))))
 hist i H hi:=by
  obtain ⟨h,c,d⟩:=a.hist i H hi;exact ⟨h,c,d.fr hf fun b hb=>hn b (.inr (.inr (.inr (.inr ⟨i,hb⟩))))⟩
 gone:=a.gone
 ds:=a.ds
 dp:=a.dp
 dt:=a.dt
 de:=a.de
 dh:=a.dh
theorem StoreR.lt {w:World} {s t p:Nat} {ev:Value} {hp:Int->Option Nat} {FT:Nat->Prop} {FH:Int->Nat->Prop} {S:St} (a:StoreR TA w s t p ev hp FT FH S):∀ b,storeF s p ev FT FH b->b<w.heap.size:=by
 rintro b (rfl | rfl | e | e | ⟨i,e⟩)
 · exact a.obj.lt
 · exact a.map.lt
 · exact hT.lt a.tree b e
 · exact a.events.lt b e
 cases h:S.past i with
 | none=>exact absurd e ((a.gone i h).2 b)
 | some H =>
   obtain ⟨h,_,c⟩:=a.hist i H h;exact c.lt b e
theorem zal.fr {w w':World} {s:Nat} {S:St} {F X:Nat->Prop} (a:zal TA w s S F) (hf:Fr X w w') (hn:∀ b,F b->¬ X b):zal TA w' s S F:=by
 obtain ⟨t,p,e,f,d,c,a,hF⟩:=a;exact ⟨t,p,e,f,d,c,a.fr hT hf (fun b hb=>hn b ((hF b).2 hb)),hF⟩
theorem zal.fr0 {w w':World} {s:Nat} {S:St} {F:Nat->Prop} (a:zal TA w s S F) (hf:Fr No w w'):zal TA w' s S F:=a.fr hT hf fun _ _ s=>s
theorem zal.lt {w:World} {s:Nat} {S:St} {F:Nat->Prop} (a:zal TA w s S F):∀ b,F b->b<w.heap.size:=by
 obtain ⟨t,p,e,f,d,c,a,hF⟩:=a;exact fun b hb=>a.lt hT b ((hF b).1 hb)
end
def zco (r:Kv×Bool):Value:=.tuple #[kvV r.1,.bool r.2]
theorem zero57 (w:World):(zeroValue 70).run Tryz.prog w=.ok (kvV kv0) w:=by kernel_rfl
theorem zero142 (w:World):(zeroValue 150).run Tryz.prog w=.ok (.pointer none) w:=by kernel_rfl
section
variable {TA:zai} {N:Nat} (hT:TreeOk TA N) {w w':World} {s t p:Nat} {ev:Value} {hp:Int->Option Nat} {FT:Nat->Prop} {FH:Int->Nat->Prop} {S:St}
include hT
theorem StoreR.setObj (a:StoreR TA w s t p ev hp FT FH S) (hf:Fr (fun b=>b=s) w w') (n' r' m':Int) (ho:Has w' s [.pointer (some ⟨t,0,none⟩),.map (some p),.int .i64 n',.int .i64 r',.int .i64 m',ev]) :
 StoreR TA w' s t p ev hp FT FH { S with next:=n',rev:=r',mark:=m' } where
 obj:=ho
 tree:=hT.fr a.tree hf fun b hb e=>a.ds.1 (e▸hb)
 map:=a.map.fr hf fun e=>a.map.apart a.obj e
 events:=a.events.fr hf fun b hb e=>a.ds.2.1 (e▸hb)
 hist i H hi:=by
  obtain ⟨h,c,d⟩:=a.hist i H hi;exact ⟨h,c,d.fr hf fun b hb e=>a.ds.2.2 i (e▸hb)⟩
 gone:=a.gone
 ds:=a.ds
 dp:=a.dp
 dt:=a.dt
 de:=a.de
 dh:=a.dh
theorem StoreR.setTree (a:StoreR TA w s t p ev hp FT FH S) (hf:Fr FT w w') {T':Pairs} {FT':Nat->Prop} (ht:TA w' t T' FT') (hn:∀ b,FT' b->FT b\/w.heap.size<=b) :
 StoreR TA w' s t p ev hp FT' FH { S with T:=T' } where
 obj:=a.obj.fr hf a.ds.1
 tree:=ht
 map:=a.map.fr hf a.dp.1
 events:=a.events.fr hf fun b hb e=>(a.dt b e).1 hb
 hist i H hi:=by
  obtain ⟨h,c,d⟩:=a.hist i H hi;exact ⟨h,c,d.fr hf fun b hb e=>(a.dt b e).2 i hb⟩
 gone:=a.gone
 ds:=⟨fun e=>by rcases hn _ e with h | h
                · exact a.ds.1 h
                have:=a.obj.lt;omega,a.ds.2⟩
 dp:=⟨fun e=>by rcases hn _ e with h | h
                · exact a.dp.1 h
                have:=a.map.lt;omega,a.dp.2⟩
 dt b hb:=by
  rcases hn _ hb with h | h
  · exact a.dt b h
  exact ⟨fun e=>by have:=a.events.lt b e;omega,fun i hi=>by have:=a.lt hT b (.inr (.inr (.inr (.inr ⟨i,hi⟩))));omega⟩
 de:=a.de
 dh:=a.dh
theorem StoreR.setHist (a:StoreR TA w s t p ev hp FT FH S) {id:Int} {h:Nat} {H':Hist} {F':Nat->Prop} (hid:hp id=some h) (hf:Fr (FH id) w w') (hh:HistAt w' h H' F') (hn:∀ b,F' b->FH id b\/w.heap.size<=b) :
 StoreR TA w' s t p ev hp FT (fun i=>if i=id then F' else FH i) { S with past:=fun i=>if i=id then some H' else S.past i } where
 obj:=a.obj.fr hf (a.ds.2.2 id)
 tree:=hT.fr a.tree hf fun b hb e=>(a.dt b hb).2 id e
 map:=a.map.fr hf (a.dp.2.2 id)
 events:=a.events.fr hf fun b hb e=>a.de b hb id e
 hist i H hi:=by
  dsimp only at hi;by_cases hi':i=id
  · subst hi'
    rw [if_pos rfl] at hi;cases hi
    exact ⟨h,hid,by rw [if_pos rfl];exact hh⟩
  rw [if_neg hi'] at hi
  obtain ⟨c,d,f⟩:=a.hist i H hi;exact ⟨c,d,by rw [if_neg hi'];exact f.fr hf fun b hb e=>hi' (a.dh i id b hb e)⟩
 gone i hi:=by
  dsimp only at hi;by_cases hi':i=id
  · rw [if_pos hi'] at hi;cases hi
  rw [if_neg hi'] at hi
  exact ⟨(a.gone i hi).1,by rw [if_neg hi'];exact (a.gone i hi).2⟩
 ds:=⟨a.ds.1,a.ds.2.1,fun i e=>by
  by_cases hi':i=id
  · rw [if_pos hi'] at e
    rcases hn _ e with h | h
    · exact a.ds.2.2 _ h
    have:=a.obj.lt;omega
  rw [if_neg hi'] at e;exact a.ds.2.2 i e⟩
 dp:=⟨a.dp.1,a.dp.2.1,fun i e=>by
  by_cases hi':i=id
  · rw [if_pos hi'] at e
    rcases hn _ e with h | h
    · exact a.dp.2.2 _ h
    have:=a.map.lt;omega
  rw [if_neg hi'] at e;exact a.dp.2.2 i e⟩
 dt b hb:=⟨(a.dt b hb).1,fun i e=>by
  by_cases hi':i=id
  · rw [if_pos hi'] at e
    rcases hn _ e with h | h
    · exact (a.dt b hb).2 _ h
    have:=hT.lt a.tree b hb;omega
  rw [if_neg hi'] at e;exact (a.dt b hb).2 i e⟩
 de b hb i e:=by
  by_cases hi':i=id
  · rw [if_pos hi'] at e
    rcases hn _ e with h | h
    · exact a.de b hb _ h
    have:=a.events.lt b hb;omega
  rw [if_neg hi'] at e;exact a.de b hb i e
 dh i j b hi hj:=by
  by_cases hi':i=id <;> by_cases hj':j=id
  · rw [hi',hj']
  · rw [if_pos hi'] at hi;rw [if_neg hj'] at hj
    rcases hn _ hi with h | h
    · rw [hi'];exact a.dh id j b h hj
    have:=a.lt hT b (.inr (.inr (.inr (.inr ⟨j,hj⟩))));omega
  · rw [if_neg hi'] at hi;rw [if_pos hj'] at hj
    rcases hn _ hj with h | h
    · rw [hj'];exact a.dh i id b hi h
    have:=a.lt hT b (.inr (.inr (.inr (.inr ⟨i,hi⟩))));omega
  rw [if_neg hi'] at hi;rw [if_neg hj'] at hj
  exact a.dh i j b hi hj
theorem StoreR.addHist (a:StoreR TA w s t p ev hp FT FH S) {id:Int} {h B:Nat} {H':Hist} {F':Nat->Prop} (hid:S.past id=none) (hf:Fr (fun b=>b=p) w w')
 (hm:MapAt w' p fun i=>if i=id then some (.pointer (some ⟨h,0,none⟩)) else (hp i).map fun h=>.pointer (some ⟨h,0,none⟩))
 (hB:∀ b,storeF s p ev FT FH b->b<B) (hh:HistAt w' h H' F') (hn:∀ b,F' b->B<=b) :
 StoreR TA w' s t p ev (fun i=>if i=id then some h else hp i) FT (fun i=>if i=id then F' else FH i) { S with past:=fun i=>if i=id then some H' else S.past i } where
 obj:=a.obj.fr hf fun e=>a.map.apart a.obj e.symm
 tree:=hT.fr a.tree hf fun b hb e=>a.dp.1 (e▸hb)
 map:=by
  refine cast (congrArg (MapAt w' p) ?_) hm
  funext i
  by_cases hi:i=id <;> simp [hi]
 events:=a.events.fr hf fun b hb e=>a.dp.2.1 (e▸hb)
 hist i H hi:=by
  dsimp only at hi;by_cases hi':i=id
  · subst hi'
    rw [if_pos rfl] at hi;cases hi
    exact ⟨h,if_pos rfl,by rw [if_pos rfl];exact hh⟩
  rw [if_neg hi'] at hi
  obtain ⟨c,d,f⟩:=a.hist i H hi;exact ⟨c,by rw [if_neg hi'];exact d,by rw [if_neg hi'];exact f.fr hf fun b hb e=>a.dp.2.2 i (e▸hb)⟩
 gone i hi:=by
  dsimp only at hi;by_cases hi':i=id
  · rw [if_pos hi'] at hi;cases hi
  rw [if_neg hi'] at hi
  exact ⟨by rw [if_neg hi'];exact (a.gone i hi).1,by rw [if_neg hi'];exact (a.gone i hi).2⟩
 ds:=⟨a.ds.1,a.ds.2.1,fun i e=>by
  by_cases hi':i=id
  · rw [if_pos hi'] at e
    have:=hn _ e;have:=hB s (.inl rfl);omega
  rw [if_neg hi'] at e;exact a.ds.2.2 i e⟩
 dp:=⟨a.dp.1,a.dp.2.1,fun i e=>by
  by_cases hi':i=id
  · rw [if_pos hi'] at e
    have:=hn _ e;have:=hB p (.inr (.inl rfl));omega
  rw [if_neg hi'] at e;exact a.dp.2.2 i e⟩
 dt b hb:=⟨(a.dt b hb).1,fun i e=>by
  by_cases hi':i=id
  · rw [if_pos hi'] at e
    have:=hn _ e;have:=hB b (.inr (.inr (.inl hb)));omega
  rw [if_neg hi'] at e;exact (a.dt b hb).2 i e⟩
 de b hb i e:=by
  by_cases hi':i=id
  · rw [if_pos hi'] at e
    have:=hn _ e;have:=hB b (.inr (.inr (.inr (.inl hb))));omega
  rw [if_neg hi'] at e;exact a.de b hb i e
 dh i j b hi hj:=by
  by_cases hi':i=id <;> by_cases hj':j=id
  · rw [hi',hj']
  · rw [if_pos hi'] at hi;rw [if_neg hj'] at hj
    have:=hn _ hi;have:=hB b (.inr (.inr (.inr (.inr ⟨j,hj⟩))));omega
  · rw [if_neg hi'] at hi;rw [if_pos hj'] at hj
    have:=hn _ hj;have:=hB b (.inr (.inr (.inr (.inr ⟨i,hi⟩))));omega
  rw [if_neg hi'] at hi;rw [if_neg hj'] at hj
  exact a.dh i j b hi hj
theorem StoreR.setEvents (a:StoreR TA w s t p ev hp FT FH S) {ev':Value} {E':List Ev} (hf:Fr (fun b=>b=s\/ev.ownBlock=some b) w w')
 (ho:Has w' s [.pointer (some ⟨t,0,none⟩),.map (some p),.int .i64 S.next,.int .i64 S.rev,.int .i64 S.mark,ev']) (he:SlF w' 72 13 evC ev' E') (hn:∀ b,ev'.ownBlock=some b->ev.ownBlock=some b\/w.heap.size<=b) :
 StoreR TA w' s t p ev' hp FT FH { S with events:=E' } where
 obj:=ho
 tree:=hT.fr a.tree hf fun b hb e=>by
  rcases e with e | e
  · exact a.ds.1 (e▸hb)
  exact (a.dt b hb).1 e
 map:=a.map.fr hf fun e=>by
  rcases e with e | e
  · exact a.map.apart a.obj e
  exact a.dp.2.1 e
 events:=he
 hist i H hi:=by
  obtain ⟨h,c,d⟩:=a.hist i H hi;refine ⟨h,c,d.fr hf fun b hb e=>?_⟩;rcases e with e | e
  · exact a.ds.2.2 i (e▸hb)
  exact a.de b e i hb
 gone:=a.gone
 ds:=⟨a.ds.1,fun e=>by rcases hn _ e with h | h
                       · exact a.ds.2.1 h
                       have:=a.obj.lt;omega,a.ds.2.2⟩
 dp:=⟨a.dp.1,fun e=>by rcases hn _ e with h | h
                       · exact a.dp.2.1 h
                       have:=a.map.lt;omega,a.dp.2.2⟩
 dt b hb:=⟨fun e=>by rcases hn _ e with h | h
                     · exact (a.dt b hb).1 h
                     have:=hT.lt a.tree b hb;omega,(a.dt b hb).2⟩
 de b hb i hi:=by
  rcases hn _ hb with h | h
  · exact a.de b h i hi
  have:=a.lt hT b (.inr (.inr (.inr (.inr ⟨i,hi⟩))));omega
 dh:=a.dh
end
end Go.Proofs.YtdgkdfmfoonbpaaGreat