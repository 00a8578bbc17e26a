/- Own lemmas. -/
import Derived.Test.YthljnnjpmdgkoaaGreatI12
import Derived.Test.YthljnnjpmdgkoaaGreatI10
import Derived.Test.YthljnnjpmdgkoaaGreatI11
import Derived.Test.YthljnnjpmdgkoaaGreatI09
import Derived.RangeFuncNested
import Derived.RangeFuncBound
import Derived.RangeFuncCalls
import Derived.RangeFuncLeaves
import Derived.RangeFuncBox
import Derived.RangeFuncWrites
import Derived.Shelf.Abstract
import Derived.OwnWalkIn
import Derived.TacticsInMore
import Derived.LoopNIn
import Derived.LoopIn
import Derived.Deep.RegionHeld
namespace Go.Proofs.YthljnnjpmdgkoaaGreat
open Go Go.Proofs Go.RowKit Go.Shelf
set_option maxRecDepth 100000
attribute [local go_sem] Oper.semAt_some
abbrev BElt (Z:List (Gen×Value)):={ x:Nat×(Gen×Value) // Z[x.1]?=some x.2 }
def bEnc (Z:List (Gen×Value)) (x:BElt Z):Array Value:=#[.int .i64 (x.1.1:Int),.agg #[.int .i64 x.1.2.1.create,.int .i64 x.1.2.1.cut,x.1.2.2,.int .i64 x.1.2.1.end_]]
def isBack (Z:List (Gen×Value)) (k:Nat) (pre:List (BElt Z)):Prop:=pre.map (fun x=>x.1.1)=(List.range k).map fun j=>Z.length-1-j
theorem isBack.snoc {Z:List (Gen×Value)} {k:Nat} {pre:List (BElt Z)} (h:isBack Z k pre) (x:BElt Z) (hx:x.1.1=Z.length-1-k):isBack Z (k+1) (pre++[x]):=by
 unfold isBack at *;rw [List.map_append,h,List.range_succ,List.map_append];simp [hx]
theorem isBack.length {Z:List (Gen×Value)} {k:Nat} {pre:List (BElt Z)} (h:isBack Z k pre):pre.length=k:=by
 have:=congrArg List.length h;simpa using this
theorem zzaa (F:Fence) (n:Nat) (h7:F.fn 174) (hro:F.round=none) (hn:1<=n) (l Bs n₀:Nat) (gv:Value) (Z:List (Gen×Value)) (hZ:Z.length<=1099511627776)
 (J Jx:List (BElt Z)->World->Prop)
 (hY:∀ pre x W,J pre W->pre.length<Z.length->YieldAt F (n-1) Tryz.prog l (bEnc Z x) W fun e W' =>
   (e=.returned (.bool true)/\J (pre++[x]) W'/\Below n₀ W W')\/(e=.returned (.bool false)/\Jx (pre++[x]) W'))
 (W:World) (hBs:W.cell? ⟨Bs,0,none⟩=some gv) (hBn:Bs<n₀) (hg:SlF W 223 4 genC gv Z) (hgn:∀ b,gv.ownBlock=some b->b<n₀) (h0:J [] W) :
 CallsIn F n Tryz.prog 174 #[.func (.yield l) #[] #[],.pointer (some ⟨Bs,0,none⟩)] W fun e W'=>(∃ v,e=.returned v) ∧
  ((∃ ys,isBack Z Z.length ys/\J ys W')\/(∃ pre,(∃ k,k<=Z.length/\isBack Z k pre)/\Jx pre W')):=by
 obtain ⟨a,cap,rfl,N,O,C⟩:=hg.shape;have H:=H_ hg;clear hg;have G:=H_ C;clear C;have I:=H_ hgn;clear hgn;refine callsIn_of_wp Tryz.func174 rfl h7 ?_ hro;simp only [Tryz.ntmps174,List.size_toArray,List.length_cons,List.length_nil,Nat.reduceAdd,Nat.reduceSub,Array.replicate_succ,Array.replicate_zero,List.push_toArray,List.append_toArray,List.nil_append,List.cons_append]
 gi_wp2
 gi_loopw [3] (fun i wr=>∃ (m:Nat) (pre:List (BElt Z)),i=.int .i64 ((m:Int)-1)/\m<=Z.length/\isBack Z (Z.length-m) pre/\J pre wr/\Below n₀ W wr)
  (fun i _=>(intOf i+1).toNat)
 case atStart=>exact ⟨Z.length,[],rfl,Nat.le_refl _,by simp [isBack],h0,Below.refl _ _⟩
 case round =>
  obtain ⟨m,pre,u,X,s,j,f⟩:=hrel;have L:=(f.cell (p:=⟨Bs,0,none⟩) hBn).trans hBs
  cases m with
  | zero =>
    subst u
    gi_wp2
    go_end0
    exact ⟨⟨_,rfl⟩,.inl ⟨pre,s,j⟩⟩
  | succ m =>
    obtain ⟨K,go,rfl⟩:=G.out (by omega);have w:u3=.int .i64 (m:Int):=(by rw [u];congr 1;omega);clear u;subst w;obtain ⟨g,d⟩:∃ g:BElt Z,g.1.1=m:=⟨⟨(m,Z[m]'(by omega)),List.getElem?_eq_getElem (by omega)⟩,rfl⟩;have q:Z[m]?=some g.1.2:=d▸g.2;obtain ⟨V,E,r,B,D,M⟩:=hY pre g wr j (by rw [s.length];omega);have c:SlF wr 223 4 genC (.slice (some ⟨K,go,none⟩) Z.length cap) Z:=Sl.keep H.out fun k hk=>f.block k (I.out k hk);have R:=c.cell0 zan m q rfl;have S:=c.cell zan m 1 q rfl;have T:=c.cell zan m 2 q rfl;have U:=c.cell zan m 3 q rfl;dsimp only [bEnc] at D;rw [d] at D;have z:=H_ s;clear s;have A:=H_ d;clear q d;clear c;have P:(m:Int)<(Z.length:Int):=(by omega)
    gi_wp2
    refine M.mono ?_;rintro e Q (⟨rfl,t,y⟩ | ⟨rfl,o⟩)
    · gi_wp2
      go_roundw
      case rel=>exact ⟨m,_,rfl,by omega,by have:=z.out.snoc g (by rw [A.out];omega);rwa [show Z.length-(m+1)+1=Z.length-m from by omega] at this,t,f.trans y⟩
      case measure=>simp [intOf]
    gi_wp2
    refine bodyPost_ret (results_none rfl _ _ _) rfl ?_;exact ⟨⟨_,rfl⟩,.inr ⟨_,⟨Z.length-(m+1)+1,by omega,z.out.snoc g (by rw [A.out];omega)⟩,o⟩⟩
theorem zvd (F:Fence) (n:Nat) (h7:F.fn 174) (hro:F.round=none) (hn:1<=n) (Bs n₀:Nat) (gv:Value) (Z:List (Gen×Value)) (hZ:Z.length<=1099511627776) (w:World) (hBs:w.cell? ⟨Bs,0,none⟩=some gv) (hBn:Bs<n₀) (hn₀:n₀<=w.heap.size)
 (hg:SlF w 223 4 genC gv Z) (hgn:∀ b,gv.ownBlock=some b->b<n₀) :
 SeqStopsK F n Tryz.prog 174 #[.pointer (some ⟨Bs,0,none⟩)] (bEnc Z) (Below n₀) (fun ys=>isBack Z Z.length ys) (fun pre=>∃ k,k<=Z.length/\isBack Z k pre) Z.length w:=fun l J Jx W hW _ _ hY h0 =>
 zzaa F n h7 hro hn l Bs n₀ gv Z hZ J Jx hY W ((hW.cell (p:=⟨Bs,0,none⟩) (by show Bs<_;omega)).trans hBs) hBn (Sl.keep hg fun k hk=>hW.block k (by have:=hgn k hk;omega)) hgn h0
theorem zmc (a:Option Addr) (len cap:Nat) (w:World) :
 Calls Tryz.prog 154 #[.slice a len cap] w fun e w'=>e=.returned (.func (.func 174) #[] #[.pointer (some ⟨w.heap.size,0,none⟩)])/\w.alloc (.cells #[.slice a len cap] 220)=w':=by
 have b:∀ (fn:Fn) (first cap:Array Value) (w:World),(Instr.makeFunc fn first cap).run Tryz.prog w=.ok (.func fn first cap) w:=fun _ _ _ _=>rfl;go_enter Tryz.func154,Tryz.ntmps154;go_wp2;go_ret;exact ⟨rfl,rfl⟩
def atK (K:List Gen) (rev:Int):(Int×Int×Int)×Bool :=
 match K.reverse.find? fun x=>upTo x.puts rev != 0 with
 | none=>((0,0,0),false)
 | some x=>if 0<x.end_/\x.end_<=rev then ((0,0,0),false) else ((x.create,x.puts[upTo x.puts rev-1]?.getD 0,x.cut+upTo x.puts rev),true)
def seenV (s:Int×Int×Int):List Value:=[.int .i64 s.1,.int .i64 s.2.1,.int .i64 s.2.2]
theorem KeepsFrom.of_fr {B:Nat} {W W':World} (h:Fr No W W'):KeepsFrom B W W':=⟨h.size,fun _ _ _ hk _=>h.heap hk fun s=>s⟩
structure AtI (w:World) (rev:Int) (s:List Value) (b:Bool) (W:World):Prop where
 b0:W.heap[w.heap.size]?=some (.cells #[Value.int .i64 rev] 3 (0,0))
 b1:W.heap[w.heap.size+1]?=some (.cells s.toArray 190 (0,0))
 b2:W.heap[w.heap.size+1+1]?=some (.cells #[Value.bool b] 4 (0,0))
 below:Below w.heap.size w W
theorem AtI.own {w:World} {rev:Int} {s:List Value} {b:Bool} {W W':World} {row:Option Nat} (h:AtI w rev s b W) (hg:W.grownBy W' row) (hr:∀ r,row=some r->w.heap.size<=r/\∃ o:Obj,W.heap[r]?=some o/\o.isCells=false):AtI w rev s b W':=by
 have key:∀ (k:Nat) (c:Array Value) (e:TypeId),W.heap[k]?=some (.cells c e (0,0))->W'.heap[k]?=some (.cells c e (0,0)):=fun k c e hk =>
  (hg.block k (zab hk) fun e'=>by obtain ⟨_,o,a,d⟩:=hr k e'.symm;rw [hk] at a;cases a;cases d).trans hk
 exact ⟨key _ _ _ h.b0,key _ _ _ h.b1,key _ _ _ h.b2,h.below.grown hg h.below.size fun k hk=>(hr k hk).1⟩
theorem AtI.fr {w:World} {rev:Int} {s:List Value} {b:Bool} {W W':World} (h:AtI w rev s b W) (hf:Fr No W W'):AtI w rev s b W' :=
 ⟨hf.heap h.b0 id,hf.heap h.b1 id,hf.heap h.b2 id,h.below.trans (hf.below0.mono h.below.size)⟩
def AtIx (w:World) (Z:List (Gen×Value)) (rev:Int) (c:Code) (pre:List (BElt Z)) (W:World):Prop :=
 match c with
 | .exit id=>id=0/\AtI w rev (seenV (0,0,0)) false W/\Hid (∃ pre' x,pre=pre'++[x]/\(∀ y∈pre',upTo y.1.2.1.puts rev=0)/\upTo x.1.2.1.puts rev≠0/\0<x.1.2.1.end_/\x.1.2.1.end_<=rev)
 | .ret=>∃ pre' x,pre=pre'++[x]/\(∀ y∈pre',upTo y.1.2.1.puts rev=0)/\upTo x.1.2.1.puts rev≠0/\¬ (0<x.1.2.1.end_/\x.1.2.1.end_<=rev) ∧
    AtI w rev (seenV (x.1.2.1.create,x.1.2.1.puts[upTo x.1.2.1.puts rev-1]?.getD 0,x.1.2.1.cut+upTo x.1.2.1.puts rev)) true W
 | _=>False
theorem AtI.store {w:World} {rev:Int} {s0:List Value} {b0:Bool} {W:World} (h:AtI w rev s0 b0 W) (h3:s0.length=3) (x y z:Int) (b:Bool) :
 AtI w rev (seenV (x,y,z)) b ((((W.setCell ⟨w.heap.size+1,0,none⟩ (.int .i64 x)).setCell ⟨w.heap.size+1,1,none⟩ (.int .i64 y)).setCell ⟨w.heap.size+1,2,none⟩ (.int .i64 z)).setCell ⟨w.heap.size+1+1,0,none⟩ (.bool b)):=by
 match s0,h3 with
 | [u0,u1,u2],_ =>
   refine ⟨?_,?_,?_,?_⟩
   · rw [Below.heap_setCell _ _ _ _ (by simp;omega),Below.heap_setCell _ _ _ _ (by simp),Below.heap_setCell _ _ _ _ (by simp),Below.heap_setCell _ _ _ _ (by simp)]
     exact h.b0
   · rw [Below.heap_setCell _ _ _ _ (by simp)]
     have d:=zaa h.b1 0 (.int .i64 x);have f:=zaa d 1 (.int .i64 y);have g:=zaa f 2 (.int .i64 z);rw [g];simp [seenV]
   · refine (zaa (c:=#[.bool b0]) (e:=4) (fr:=(0,0)) ?_ 0 (.bool b)).trans (by simp)
     rw [Below.heap_setCell _ _ _ _ (by simp),Below.heap_setCell _ _ _ _ (by simp),Below.heap_setCell _ _ _ _ (by simp)];exact h.b2
   have a:=fun (p:Addr) (hp:w.heap.size<=p.block) (X:World) (hX:Below w.heap.size w X) (u:Value)=>hX.setCell (p:=p) hp u
   exact a _ (by simp;omega) _ (a _ (by simp) _ (a _ (by simp) _ (a _ (by simp) _ h.below _) _) _) _
theorem zqm {w W:World} {D:Nat} {o:Obj} (hK:W.heap[D]?=some o) (hD:w.heap.size+1+1<D) (x y z u:Value) :
 ((((W.setCell ⟨w.heap.size+1,0,none⟩ x).setCell ⟨w.heap.size+1,1,none⟩ y).setCell ⟨w.heap.size+1,2,none⟩ z).setCell ⟨w.heap.size+1+1,0,none⟩ u).heap[D]?=some o:=by
 rw [Below.heap_setCell _ _ _ _ (by simp;omega),Below.heap_setCell _ _ _ _ (by simp;omega),Below.heap_setCell _ _ _ _ (by simp;omega),Below.heap_setCell _ _ _ _ (by simp;omega)];exact hK
theorem isBack.take {Z:List (Gen×Value)} {k:Nat} {pre:List (BElt Z)} (h:isBack Z k pre) (hk:k<=Z.length):pre.map (fun x=>x.1.2)=Z.reverse.take k:=by
 have c:=h.length;apply List.ext_getElem?;intro j;by_cases hj:j<k
 · have a:pre[j]?=some (pre[j]'(by omega)):=List.getElem?_eq_getElem (by omega)
   have b:(pre[j]'(by omega)).1.1=Z.length-1-j:=by
    have:=congrArg (fun l:List Nat=>l[j]?) h;simp only [List.getElem?_map,a,List.getElem?_range hj,Option.map_some,Option.some.injEq] at this;exact this
   rw [List.getElem?_map,a,List.getElem?_take,if_pos hj,List.getElem?_reverse (by omega),<-b,(pre[j]'(by omega)).2]
   rfl
 rw [List.getElem?_eq_none (by simp;omega),List.getElem?_eq_none (by simp;omega)]
theorem zzac {Z:List (Gen×Value)} {rev:Int} {pre:List (BElt Z)} (h:isBack Z Z.length pre) (h0:∀ x∈pre,upTo x.1.2.1.puts rev=0):atK (Z.map (·.1)) rev=((0,0,0),false):=by
 have a:=h.take (Nat.le_refl _);rw [List.take_of_length_le (by simp)] at a
 have c:((Z.map (·.1)).reverse.find? fun x=>upTo x.puts rev != 0)=none:=by
  rw [<-List.map_reverse,<-a,List.find?_eq_none];intro x b;simp only [List.map_map,List.mem_map] at b;obtain ⟨y,d,rfl⟩:=b;simpa using h0 y d
 unfold atK;rw [c]
theorem ztt {Z:List (Gen×Value)} {rev:Int} {pre':List (BElt Z)} {x:BElt Z} {k:Nat} (hk:k<=Z.length) (h:isBack Z k (pre'++[x])) (h0:∀ y∈pre',upTo y.1.2.1.puts rev=0) (hx:upTo x.1.2.1.puts rev≠0) :
 ((Z.map (·.1)).reverse.find? fun x=>upTo x.puts rev != 0)=some x.1.2.1:=by
 have d:=h.take hk;have c:Z.reverse=(pre'++[x]).map (fun x=>x.1.2)++Z.reverse.drop k:=by rw [d,List.take_append_drop]
 rw [<-List.map_reverse,c];rw [List.map_append,List.map_append,List.map_append,List.append_assoc,List.find?_append]
 have b:(((pre'.map fun x=>x.1.2).map fun x=>x.1).find? fun x=>upTo x.puts rev != 0)=none:=by
  rw [List.find?_eq_none];intro y a;simp only [List.map_map,List.mem_map] at a;obtain ⟨y,a,rfl⟩:=a;simpa using h0 y a
 rw [b];simp [hx]
theorem zoa (n:Nat) (w W:World) (D:Nat) (rev:Int) (s:Int×Int×Int) (b:Bool) (tmps:Array Value) (ht4:tmps.getD 4 undef=.pointer (some ⟨w.heap.size+1,0,none⟩)) (ht5:tmps.getD 5 undef=.pointer (some ⟨w.heap.size+1+1,0,none⟩))
 (h:AtI w rev (seenV s) b W) (hK:W.heap[D]?=some (.deferred (some []))) (hD:w.heap.size<=D) (R:Ending->World->Prop) (hR:∀ W',Below w.heap.size w W'->R (.returned (.tuple #[.agg (seenV s).toArray,.bool b])) W') :
 bodyPostM Fence.wide n Tryz.prog Tryz.f115 R .ret ⟨tmps,[{ target:=.collected D,args:=#[] }]⟩ W:=by
 refine ⟨by simp,.inl ⟨_,_,rfl,run_takeDeferred hK,?_⟩⟩;have a:AtI w rev (seenV s) b (W.putObj D (.deferred none)):=h.own (grownBy_putObj' W D _) fun r e=>by cases e;exact ⟨hD,_,hK,rfl⟩
 generalize W.putObj D (.deferred none)=f at a ⊢
 have g:f.cell? ⟨w.heap.size+1,0,none⟩=some (.int .i64 s.1):=by simp [World.cell?,a.b1,seenV]
 have i:f.cell? ⟨w.heap.size+1,1,none⟩=some (.int .i64 s.2.1):=by simp [World.cell?,a.b1,seenV]
 have j:f.cell? ⟨w.heap.size+1,2,none⟩=some (.int .i64 s.2.2):=by simp [World.cell?,a.b1,seenV]
 have k:f.cell? ⟨w.heap.size+1+1,0,none⟩=some (.bool b):=by simp [World.cell?,a.b2]
 refine ⟨.tuple #[.agg (seenV s).toArray,.bool b],?_,hR _ a.below⟩;have c:tmps[4]?.getD undef=.pointer (some ⟨w.heap.size+1,0,none⟩):=by simpa using ht4
 have d:tmps[5]?.getD undef=.pointer (some ⟨w.heap.size+1+1,0,none⟩):=by simpa using ht5
 simp [results,Tryz.results115,c,d,go_sem,g,i,j,k,seenV]
set_option maxHeartbeats 1000000 in
theorem At_in (n:Nat) (hn:6<=n) (w:World) (g:Nat) (gv:Value) (Z:List (Gen×Value)) (last rev:Int) (h:KeyRep w g gv Z last) (hl:Z.length<=1099511627) (hp:∀ x∈Z,x.1.puts.length<=1099511627/\0<=x.1.cut/\x.1.cut<=1099511627776) :
 CallsIn Fence.wide n Tryz.prog 115 #[.pointer (some ⟨g,0,none⟩),.int .i64 rev] w fun e w' =>
  e=.returned (.tuple #[.agg (seenV (atK (Z.map (·.1)) rev).1).toArray,.bool (atK (Z.map (·.1)) rev).2])/\Below w.heap.size w w':=by
 have N:1<=n:=by omega
 obtain ⟨a,cap,rfl,aQ,aR,ha⟩:=h.gens.shape;have aS:=h.obj.cell 0 rfl;have aT:=h.obj.lt;have aq:g<w.heap.size+1:=by omega
 have ar:g<w.heap.size+1+1:=by omega
 have H:=H_ h;clear h ha;refine callsIn_of_wp_marks Tryz.func115 rfl trivial ?_ rfl;simp only [Tryz.ntmps115,List.size_toArray,List.length_cons,List.length_nil,Nat.reduceAdd,Nat.reduceSub,Array.replicate_succ,Array.replicate_zero,List.push_toArray,List.append_toArray,List.nil_append,List.cons_append]
 gi_wp2_with (refine ⟨trivial,?_⟩;gi_at_call 154;refine (callsIn_wide.2 (zmc _ _ _ _)).mono ?_;rintro e w' ⟨rfl,rfl⟩)
 obtain ⟨u,d⟩:∃ u,(((w.alloc (Obj.cells #[Value.int IntKind.i64 rev] 3)).alloc (Obj.cells #[Value.int IntKind.i64 0,Value.int IntKind.i64 0,Value.int IntKind.i64 0] 190)).alloc (Obj.cells #[Value.bool false] 4)).alloc
  (Obj.cells #[Value.slice a Z.length cap] 220)=u:=⟨_,rfl⟩
 have aV:u.heap.size=w.heap.size+4:=by rw [<-d];simp
 have b0:u.heap[w.heap.size]?=some (.cells #[Value.int IntKind.i64 rev] 3 (0,0)):=by
  rw [<-d];exact zai (zai (zai (zad _ _ _ rfl) _) _) _
 have b1:u.heap[w.heap.size+1]?=some (.cells #[Value.int IntKind.i64 0,Value.int IntKind.i64 0,Value.int IntKind.i64 0] 190 (0,0)):=by rw [<-d];exact zai (zai (zad _ _ _ (by simp)) _) _
 have b2:u.heap[w.heap.size+1+1]?=some (.cells #[Value.bool false] 4 (0,0)):=by rw [<-d];exact zai (zad _ _ _ (by simp)) _
 have b3:u.heap[w.heap.size+1+1+1]?=some (.cells #[Value.slice a Z.length cap] 220 (0,0)):=by rw [<-d];exact zad _ _ _ (by simp)
 have Y:Below w.heap.size w u:=by rw [<-d];exact ((((Fr.refl No w).alloc _).alloc _).alloc _).alloc _ |>.below0
 simp only [d];clear d;have a3:SlF u 223 4 genC (.slice a Z.length cap) Z:=Sl.keep H.out.gens fun k I=>Y.block k (H.out.gens.lt k I)
 refine wpIn_rangeFunc_ownH rfl N (gf:=174) (lb:=#[.pointer (some ⟨w.heap.size+1+1+1,0,none⟩)]) rfl trivial (enters_of Tryz.func174 (by kernel_rfl) rfl)
  (zvd Fence.wide (n-1) trivial rfl (by omega) (w.heap.size+1+1+1) u.heap.size (.slice a Z.length cap) Z (by omega) u (by simp [World.cell?,b3]) (by omega) (Nat.le_refl _) a3 (fun b hb=>a3.lt b hb)) belowK_t (belowK_b (Nat.le_refl _)) (Below.refl _ _) (fun _=>rfl)
  (fun z W=>AtI w rev (seenV (0,0,0)) false W/\u.heap.size<=W.heap.size/\Hid (∀ x∈z,upTo x.1.2.1.puts rev=0))
  (AtIx w Z rev)
  (fun s W W' row hs hg J=>⟨hs.1.own hg fun r e=>⟨by have:=(J r e).1;omega,(J r e).2⟩,Nat.le_trans hs.2.1 hg.size,hs.2.2⟩)
  (fun c s W W' row hs hg J=>by
    have a2:∀ r,row=some r->w.heap.size<=r/\∃ o:Obj,W.heap[r]?=some o/\o.isCells=false:=fun r e=>⟨by have:=(J r e).1;omega,(J r e).2⟩
    cases c with
    | exit id=>exact ⟨hs.1,hs.2.1.own hg a2,hs.2.2⟩
    | ret=>obtain ⟨C,x,N,O,h3,h4,h5⟩:=hs;exact ⟨C,x,N,O,h3,h4,h5.own hg a2⟩
    | _=>exact hs.elim)
  ⟨⟨b0,b1,b2,Y⟩,Nat.le_refl _,H_ (by simp)⟩
  (fun x a' W=>∃ G,u.heap.size<=G/\W.heap[G]?=some (.cells #[.int .i64 x.1.2.1.create,.int .i64 x.1.2.1.cut,x.1.2.2,.int .i64 x.1.2.1.end_] 223 (0,0))/\a'=⟨#[.pointer (some ⟨g,0,none⟩),.int .i64 rev,undef,.pointer (some ⟨w.heap.size,0,none⟩),.pointer (some ⟨w.heap.size+1,0,none⟩),.pointer (some ⟨w.heap.size+1+1,0,none⟩),undef,.pointer (some ⟨G,0,none⟩),undef,.pointer (some ⟨g,0,none⟩),.bool false,undef,.pointer (some ⟨g,0,none⟩),.pointer (some ⟨g,0,none⟩),.pointer (some ⟨g,0,none⟩),.slice a Z.length cap,.func (.func 174) #[] #[.pointer (some ⟨w.heap.size+1+1+1,0,none⟩)],.int .i64 (x.1.1:Int),.agg #[.int .i64 x.1.2.1.create,.int .i64 x.1.2.1.cut,x.1.2.2,.int .i64 x.1.2.1.end_],undef,undef,undef,undef,undef,undef,undef,undef,undef,undef,undef,undef,undef,undef,undef,undef,undef,undef,undef,undef,undef,undef,undef,undef,undef,undef,undef,undef],[]⟩)
  (fun x a' s W W' row hs hg J=>by
    obtain ⟨G,N,O,h3⟩:=hs;exact ⟨G,N,(hg.block G (zab O) fun e'=>by obtain ⟨_,o,ho,hc⟩:=J G e'.symm;rw [O] at ho;cases ho;cases hc).trans O,h3⟩)
  ?assign ?body ?done ?stop
 case assign =>
  rintro l z ⟨⟨i,y,pv⟩,B⟩ W K ⟨f,d,m⟩ E;have t:SlF w 3 1 int1 pv y.puts:=H.out.puts i (y,pv) B;obtain ⟨pa,L,rfl,_,_,_⟩:=t.shape;have ab:=H_ E;clear E t;dsimp only [bEnc]
  gi_wp2
  exact ab.out _ _ ((KeepsOthers.alloc _ _).from _) ((Below.refl _ W).alloc d _) ⟨f.fr ((Fr.refl _ _).alloc _),by simp;omega,m⟩ ⟨W.heap.size,d,heap_alloc_new _ _,rfl⟩
 case body =>
  rintro l z ⟨⟨i,y,pv⟩,B⟩ a' W hl ⟨r,J⟩ ⟨f,d,m⟩ ⟨G,aM,bX,rfl⟩ aU;have t:SlF w 3 1 int1 pv y.puts:=H.out.puts i (y,pv) B;have R:SlF W 3 1 int1 pv y.puts:=Sl.keep t fun k I=>f.below.block k (t.lt k I);have hy:=hp (y,pv) (List.mem_of_getElem? B);obtain ⟨pa,L,rfl,_,_,aj⟩:=t.shape;obtain ⟨c0,c1,c2,c3⟩:=cells4 bX;have r0:W.cell? ⟨w.heap.size,0,none⟩=some (.int .i64 rev):=(by simp [World.cell?,f.b0]);have v:=zmg W y (.slice pa y.puts.length L) rev R (by have:=hy.1;simp at this;omega);have T:=H_ m;clear m;have HX:=H_ B;have aW:=zep y.puts rev;by_cases hu:upTo y.puts rev=0
  · have ak:((upTo y.puts rev:Int)==0)=true:=by simp [hu]
    have M:=H_ hu;clear hu
    gi_wp2_with (refine ⟨trivial,(fun h=>by cases h),?_⟩;gi_at_call 147;refine (CallsIn.inRound l (callsIn_wide.2 v)).mono ?_;clear v;rintro e w' ⟨rfl,q⟩)
    refine ⟨KeepsFrom.of_fr q,q.below0.mono d,f.fr q,Nat.le_trans d q.size,H_ ?_⟩;intro x B;rcases List.mem_append.1 B with h | h
    · exact T.out x h
    simp at h;subst h;exact M.out
  have ak:((upTo y.puts rev:Int)==0)=false:=by simp [hu]
  have M:=H_ hu;clear hu;by_cases he:0<y.end_/\y.end_<=rev
  · obtain ⟨Q,a0⟩:=he
    gi_wp2_with (refine ⟨trivial,(fun h=>by cases h),?_⟩;gi_at_call 147;refine (CallsIn.inRound l (callsIn_wide.2 v)).mono ?_;clear v;rintro e w' ⟨rfl,q⟩;have d3:=q.cell0 c3;have d0:=q.cell0 r0)
    exact ⟨KeepsFrom.of_fr q,rfl,f.fr q,H_ ⟨z,_,rfl,T.out,M.out,Q,a0⟩⟩
  have ad:=H_ he
  have ai:(0<y.end_/\rev<y.end_)\/y.end_<=0:=(by omega);clear he;rcases ai with ⟨Q,a0⟩ | Q
  all_goals
   have au:(0:Int)<=(upTo y.puts rev:Int)-1:=(by have:=M.out;omega);have af:(1:Int)<=(upTo y.puts rev:Int):=(by omega);have ag:(upTo y.puts rev:Int)-1<(y.puts.length:Int):=(by omega);obtain ⟨pb,po,rfl⟩:=aj (by have:=M.out;omega)
   have S:y.puts[upTo y.puts rev-1]?=some (y.puts[upTo y.puts rev-1]?.getD 0):=by
    rw [List.getElem?_eq_getElem (by have:=M.out;omega)];rfl
   have c4:=SlF.cell1 zfa R (upTo y.puts rev-1) S rfl;have aB:=H_ S;generalize a1:y.puts[upTo y.puts rev-1]?.getD 0=pg at c4;have a7:=H_ a1;have am:=hy.2;simp only at am;have al:=hy.1;simp only at al;clear S a1 t R hy
   gi_wp2_with (refine ⟨trivial,(fun h=>by cases h),?_⟩;gi_at_call 147;refine (CallsIn.inRound l (callsIn_wide.2 v)).mono ?_;clear v;rintro e w' ⟨rfl,q⟩;have d3:=q.cell0 c3;have d0:=q.cell0 r0;have d1:=q.cell0 c0;have d2:=q.cell0 c1;have d4:=q.cell0 c2;have d5:=q.cell0 c4)
   refine zcw 13 (fun _=>trivial) rfl (zma l) (by kernel_rfl) (by kernel_rfl) ?_;simp only [List.take_succ_cons,List.take_zero,List.drop_succ_cons,List.drop_zero]
   repeat (refine wpStill_step (fun K E=>?_);go_simp;(try go_bits);refine E _ ?_;clear E K)
   refine wpStill_nil ?_;have p:=f.fr q;have r1:w'.cell? ⟨w.heap.size+1,0,none⟩=some (.int .i64 0):=(by simp [World.cell?,p.b1,seenV]);have r2:w'.cell? ⟨w.heap.size+1,1,none⟩=some (.int .i64 0):=(by simp [World.cell?,p.b1,seenV]);have r3:w'.cell? ⟨w.heap.size+1,2,none⟩=some (.int .i64 0):=(by simp [World.cell?,p.b1,seenV]);have r4:w'.cell? ⟨w.heap.size+1+1,0,none⟩=some (.bool false):=(by simp [World.cell?,p.b2]);have U:w'.frozen? ⟨w.heap.size+1,0,none⟩=false:=(by simp [World.frozen?,p.b1]);have V:w'.frozen? ⟨w.heap.size+1,1,none⟩=false:=(by simp [World.frozen?,p.b1]);have X:w'.frozen? ⟨w.heap.size+1,2,none⟩=false:=(by simp [World.frozen?,p.b1]);have f4:w'.frozen? ⟨w.heap.size+1+1,0,none⟩=false:=(by simp [World.frozen?,p.b2])
   gi_wp2
   have F:=p.store rfl y.create pg (y.cut + ↑(upTo y.puts rev)) true;refine ⟨⟨by simpa using q.size,fun k o hB I ho=>?_⟩,z,_,rfl,T.out,M.out,ad.out,?_⟩
   · have ae:=q.heap I id
     exact zqm ae (by have:=hB;omega) _ _ _ _
   show AtI w rev (seenV (y.create,y.puts[upTo y.puts rev-1]?.getD 0,y.cut+upTo y.puts rev)) true _
   rw [a7.out];exact ⟨F.b0,F.b1,F.b2,F.below.drew⟩
 case done =>
  rintro D xs W hD hS ⟨f,hW,m⟩ E;have r1:W.cell? ⟨w.heap.size+1,0,none⟩=some (.int .i64 0):=(by simp [World.cell?,f.b1,seenV]);have r2:W.cell? ⟨w.heap.size+1,1,none⟩=some (.int .i64 0):=(by simp [World.cell?,f.b1,seenV]);have r3:W.cell? ⟨w.heap.size+1,2,none⟩=some (.int .i64 0):=(by simp [World.cell?,f.b1,seenV]);have r4:W.cell? ⟨w.heap.size+1+1,0,none⟩=some (.bool false):=(by simp [World.cell?,f.b2]);have f1:∀ j,W.frozen? ⟨w.heap.size+1,j,none⟩=false:=fun j=>by simp [World.frozen?,f.b1]
  have f4:W.frozen? ⟨w.heap.size+1+1,0,none⟩=false:=(by simp [World.frozen?,f.b2]);have U:=f1 0;have V:=f1 1;have X:=f1 2;clear f1
  gi_wp2
  have A:atK (Z.map (·.1)) rev=((0,0,0),false):=zzac hS m.out;exact zoa n w _ D rev (0,0,0) false _ rfl rfl (f.store rfl 0 0 0 false) (zqm E (by omega) _ _ _ _) (by omega) _ fun W' hb=>⟨by rw [A],hb⟩
 case stop =>
  rintro D c z W hD ⟨k,I,hS⟩ P E
  cases c with
  | exit id =>
    obtain ⟨rfl,f,T⟩:=P;have r1:W.cell? ⟨w.heap.size+1,0,none⟩=some (.int .i64 0):=(by simp [World.cell?,f.b1,seenV]);have r2:W.cell? ⟨w.heap.size+1,1,none⟩=some (.int .i64 0):=(by simp [World.cell?,f.b1,seenV]);have r3:W.cell? ⟨w.heap.size+1,2,none⟩=some (.int .i64 0):=(by simp [World.cell?,f.b1,seenV]);have r4:W.cell? ⟨w.heap.size+1+1,0,none⟩=some (.bool false):=(by simp [World.cell?,f.b2]);have U:W.frozen? ⟨w.heap.size+1,0,none⟩=false:=(by simp [World.frozen?,f.b1]);have V:W.frozen? ⟨w.heap.size+1,1,none⟩=false:=(by simp [World.frozen?,f.b1]);have X:W.frozen? ⟨w.heap.size+1,2,none⟩=false:=(by simp [World.frozen?,f.b1]);have f4:W.frozen? ⟨w.heap.size+1+1,0,none⟩=false:=(by simp [World.frozen?,f.b2])
    have A:Hid (atK (Z.map (·.1)) rev=((0,0,0),false)):=by
     obtain ⟨C,x,rfl,h0,B,N,O⟩:=T.out;refine H_ ?_;unfold atK;rw [ztt I hS h0 B];simp only;rw [if_pos ⟨N,O⟩]
    gi_wp2
    exact zoa n w _ D rev (0,0,0) false _ rfl rfl (f.store rfl 0 0 0 false) (zqm E (by omega) _ _ _ _) (by omega) _ fun W' hb=>⟨by rw [A.out],hb⟩
  | ret =>
    obtain ⟨C,x,rfl,h0,B,hn,f⟩:=P
    have A:Hid (atK (Z.map (·.1)) rev=((x.1.2.1.create,x.1.2.1.puts[upTo x.1.2.1.puts rev-1]?.getD 0,x.1.2.1.cut+upTo x.1.2.1.puts rev),true)):=by
     refine H_ ?_;unfold atK;rw [ztt I hS h0 B];simp only;rw [if_neg hn]
    gi_wp2
    exact zoa n w _ D rev _ true _ rfl rfl f E (by omega) _ fun W' hb=>⟨by rw [A.out],hb⟩
  | _=>exact P.elim
def zjx (s:(Int×Int×Int)×Bool):Value:=.tuple #[.agg (seenV s.1).toArray,.bool s.2]
theorem ztv (w:World) (g:Nat) (K:List Gen) (last rev:Int) (F:Nat->Prop) (h:KeyAt w g K last F) (hK:Fits K) :
 Calls Tryz.prog 115 #[.pointer (some ⟨g,0,none⟩),.int .i64 rev] w fun e w'=>e=.returned (zjx (atK K rev))/\Fr No w w':=by
 obtain ⟨a,Z,h,rfl,hF⟩:=h;refine (callsIn_wide.1 (At_in 6 (by omega) w g a Z last rev h (by simpa using hK.1) fun x hx=>hK.2 x.1 (List.mem_map.2 ⟨x,hx,rfl⟩))).mono ?_;rintro e w' ⟨c,b⟩;exact ⟨c,Fr.of_below b⟩
open Go Go.Proofs Go.RowKit
structure Kv where
 key:ByteArray
 value:ByteArray
 create:Int
 mod:Int
 version:Int
 lease:Int
def kv0:Kv:=⟨ByteArray.empty,ByteArray.empty,0,0,0,0⟩
def kvC (x:Kv):List Value:=[.string x.key,.string x.value,.int .i64 x.create,.int .i64 x.mod,.int .i64 x.version,.int .i64 x.lease]
def kvV (x:Kv):Value:=.agg #[.string x.key,.string x.value,.int .i64 x.create,.int .i64 x.mod,.int .i64 x.version,.int .i64 x.lease]
theorem zak (x:Kv):(kvC x).length=6:=rfl
structure Ev where
 kind:Int
 kv:Kv
 prev:Kv
def evC (x:Ev):List Value:=.int .i64 x.kind :: (kvC x.kv++kvC x.prev)
theorem zac (x:Ev):(evC x).length=13:=rfl
def evV (x:Ev):Value:=.agg #[.int .i64 x.kind,.string x.kv.key,.string x.kv.value,.int .i64 x.kv.create,.int .i64 x.kv.mod,.int .i64 x.kv.version,.int .i64 x.kv.lease,.string x.prev.key,.string x.prev.value,.int .i64 x.prev.create,.int .i64 x.prev.mod,.int .i64 x.prev.version,.int .i64 x.prev.lease]
structure Hist where
 gens:List Gen
 last:Int
 kvs:Int->Option Kv
def hadH (H:Hist) (rev:Int):Kv×Bool:=((H.kvs (atK H.gens rev).1.2.1).getD kv0,(atK H.gens rev).2)
def top:Int:=1099511627776
structure HistOk (n:Nat) (H:Hist):Prop where
 len:H.gens.length<=n
 puts:∀ x∈H.gens,x.puts.length<=n/\0<=x.cut/\x.cut<=top/\(∀ p∈x.puts,1<=p/\p<=top)
theorem HistOk.fits {n:Nat} {H:Hist} (h:HistOk n H) (hn:n<=1099511627):Fits H.gens :=
 ⟨Nat.le_trans h.len hn,fun x hx=>⟨Nat.le_trans (h.puts x hx).1 hn,(h.puts x hx).2.1,(h.puts x hx).2.2.1⟩⟩
theorem wf64 {a:Int} (h0 : -9223372036854775808<=a) (h1:a<=9223372036854775807):(Lit.int .i64 a).wf=true:=by
 simp [Lit.wf,IntKind.min,IntKind.max,IntKind.signed,IntKind.bits];omega
theorem HistOk.wf {n:Nat} {H:Hist} (h:HistOk n H) (rev:Int):(Lit.int .i64 (atK H.gens rev).1.2.1).wf=true:=by
 have key:0<=(atK H.gens rev).1.2.1/\(atK H.gens rev).1.2.1<=top:=by
  unfold atK
  split
  · simp [top]
  rename_i x hx
  have a:=List.mem_of_find?_eq_some hx;rw [List.mem_reverse] at a
  split
  · simp [top]
  dsimp only
  cases hp:x.puts[upTo x.puts rev-1]? with
  | none=>simp [top]
  | some p =>
    have:=(h.puts x a).2.2.2 p (List.mem_of_getElem? hp);simp;omega
 unfold top at key;exact wf64 (by omega) (by omega)
structure HistR (w:World) (h g m:Nat) (FK:Nat->Prop) (H:Hist):Prop where
 obj:Has w h [.pointer (some ⟨g,0,none⟩),.map (some m)]
 key:KeyAt w g H.gens H.last FK
 map:MapAt w m fun r=>(H.kvs r).map kvV
 d1:¬ FK h
 d2:¬ FK m
def HistAt (w:World) (h:Nat) (H:Hist) (F:Nat->Prop):Prop:=∃ g m FK,HistR w h g m FK H/\∀ b,F b↔(b=h\/b=m\/FK b)
theorem HistAt.lt {w:World} {h:Nat} {H:Hist} {F:Nat->Prop} (a:HistAt w h H F):∀ b,F b->b<w.heap.size:=by
 obtain ⟨g,m,d,a,hF⟩:=a;intro b c;rcases (hF b).1 c with rfl | rfl | e
 · exact a.obj.lt
 · exact a.map.lt
 exact a.key.lt b e
theorem HistR.fr {w w':World} {h g m:Nat} {H:Hist} {FK S:Nat->Prop} (a:HistR w h g m FK H) (hf:Fr S w w') (h1:¬ S h) (h2:¬ S m) (h3:∀ b,FK b->¬ S b):HistR w' h g m FK H :=
 ⟨a.obj.fr hf h1,a.key.fr hf h3,a.map.fr hf h2,a.d1,a.d2⟩
theorem HistAt.fr {w w':World} {h:Nat} {H:Hist} {F S:Nat->Prop} (a:HistAt w h H F) (hf:Fr S w w') (hn:∀ b,F b->¬ S b):HistAt w' h H F:=by
 obtain ⟨g,m,c,a,hF⟩:=a;exact ⟨g,m,c,a.fr hf (hn _ ((hF _).2 (.inl rfl))) (hn _ ((hF _).2 (.inr (.inl rfl)))) (fun b hb=>hn b ((hF b).2 (.inr (.inr hb)))),hF⟩
structure St where
 T:Pairs
 past:Int->Option Hist
 next:Int
 rev:Int
 mark:Int
 events:List Ev
structure StOk (n:Nat) (S:St):Prop where
 pos:0<=S.next
 next:S.next<=n
 id:∀ p∈S.T,∃ H,S.past p.2=some H
 ids:∀ i H,S.past i=some H->0<=i/\i<S.next
 hist:∀ i H,S.past i=some H->HistOk n H/\H.last<=top
 rev0 : -top<=S.rev
 rev1:S.rev<=top
 mark0:0<=S.mark
 ev:S.events.length<=n
structure StoreR (TA:zao) (w:World) (s t p:Nat) (ev:Value) (hp:Int->Option Nat) (FT:Nat->Prop) (FH:Int->Nat->Prop) (S:St):Prop where
 obj:Has w s [.pointer (some ⟨t,0,none⟩),.map (some p),.int .i64 S.next,.int .i64 S.rev,.int .i64 S.mark,ev]
 tree:TA w t S.T FT
 map:MapAt w p fun i=>(hp i).map fun h=>.pointer (some ⟨h,0,none⟩)
 events:SlF w 101 13 evC ev S.events
 hist:∀ i H,S.past i=some H->∃ h,hp i=some h/\HistAt w h H (FH i)
 gone:∀ i,S.past i=none->hp i=none/\∀ b,¬ FH i b
 ds:¬ FT s/\ev.ownBlock≠some s/\∀ i,¬ FH i s
 dp:¬ FT p/\ev.ownBlock≠some p/\∀ i,¬ FH i p
 dt:∀ b,FT b->ev.ownBlock≠some b/\∀ i,¬ FH i b
 de:∀ b,ev.ownBlock=some b->∀ i,¬ FH i b
 dh:∀ i j b,FH i b->FH j b->i=j
def storeF (s p:Nat) (ev:Value) (FT:Nat->Prop) (FH:Int->Nat->Prop) (b:Nat):Prop:=b=s\/b=p\/FT b\/ev.ownBlock=some b\/∃ i,FH i b
def zaj (TA:zao) (w:World) (s:Nat) (S:St) (F:Nat->Prop):Prop :=
 ∃ t p ev hp FT FH,StoreR TA w s t p ev hp FT FH S/\∀ b,F b↔storeF s p ev FT FH b
section
variable {TA:zao} {N:Nat} (hT:TreeOk TA N)
include hT
theorem StoreR.fr {w w':World} {s t p:Nat} {ev:Value} {hp:Int->Option Nat} {FT:Nat->Prop} {FH:Int->Nat->Prop} {S:St} {X:Nat->Prop} (a:StoreR TA w s t p ev hp FT FH S) (hf:Fr X w w')
 (hn:∀ b,storeF s p ev FT FH b->¬ X b):StoreR TA w' s t p ev hp FT FH S where
 obj:=a.obj.fr hf (hn _ (.inl rfl))
 tree:=hT.fr a.tree hf fun b hb=>hn b (.inr (.inr (.inl hb)))
 map:=a.map.fr hf (hn _ (.inr (.inl rfl)))
 events:=a.events.fr hf fun b hb=>hn b (.inr (.inr (.inr (.inl hb))))
 hist i H hi:=by
  obtain ⟨h,c,d⟩:=a.hist i H hi;exact ⟨h,c,d.fr hf fun b hb=>hn b (.inr (.inr (.inr (.inr ⟨i,hb⟩))))⟩
 gone:=a.gone
 ds:=a.ds
 dp:=a.dp
 dt:=a.dt
 de:=a.de
 dh:=a.dh
theorem StoreR.lt {w:World} {s t p:Nat} {ev:Value} {hp:Int->Option Nat} {FT:Nat->Prop} {FH:Int->Nat->Prop} {S:St} (a:StoreR TA w s t p ev hp FT FH S):∀ b,storeF s p ev FT FH b->b<w.heap.size:=by
 rintro b (rfl | rfl | e | e | ⟨i,e⟩)
 · exact a.obj.lt
 · exact a.map.lt
 · exact hT.lt a.tree b e
 · exact a.events.lt b e
 cases h:S.past i with
 | none=>exact absurd e ((a.gone i h).2 b)
 | some H =>
   obtain ⟨h,_,c⟩:=a.hist i H h;exact c.lt b e
theorem zaj.fr {w w':World} {s:Nat} {S:St} {F X:Nat->Prop} (a:zaj TA w s S F) (hf:Fr X w w') (hn:∀ b,F b->¬ X b):zaj TA w' s S F:=by
 obtain ⟨t,p,e,f,d,c,a,hF⟩:=a;exact ⟨t,p,e,f,d,c,a.fr hT hf (fun b hb=>hn b ((hF b).2 hb)),hF⟩
theorem zaj.fr0 {w w':World} {s:Nat} {S:St} {F:Nat->Prop} (a:zaj TA w s S F) (hf:Fr No w w'):zaj TA w' s S F:=a.fr hT hf fun _ _ s=>s
theorem zaj.lt {w:World} {s:Nat} {S:St} {F:Nat->Prop} (a:zaj TA w s S F):∀ b,F b->b<w.heap.size:=by
 obtain ⟨t,p,e,f,d,c,a,hF⟩:=a;exact fun b hb=>a.lt hT b ((hF b).1 hb)
end
def zct (r:Kv×Bool):Value:=.tuple #[kvV r.1,.bool r.2]
theorem zero57 (w:World):(zeroValue 99).run Tryz.prog w=.ok (kvV kv0) w:=by kernel_rfl
theorem zero142 (w:World):(zeroValue 167).run Tryz.prog w=.ok (.pointer none) w:=by kernel_rfl
theorem zkx {TA:zao} {N:Nat} (_:TreeOk TA N) {n:Nat} (hn:n<=1099511627) (w:World) (s:Nat) (S:St) (F:Nat->Prop) (hS:zaj TA w s S F) (hok:StOk n S) (at_ rev:Int) (H:Hist) (hH:S.past at_=some H) :
 Calls Tryz.prog 62 #[.pointer (some ⟨s,0,none⟩),.int .i64 at_,.int .i64 rev] w fun e w'=>e=.returned (zct (hadH H rev))/\Fr No w w':=by
 obtain ⟨t,p,ev,hp,FT,FH,a,hF⟩:=hS;obtain ⟨h,hh,g,m,FK,b,av⟩:=a.hist _ _ hH;have o:=(hok.hist _ _ hH).1;have ah:=hok.ids _ _ hH;have aA:=hok.next;have aa:(Lit.int .i64 at_).wf=true:=wf64 (by omega) (by omega);have f:=o.wf rev;have u:=o.fits hn;have L:=fun W hk=>ztv W g H.gens H.last rev FK hk u;have U:((hp at_).map fun h=>Value.pointer (some ⟨h,0,none⟩)).getD (.pointer none)=.pointer (some ⟨h,0,none⟩):=by rw [hh];rfl
 have Q:((H.kvs (atK H.gens rev).1.2.1).map kvV).getD (kvV kv0)=kvV (hadH H rev).1:=by unfold hadH;cases H.kvs (atK H.gens rev).1.2.1 <;> rfl
 have c1:=a.obj.cell 1 rfl;have h0:=b.obj.cell 0 rfl;have h1:=b.obj.cell 1 rfl;have l1:=a.obj.lt;have l2:=b.obj.lt;have l3:=b.map.lt;have HM:=H_ a.map;have HK:=H_ b.key;have HN:=H_ b.map;have x:=H_ Q;have a3:=H_ U
 have a0:=H_ L;have M:(hadH H rev).2=(atK H.gens rev).2:=rfl;have a1:=H_ M;generalize hadH H rev=r at *;generalize hs:atK H.gens rev=q at *;clear a b Q U L M u hH;obtain ⟨⟨q1,l,q3⟩,q4⟩:=q;obtain ⟨⟨C,D,E,G,I,J⟩,rb⟩:=r;go_enter Tryz.func62,Tryz.ntmps62
 go_wp2_with (first
  | (at_lookup;refine zgt rfl _ _ 105 rfl 3 167 Tryz.underlying105 Tryz.underlying3 p _ rfl (HM.out.alloc _) at_ rfl aa _ (zero142 _) _ a3.out ?_)
  | (at_lookup;refine zgt rfl _ _ 169 rfl 3 99 Tryz.underlying169 Tryz.underlying3 m _ rfl (by first | exact K.out.alloc _ | exact K.out) l rfl f _ (zero57 _) _ x.out ?_)
  | (go_at_call 115;refine (a0.out _ (HK.out.fr ((Fr.refl No w).alloc _) (fun _ _ s=>s))).mono ?_;rintro e w1 ⟨rfl,z⟩
     have A:Fr No w w1:=((Fr.refl No w).alloc _).trans0 z;have a5:=A.cell0 h1;have aC:w.heap.size+1<=w1.heap.size:=(by have:=z.size;simpa using this);have K:=H_ (HN.out.fr A id);have k6:w1.heap[w.heap.size]?=some (.cells #[.string ByteArray.empty,.string ByteArray.empty,.int .i64 0,.int .i64 0,.int .i64 0,.int .i64 0] 99 (0,0)):=z.heap (zad _ _ _ rfl) id;unfold zjx seenV))
 have V:=zad w1 (Obj.cells #[Value.int .i64 q1,Value.int .i64 l,Value.int .i64 q3] 190) _ rfl;generalize hX:w1.alloc (Obj.cells #[Value.int .i64 q1,Value.int .i64 l,Value.int .i64 q3] 190)=X at V;have c:Fr No w X:=by rw [<-hX];exact A.alloc _
 have j:X.heap[w.heap.size]?=some (.cells #[.string ByteArray.empty,.string ByteArray.empty,.int .i64 0,.int .i64 0,.int .i64 0,.int .i64 0] 99 (0,0)):=by rw [<-hX];exact zai k6 _
 have n1:X.cell? ⟨w1.heap.size,1,none⟩=some (.int .i64 l):=cellAt V 1 rfl;have e1:=c.cell0 h1;have B:=MapAt.look (P:=Tryz.prog) (t:=169) (HN.out.fr (c.drew) id) Tryz.underlying169 Tryz.underlying3 f (zero57 _);rw [x.out] at B;unfold kvV at B;have az:w.heap.size<X.heap.size:=zab j;have ai:w1.heap.size<X.heap.size:=zab V;have ay:h<X.heap.size:=by have:=c.size;omega
 have ad:X.drew.cell? ⟨w1.heap.size,1,none⟩=some (.int .i64 l):=n1;have a4:X.drew.cell? ⟨h,1,none⟩=some (.map (some m)):=e1;have aK:X.drew.heap[w.heap.size]?=some (.cells #[.string ByteArray.empty,.string ByteArray.empty,.int .i64 0,.int .i64 0,.int .i64 0,.int .i64 0] 99 (0,0)):=j;have aw:Fr No w X.drew:=c.drew;obtain ⟨k0,k1,k2,k3,k4,k5⟩:=cells6 j;have kf:∀ i,X.frozen? ⟨w.heap.size,i,none⟩=false:=fun i=>by simp [World.frozen?,j]
 have R:w1.heap.size≠w.heap.size:=by omega
 have T:h≠w.heap.size:=by omega
 have HS:∀ W,Fr (fun b=>b=w.heap.size) X W->W.cell? ⟨h,1,none⟩=some (.map (some m))/\W.cell? ⟨w1.heap.size,1,none⟩=some (.int .i64 l) ∧
  (Instr.lookup 169 (.map (some m)) (.int .i64 l) false).run Tryz.prog W=.ok (.agg #[.string C,.string D,.int .i64 E,.int .i64 G,.int .i64 I,.int .i64 J]) W:=by
  intro W hW;refine ⟨hW.cell e1 T,hW.cell n1 R,?_⟩;have:=MapAt.look (P:=Tryz.prog) (t:=169) ((HN.out.fr c id).fr hW (by omega)) Tryz.underlying169 Tryz.underlying3 f (zero57 _);rw [x.out] at this;exact this
 have y:=H_ HS;clear HS hX a5 B ad a4 V n1
 go_region_held (fun W=>W.cell? ⟨h,1,none⟩=some (.map (some m))/\W.cell? ⟨w1.heap.size,1,none⟩=some (.int .i64 l) ∧
  (Instr.lookup 169 (.map (some m)) (.int .i64 l) false).run Tryz.prog W=.ok (.agg #[.string C,.string D,.int .i64 E,.int .i64 G,.int .i64 I,.int .i64 J]) W)
  (first | (refine y.out _ (Fr.drew ?_);with_reducible exact Fr.refl _ X) | (refine y.out _ (Fr.drew ?_);(iterate 6 (with_reducible refine Fr.setAt ?_ _ _));with_reducible exact Fr.refl _ X)) (fail)
 have z1:=zaa j 0 (.string C);have z2:=zaa z1 1 (.string D);have z3:=zaa z2 2 (.int .i64 E);have z4:=zaa z3 3 (.int .i64 G);have z5:=zaa z4 4 (.int .i64 I);have Y:=zaa z5 5 (.int .i64 J)
 have d:Fr (fun b=>b=w.heap.size) X ((((((X.setCell ⟨w.heap.size,0,none⟩ (.string C)).setCell ⟨w.heap.size,1,none⟩ (.string D)).setCell ⟨w.heap.size,2,none⟩ (.int .i64 E)).setCell ⟨w.heap.size,3,none⟩ (.int .i64 G)).setCell ⟨w.heap.size,4,none⟩ (.int .i64 I)).setCell ⟨w.heap.size,5,none⟩ (.int .i64 J)) :=
  (((((((Fr.refl _ X).setAt 0 _).setAt 1 _).setAt 2 _).setAt 3 _).setAt 4 _).setAt 5 _)
 generalize ((((((X.setCell ⟨w.heap.size,0,none⟩ (.string C)).setCell ⟨w.heap.size,1,none⟩ (.string D)).setCell ⟨w.heap.size,2,none⟩ (.int .i64 E)).setCell ⟨w.heap.size,3,none⟩ (.int .i64 G)).setCell ⟨w.heap.size,4,none⟩ (.int .i64 I)).setCell ⟨w.heap.size,5,none⟩ (.int .i64 J))=Z at Y d ⊢
 simp at Y;obtain ⟨y0,y1,y2,y3,y4,y5⟩:=cells6 Y
 have O:Fr No w Z.drew:=by
  have a8:Fr No w Z:=⟨d.os.trans c.os,d.tape.trans c.tape,d.output.trans c.output,Nat.le_trans c.size d.size,fun k hk _=>(d.block k (Nat.lt_of_lt_of_le hk c.size) (by omega)).trans (c.block k hk id)⟩;exact a8.drew
 clear z1 z2 z3 z4 z5 Y d k0 k1 k2 k3 k4 k5 kf y;go_wp2;have a9:rb=q4:=a1.out;subst a9;refine bodyPost_ret (v:=zct (⟨C,D,E,G,I,J⟩,rb)) (w:=Z.drew) (by rw [results_cell_tmp rfl];go_simp;rfl) rfl ⟨rfl,O⟩
def livesS (S:St) (key:ByteArray) (rev:Int):Kv×Bool :=
 if (getT S.T key).2 then match S.past (getT S.T key).1 with
  | some H=>hadH H rev
  | none=>(kv0,false)
 else (kv0,false)
theorem zkn {w X:World} {b:Nat} {a0 a1 a2 a3 a4 a5:Value} (hk:X.heap[b]?=some (.cells #[a0,a1,a2,a3,a4,a5] 99 (0,0))) (r:Kv) :
 ∃ Z,((((((X.setCell ⟨b,0,none⟩ (.string r.key)).setCell ⟨b,1,none⟩ (.string r.value)).setCell ⟨b,2,none⟩ (.int .i64 r.create)).setCell ⟨b,3,none⟩ (.int .i64 r.mod)).setCell ⟨b,4,none⟩ (.int .i64 r.version)).setCell ⟨b,5,none⟩ (.int .i64 r.lease))=Z ∧
  Z.heap[b]?=some (.cells #[.string r.key,.string r.value,.int .i64 r.create,.int .i64 r.mod,.int .i64 r.version,.int .i64 r.lease] 99 (0,0))/\(Fr No w X->w.heap.size<=b->Fr No w Z):=by
 have c:=zaa hk 0 (.string r.key);have d:=zaa c 1 (.string r.value);have f:=zaa d 2 (.int .i64 r.create);have g:=zaa f 3 (.int .i64 r.mod);have i:=zaa g 4 (.int .i64 r.version);have k:=zaa i 5 (.int .i64 r.lease);have a:=(((((((Fr.refl (fun x=>x=b) X).setAt 0 (.string r.key)).setAt 1 (.string r.value)).setAt 2 (.int .i64 r.create)).setAt 3 (.int .i64 r.mod)).setAt 4 (.int .i64 r.version)).setAt 5 (.int .i64 r.lease));clear c d f g i;generalize ((((((X.setCell ⟨b,0,none⟩ (.string r.key)).setCell ⟨b,1,none⟩ (.string r.value)).setCell ⟨b,2,none⟩ (.int .i64 r.create)).setCell ⟨b,3,none⟩ (.int .i64 r.mod)).setCell ⟨b,4,none⟩ (.int .i64 r.version)).setCell ⟨b,5,none⟩ (.int .i64 r.lease))=Z at *;refine ⟨Z,rfl,?_,fun hf hb=>hf.trans a fun j hj e=>?_⟩
 · rw [k];simp
 have l:j=b:=e
 omega
theorem zgz {TA:zao} {N:Nat} (hT:TreeOk TA N) {n:Nat} (hn:n<=1099511627) (w:World) (s:Nat) (S:St) (F:Nat->Prop) (hS:zaj TA w s S F) (hok:StOk n S) (key:ByteArray) (rev:Int) :
 Calls Tryz.prog 66 #[.pointer (some ⟨s,0,none⟩),.string key,.int .i64 rev] w fun e w'=>e=.returned (zct (livesS S key rev))/\Fr No w w':=by
 have f:=fun W hW at_ H m=>zkx hT hn W s S F hW hok at_ rev H m;have y:=H_ hS;obtain ⟨t,p,ev,hp,P,FH,a,hF⟩:=hS;have c0:=a.obj.cell 0 rfl;have l1:=a.obj.lt;have d:=fun W hW=>hT.get (w:=W) (t:=t) (T:=S.T) (F:=P) key hW;have D:=H_ a.tree;have C:=H_ d;have Q:=H_ f;have E:livesS S key rev=livesS S key rev:=rfl
 have u:(getT S.T key).2=true->∃ H,S.past (getT S.T key).1=some H:=by
  unfold getT
  cases hf:S.T.find? (fun p=>keq p.1 key) with
  | none=>intro h;cases h
  | some q=>intro _;exact hok.id q (List.mem_of_find?_eq_some hf)
 unfold livesS at E ⊢
 generalize getT S.T key=g at *;obtain ⟨X,Y⟩:=g;have R:=H_ u;clear a d f u E;cases Y
 · go_enter Tryz.func66,Tryz.ntmps66
   go_wp2_with (first
    | (go_at_call 121;refine (C.out _ (hT.fr D.out ((Fr.refl No w).alloc _) (fun _ _ s=>s))).mono ?_;rintro e w1 ⟨rfl,b⟩
       have c:Fr No w w1:=((Fr.refl No w).alloc _).trans0 b;have l:w1.heap[w.heap.size]?=some (.cells #[.string ByteArray.empty,.string ByteArray.empty,.int .i64 0,.int .i64 0,.int .i64 0,.int .i64 0] 99 (0,0)):=b.heap (zad _ _ _ rfl) id;obtain ⟨k0,k1,k2,k3,k4,k5⟩:=cells6 l;have kf:∀ i,w1.frozen? ⟨w.heap.size,i,none⟩=false:=fun i=>by simp [World.frozen?,l]
       unfold zdb))
   obtain ⟨Z,j,x,k⟩:=zkn (w:=w) l ⟨⟨#[]⟩,⟨#[]⟩,0,0,0,0⟩;dsimp only at j x;rw [j];obtain ⟨y0,y1,y2,y3,y4,y5⟩:=cells6 x;clear j;refine bodyPost_ret (v:=zct (kv0,false)) (w:=Z) (by rw [results_cell_tmp rfl];go_simp;rfl) rfl ⟨rfl,k c (Nat.le_refl _)⟩
 obtain ⟨H,m⟩:=R.out rfl
 simp only [if_true,m];generalize G:hadH H rev=r at *;obtain ⟨⟨I,J,K,L,M,O⟩,rb⟩:=r;have V:=H_ G;have U:=H_ m;clear G m;go_enter Tryz.func66,Tryz.ntmps66
 go_wp2_with (first
  | (go_at_call 121;refine (C.out _ (hT.fr D.out ((Fr.refl No w).alloc _) (fun _ _ s=>s))).mono ?_;rintro e w1 ⟨rfl,b⟩
     have c:Fr No w w1:=((Fr.refl No w).alloc _).trans0 b;have A:w1.heap[w.heap.size]?=some (.cells #[.string ByteArray.empty,.string ByteArray.empty,.int .i64 0,.int .i64 0,.int .i64 0,.int .i64 0] 99 (0,0)):=b.heap (zad _ _ _ rfl) id;unfold zdb)
  | (go_at_call 62;refine (Q.out _ (y.out.fr0 hT c) X H U.out).mono ?_;rintro e B ⟨rfl,o⟩
     rw [V.out];have z:Fr No w B:=c.trans0 o;have l:B.heap[w.heap.size]?=some (.cells #[.string ByteArray.empty,.string ByteArray.empty,.int .i64 0,.int .i64 0,.int .i64 0,.int .i64 0] 99 (0,0)):=o.heap A id;obtain ⟨k0,k1,k2,k3,k4,k5⟩:=cells6 l;have kf:∀ i,B.frozen? ⟨w.heap.size,i,none⟩=false:=fun i=>by simp [World.frozen?,l]
     unfold zct kvV))
 obtain ⟨Z,j,x,k⟩:=zkn (w:=w) l ⟨I,J,K,L,M,O⟩;dsimp only at j x;rw [j];obtain ⟨y0,y1,y2,y3,y4,y5⟩:=cells6 x;clear j;refine bodyPost_ret (v:=zct (⟨I,J,K,L,M,O⟩,rb)) (w:=Z) (by rw [results_cell_tmp rfl];go_simp;rfl) rfl ⟨rfl,k z (Nat.le_refl _)⟩
end Go.Proofs.YthljnnjpmdgkoaaGreat