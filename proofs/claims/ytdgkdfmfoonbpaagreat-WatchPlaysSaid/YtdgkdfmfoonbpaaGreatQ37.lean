/- Own lemmas. -/
import Derived.Test.YtdgkdfmfoonbpaaGreatQ36
import Derived.Deep.MidRow
import Derived.Deep.WholeRow
import Derived.Great.BuildSlice
namespace Go.Proofs.YtdgkdfmfoonbpaaGreat
open Go Go.Proofs Go.RowKit
theorem info31l (q:ActQ):(Tryz.prog.info? 31).map (·.size)=some (actC q).length:=by rw [zat];kernel_rfl
theorem info29l (t:Wt):(Tryz.prog.info? 29).map (·.size)=some (wtC t).length:=by kernel_rfl
theorem info27l (q:CalQ):(Tryz.prog.info? 27).map (·.size)=some (calC q).length:=by rw [zdh];kernel_rfl
theorem row31:(Tryz.prog.underlying 31).map TypeDesc.isRow=some true:=by kernel_rfl
theorem row29:(Tryz.prog.underlying 29).map TypeDesc.isRow=some true:=by kernel_rfl
theorem row27:(Tryz.prog.underlying 27).map TypeDesc.isRow=some true:=by kernel_rfl
theorem row_of {P:Program} {t:TypeId} (h:(P.underlying t).map TypeDesc.isRow=some true):∃ d,P.underlying t=some d/\d.isRow=true:=by
 cases hq:P.underlying t with
 | none=>rw [hq] at h;cases h
 | some d=>rw [hq] at h;exact ⟨d,rfl,by simpa using h⟩
theorem zax {P:Program} {ops:Array Oper} {rest:List Oper} {op:Oper} {a:Act} {w:World} {Q:Exit->Act->World->Prop} (hgd:op.guard=none) (ty:TypeId) (x:Operand) (ho:op.op=.load ty x)
 (b o:Nat) (hx:a.eval x=.pointer (some ⟨b,o,none⟩)) (cs:List Value) (hc:w.rangeAt b o cs) (hu:(P.underlying ty).map TypeDesc.isRow=some true) (hi:(P.info? ty).map (·.size)=some cs.length)
 (h:wpList P ops Q rest (a.put op.dst (.agg cs.toArray)) w):wpList P ops Q (op :: rest) a w:=by
 obtain ⟨d,c,e⟩:=row_of hu;exact wpList_load_mid hgd ty x ho b o hx cs d hc c e hi h
theorem zbl {P:Program} {ops:Array Oper} {rest:List Oper} {op:Oper} {a:Act} {w0:World} {Q:Exit->Act->World->Prop} (hgd:op.guard=none) (hd:op.dst=none) (ty:TypeId) (x y:Operand) (ho:op.op=.store ty x y) (c:Array Value) (cs:List Value)
 (hx:a.eval x=.pointer (some ⟨w0.heap.size,0,none⟩)) (hy:a.eval y=.agg cs.toArray) (hi:(P.info? ty).map (·.size)=some cs.length) (hc:c.size=cs.length) (h1:∀ u∈cs,u.oneCell'=true)
 (h:wpList P ops Q rest a (w0.alloc (.cells cs.toArray ty))):wpList P ops Q (op :: rest) a (w0.alloc (.cells c ty)):=by
 have b:a.put op.dst undef=a:=by rw [hd];rfl
 rw [<-b] at h;refine wpList_plain hgd fun _ hK=>?_;unfold Oper.wp execOp;simp only [ho,hx,hy,run_storeAt_new (P:=P) w0 ty c cs.toArray (by simpa using hi) (by simpa using hc) (by rw [Array.all_eq_true_iff_forall_mem];intro u d;exact h1 u (by simpa using d)),Sem.run_bind,Sem.run_pure,Result.andThen_ok];exact hK _ _ h
theorem zce {w:World} {b:Nat} {cs:List Value} {t:TypeId} (h:w.heap[b]?=some (.cells cs.toArray t (0,0))) (o n:Nat):w.rangeAt b o ((cs.drop o).take n):=by
 intro j v a
 have c:cs[o+j]?=some v:=by
  rw [List.getElem?_take] at a
  split at a
  · rwa [List.getElem?_drop] at a
  cases a
 unfold World.cell?;simp only [h,Option.isSome_none,Bool.false_eq_true,if_false];simpa using c
theorem SlR.rangeAt {α:Type} {f:α->List Value} {w:World} {sz g o cap:Nat} {L:List α} (hf:∀ x,(f x).length=sz) (h:SlR w sz f (.slice (some ⟨g,o,none⟩) L.length cap) L) (i:Nat) {x:α} (hx:L[i]?=some x):w.rangeAt g (o+i * sz) (f x):=by
 intro j v a
 cases j with
 | zero=>exact h.cell0 hf i hx a
 | succ j=>exact h.cell hf i (j+1) hx a
structure ActAt (W:World) (b:Nat) (q:ActQ):Prop where
 all:W.rangeAt b 0 (actC q)
 call:W.rangeAt b 1 (calC q.call)
 w:W.rangeAt b 13 (wtC q.w)
 kind:W.cell? ⟨b,0,none⟩=some (.int .i64 q.kind)
 id:W.cell? ⟨b,19,none⟩=some (.int .i64 q.id)
theorem ActAt.of {W:World} {b:Nat} {q:ActQ} {t:TypeId} (h:W.heap[b]?=some (.cells (actC q).toArray t (0,0))):ActAt W b q :=
 ⟨zce h 0 20,zce h 1 12,zce h 13 6,cellAt h 0 rfl,cellAt h 19 rfl⟩
theorem zzs {q:ActQ} {oa ka:Option Addr} {n1 c1 n2 c2:Nat} (h1:q.call.1.ops=.slice oa n1 c1) (h2:q.call.1.keys=.slice ka n2 c2):∀ u∈actC q,u.oneCell'=true:=by
 intro u a;unfold actC calC rgC wtC at a;rw [h1,h2] at a;simp only [List.mem_cons,List.not_mem_nil,or_false,List.cons_append,List.nil_append] at a;rcases a with h | h | h | h | h | h | h | h | h | h | h | h | h | h | h | h | h | h | h | h <;> (rw [h];rfl)
theorem Both.mono {TA:zao} {w:World} {h st k n k' n':Nat} {S:St} {D:Doc} {H:Hb} {B:Nat->Prop} (a:Both TA w h st k n S D H B) (h1:k<=k') (h2:n<=n'):Both TA w h st k' n' S D H B:=by
 obtain ⟨p,r⟩:=a;exact ⟨⟨p.good.mono h1,p.q,p.fed,nT_ p.len h2,by have:=p.last;omega⟩,r⟩
theorem Both.behind {TA:zao} (_hT:TreeOk TA 1000000) {w:World} {h st k n:Nat} {S:St} {D:Doc} {H:Hb} {B:Nat->Prop} (a:Both TA w h st k n S D H B) (hn:n<=1000) :
 Calls Tryz.prog 17 #[.pointer (some ⟨h,0,none⟩)] w fun e w'=>∃ v,e=.returned v/\SlF w' 3 1 int1 v (zet H)/\Fr No w w'/\(∀ b,v.ownBlock=some b->w.heap.size<=b):=by
 obtain ⟨p,F,G,c,_⟩:=a;have d:=p.len;have f:=p.last;exact zoi c (by omega) (by omega)
def ActTo (TA:zao) (w W w':World) (h s k:Nat) (S:St) (D:Doc) (H:Hb) (B B':Nat->Prop):Prop :=
 Both TA w' h s k k S D H B'/\Fr B W w'/\(∀ b,B' b->B b\/W.heap.size<=b)/\(∀ b,B' b->w.heap.size<=b)/\Fr No w w'
structure ActF (TA:zao) (w wr:World) (h s k:Nat) (S:St) (D:Doc) (H:Hb) (B:Nat->Prop) (q:ActQ):Prop where
 os:∃ a c,q.call.1.ops=.slice a q.call.2.1.length c
 ks:∃ a c,q.call.1.keys=.slice a q.call.2.2.length c
 feed:∀ W,Fr No wr W->Calls Tryz.prog 13 #[.pointer (some ⟨h,0,none⟩)] W fun e w'=>e=.returned (.tuple #[])/\∃ B',ActTo TA w W w' h s (k+1) S D (feedH D H) B B'
 opn:∀ W,Fr No wr W->Calls Tryz.prog 12 #[.pointer (some ⟨h,0,none⟩),.agg (wtC q.w).toArray] W fun e w'=>e=.returned (.tuple #[.int .i64 (if openE q.w=0 then H.last+1 else 0),.int .i64 (openE q.w)])/\∃ B',ActTo TA w W w' h s (k+1) S D (if openE q.w=0 then openH H q.w else H) B B'
 take:∀ W j,(Lit.int .i64 j).wf=true->Fr No wr W->Calls Tryz.prog 14 #[.pointer (some ⟨h,0,none⟩),.int .i64 j] W fun e w'=>∃ v,e=.returned (.tuple #[batV v (takeB D H j),.int .i64 (takeE H j)])/\SlF w' 72 13 evC v (takeB D H j).evs/\∃ B',ActTo TA w W w' h s (k+1) S D (takeH D H j) B B'/\(∀ b,v.ownBlock=some b->w.heap.size<=b/\(B b\/W.heap.size<=b)/\¬ B' b)
 close:∀ W j,(Lit.int .i64 j).wf=true->Fr No wr W->Calls Tryz.prog 15 #[.pointer (some ⟨h,0,none⟩),.int .i64 j] W fun e w'=>e=.returned (.int .i64 (takeE H j))/\∃ B',ActTo TA w W w' h s (k+1) S D (closeH H j) B B'
 does:∀ W,Fr No wr W->Calls Tryz.prog 27 #[.pointer (some ⟨s,0,none⟩),.agg (calC q.call).toArray] W fun e w'=>e=.returned (.int .i64 (doE S q.call))/\∃ B',ActTo TA w W w' h s (k+1) (doT S q.call) (doD S D q.call) H B B'
theorem actF {TA:zao} (hT:TreeOk TA 1000000) (hTD:TreeDl TA) {w wr:World} {h s k:Nat} {S:St} {D:Doc} {H:Hb} {B:Nat->Prop} (a:Both TA wr h s k k S D H B) (hk:k<=70) {q:ActQ} (hq1:fewCal q.call=true) (hq2:q.w.key.size<=3000) (hfr:(Lit.int .i64 q.w.frm).wf=true)
 (ho:SlR w 10 opC q.call.1.ops q.call.2.1) (hks:SlR w 1 strC q.call.1.keys q.call.2.2) (hN:∀ b,B b->w.heap.size<=b) (hF:Fr No w wr):ActF TA w wr h s k S D H B q:=by
 have g:∀ {W w':World} {o:St} {m:Doc} {n:Hb} {d:Nat->Prop} {y z:Nat},Fr No wr W->Both TA w' h s y z o m n d->y<=k+1->z<=k+1->Fr B W w'->(∀ b,d b->B b\/W.heap.size<=b)->ActTo TA w W w' h s (k+1) o m n B d:=by
  intro W w' o m n d y z c b1 E F b2 f;have t:=c.size;have r:=hF.size;exact ⟨b1.mono E F,b2,f,fun b hb=>(f b hb).elim (hN b) fun x=>by omega,(hF.trans0 c).trans b2 fun b hb x=>by have:=hN b x;omega⟩
 obtain ⟨K,L,u,_⟩:=ho.shape;obtain ⟨I,J,l,_⟩:=hks.shape;refine ⟨⟨K,L,u⟩,⟨I,J,l⟩,fun W c=>?_,fun W c=>?_,fun W j hj c=>?_,fun W j hj c=>?_,fun W c=>?_⟩
 · refine ((a.fr0 hT c).feed hT hk (by omega)).mono ?_
   rintro e w' ⟨rfl,d,b1,b2,f⟩;exact ⟨rfl,d,g c b1 (by omega) (by omega) b2 f⟩
 · refine ((a.fr0 hT c).«open» hT hk (by omega) q.w hq2 hfr).mono ?_
   rintro e w' ⟨rfl,d,b1,b2,f⟩;exact ⟨rfl,d,g c b1 (by omega) (by omega) b2 f⟩
 · refine ((a.fr0 hT c).take hT hk j hj).mono ?_
   rintro e w' ⟨v,rfl,G,d,b1,b2,f,A,C⟩;have t:=c.size;have r:=hF.size;exact ⟨v,rfl,G,d,g c b1 (by omega) (by omega) b2 f,fun b hb=>⟨(A b hb).elim (hN b) fun x=>by omega,A b hb,C b hb⟩⟩
 · refine ((a.fr0 hT c).close hT j hj).mono ?_
   rintro e w' ⟨rfl,d,b1,b2,f⟩;exact ⟨rfl,d,g c b1 (by omega) (by omega) b2 fun b hb=>.inl (f b hb)⟩
 have i:=(Good.does_at a.p.good hk hq1).1
 refine ((a.fr0 hT c).does hT hTD hk q.call hq1 ((ho.fr0 hF).fr0 c) ((hks.fr0 hF).fr0 c) (fun hp b hb hx=>by have:=ho.lt zaf (by decide) hp b hb;have:=hN b hx;omega) (fun hp b hb hx=>by have:=hks.lt zef (by decide) hp b hb;have:=hN b hx;omega) i).mono ?_;rintro e w' ⟨rfl,d,b1,b2,f⟩;exact ⟨rfl,d,g c b1 (by omega) (by omega) b2 f⟩
def upto (c:Int) (l:List Ev):List Ev:=l.filter fun e=>decide (e.kv.mod<=c)
set_option maxRecDepth 100000
set_option maxHeartbeats 16000000
theorem zzas (x:Ev) (z:Value) (hz:z=.agg #[.int .i64 0,.string ByteArray.empty,.string ByteArray.empty,.int .i64 0,.int .i64 0,.int .i64 0,.int .i64 0,.string ByteArray.empty,.string ByteArray.empty,.int .i64 0,.int .i64 0,.int .i64 0,.int .i64 0]) :
 Instr.fill (fun i=>some (i * 13,13)) ((Array.range (1 * 13)).map (z.cells[· % z.cells.size]!)) [(0,Value.agg (evC x).toArray)]=some (evC x).toArray:=by
 subst hz;obtain ⟨a,⟨b,c,d,e,f,g⟩,⟨j,k,l,m,n,o⟩⟩:=x
 kernel_rfl
theorem zga {ops:Array Oper} {rest:List Oper} {o:Oper} {a:Act} {w:World} {Q:Exit->Act->World->Prop} (hg:o.guard=none) (x:Operand) (ho:o.op=.buildSlice 41 1 #[(0,x)]) (q:Ev) (hx:a.eval x=.agg (evC q).toArray)
 (h:wpList Tryz.prog ops Q rest (a.put o.dst (.slice (some ⟨w.heap.size,0,none⟩) 1 1)) (w.alloc (.cells (evC q).toArray 72))):wpList Tryz.prog ops Q (o :: rest) a w:=by
 cases hie:Tryz.prog.info? 72 with
 | none=>have:=info72;rw [hie] at this;cases this
 | some ie =>
   have b:=info72;rw [hie] at b;simp only [Option.map_some,Option.some.injEq,Prod.mk.injEq] at b;obtain ⟨d,c,_⟩:=b;refine wpList_buildSlice hg 41 72 1 #[(0,x)] ho _ ie _ Tryz.underlying41 hie d (by rw [c];decide) (by rw [c];decide) ?_ h;rw [c];have e:(#[((0:Nat),x)].map fun (i,x)=>(i,a.eval x)).toList = [(0,Value.agg (evC q).toArray)]:=(by simp [hx]);rw [e];exact zzas q _ rfl
theorem info72l (x:Ev):(Tryz.prog.info? 72).map (·.size)=some (evC x).length:=by rw [zaa];kernel_rfl
theorem row72:(Tryz.prog.underlying 72).map TypeDesc.isRow=some true:=by kernel_rfl
theorem zhu (x:Ev):∀ u∈evC x,u.oneCell'=true:=by
 intro u a;simp [evC,kvC] at a;rcases a with h | h | h | h | h | h | h | h | h | h | h | h | h <;> (rw [h];rfl)
theorem SlR.of_add {α:Type} {f:α->List Value} {w:World} {sz g o cap:Nat} {L:List α} (hf:∀ x,(f x).length=sz) (h:SlR w sz f (.slice (some ⟨g,o,none⟩) L.length cap) L) (i j:Nat) {x:α} (hx:L[i]?=some x) {u:Value} (hu:(f x)[j]?=some u):w.cell? ⟨g,o+i * sz+j,none⟩=some u :=
 h.rangeAt hf i hx j u hu
def rsC (p:(Int×Sm)×Value):List Value:=.int .i64 p.1.1 :: smC p.1.2.w p.2 p.1.2.place
theorem zaj (p:(Int×Sm)×Value):(rsC p).length=9:=rfl
structure RhR (w:World) (x:Nat) (v:Value) (P:List ((Int×Sm)×Value)) (H:Hb) (G:Nat->Prop):Prop where
 obj:w.heap[x]?=some (.cells #[.int .i64 H.fed,.int .i64 H.last,v] 83 (0,0))
 sl:SlF w 130 9 rsC v P
 map:P.map (·.1)=H.L
 own:G x/\v.ownBlock≠some x/\∀ b,v.ownBlock=some b->G b
 buf:∀ p∈P,SlF w 72 13 evC p.2 p.1.2.buf/\∀ b,p.2.ownBlock=some b->G b/\b≠x/\v.ownBlock≠some b
 lt:∀ b,G b->b<w.heap.size
def RhAt (w:World) (x:Nat) (H:Hb) (G:Nat->Prop):Prop:=∃ v P,RhR w x v P H G
section
variable {w w':World} {x:Nat} {v:Value} {P:List ((Int×Sm)×Value)} {H:Hb} {G:Nat->Prop}
theorem RhR.fr {Y:Nat->Prop} (a:RhR w x v P H G) (hf:Fr Y w w') (hn:∀ b,G b->¬ Y b):RhR w' x v P H G where
 obj:=hf.heap a.obj (hn x a.own.1)
 sl:=a.sl.fr hf fun b hb=>hn b (a.own.2.2 b hb)
 map:=a.map
 own:=a.own
 buf:=fun p hp=>⟨(a.buf p hp).1.fr hf fun b hb=>hn b ((a.buf p hp).2 b hb).1,(a.buf p hp).2⟩
 lt:=fun b hb=>nL_ (a.lt b hb) hf.size
theorem RhR.fr0 (a:RhR w x v P H G) (hf:Fr No w w'):RhR w' x v P H G:=a.fr hf fun _ _ h=>h
theorem RhAt.fr {Y:Nat->Prop} (a:RhAt w x H G) (hf:Fr Y w w') (hn:∀ b,G b->¬ Y b):RhAt w' x H G:=by
 obtain ⟨v,P,a⟩:=a;exact ⟨v,P,a.fr hf hn⟩
theorem RhAt.fr0 (a:RhAt w x H G) (hf:Fr No w w'):RhAt w' x H G:=a.fr hf fun _ _ h=>h
theorem RhAt.lt (a:RhAt w x H G):∀ b,G b->b<w.heap.size:=by
 obtain ⟨v,P,a⟩:=a;exact a.lt
theorem RhR.len (a:RhR w x v P H G):P.length=H.L.length:=by rw [<-a.map,List.length_map]
end
def idxH (L:List (Int×Sm)) (id:Int):Int:=match L.findIdx? fun p=>p.1==id with
 | some i=>i
 | none=>-1
theorem zzb {L:List (Int×Sm)} {id:Int} {i:Nat} {p:Int×Sm} (hx:L[i]?=some p) (he:p.1=id) (hn:∀ j,j<i->∀ y,L[j]?=some y->y.1≠id):L.findIdx? (fun x=>x.1==id)=some i:=by
 obtain ⟨a,rfl⟩:=gS_ hx;rw [List.findIdx?_eq_some_iff_getElem];exact ⟨a,by simpa using he,fun j hj=>by simpa using hn j hj _ (gG_ (by omega))⟩
theorem zwn {L:List (Int×Sm)} {id:Int} (hn:∀ j,j<L.length->∀ y,L[j]?=some y->y.1≠id):L.findIdx? (fun x=>x.1==id)=none:=by
 rw [List.findIdx?_eq_none_iff];intro x b;obtain ⟨j,a,rfl⟩:=List.getElem_of_mem b;simpa using hn j a _ (gG_ a)
theorem zno {L:List (Int×Sm)} {id:Int} {i:Nat} (h:L.findIdx? (fun x=>x.1==id)=some i):∃ s,L[i]?=some (id,s)/\getH L id=some s:=by
 rw [List.findIdx?_eq_some_iff_getElem] at h;obtain ⟨c,b,d⟩:=h;have a:L[i].1=id:=by simpa using b
 refine ⟨L[i].2,by rw [gG_ c,<-a],?_⟩;unfold getH
 have:L.find? (fun p=>p.1==id)=some L[i]:=by
  rw [List.find?_eq_some_iff_getElem];exact ⟨b,i,c,rfl,fun j hj=>by simpa using d j hj⟩
 rw [this]
 rfl
theorem znp {L:List (Int×Sm)} {id:Int} (h:L.findIdx? (fun x=>x.1==id)=none):getH L id=none:=by
 rw [List.findIdx?_eq_none_iff] at h;unfold getH
 have:L.find? (fun p=>p.1==id)=none:=by
  rw [List.find?_eq_none];intro x a;simpa using h x a
 rw [this]
 rfl
theorem zfh {w:World} {x:Nat} {v:Value} {P:List ((Int×Sm)×Value)} {H:Hb} {G:Nat->Prop} (h:RhR w x v P H G) (hlen:P.length<=100000) (id:Int) :
 Calls Tryz.prog 63 #[.pointer (some ⟨x,0,none⟩),.int .i64 id] w fun e w'=>e=.returned (.int .i64 (idxH H.L id))/\w=w':=by
 obtain ⟨a,cap,rfl,u,s,m⟩:=h.sl.shape;have A:w.cell? ⟨x,2,none⟩=some (.slice a P.length cap):=cellAt h.obj 2 rfl;have C:=zab h.obj;have n:=H_ h;have o:=H_ m;rw [<-h.map];unfold maxLen at s;clear h m;go_enter Tryz.func63,Tryz.ntmps63;go_upto_region 2 with fail
 go_loopg [5] P.length (fun g s5 wr=>∃ i:Nat,s5=.int .i64 i/\i+g=P.length/\Hid (∀ j,j<i->∀ y,(P.map (·.1))[j]?=some y->y.1≠id)/\Hid (w=wr))
 case atStart=>exact ⟨0,rfl,by omega,H_ (by omega),H_ rfl⟩
 case round =>
  obtain ⟨i,rfl,z,d,q⟩:=hrel;obtain rfl:=q.out
  cases gk with
  | zero =>
    have f:¬ (i:Int)<(P.length:Int):=(by omega);go_wp2;go_ret;refine ⟨?_,rfl⟩;have k:(P.map (·.1)).findIdx? (fun x=>x.1==id)=none:=zwn fun j hj=>d.out j (by rw [List.length_map] at hj;omega);unfold idxH;rw [k]
    rfl
  | succ g =>
    have f:(i:Int)<(P.length:Int):=(by omega);obtain ⟨p,l⟩:∃ p,P[i]?=some p:=⟨_,gG_ (by omega)⟩;obtain ⟨t,D,rfl⟩:=o.out (by omega);have r:=n.out.sl.cell0 zaj i l rfl;have B:=gB_ _ _ r;have c:(P.map (·.1))[i]?=some p.1:=(by rw [List.getElem?_map,l];rfl);have b:=H_ c;clear l c;by_cases he:p.1.1=id
    · go_wp2
      go_ret;refine ⟨?_,rfl⟩;have k:=zzb b.out he d.out;unfold idxH;rw [k]
      rfl
    go_wp2
    go_roundg g
    case rel =>
     refine ⟨i+1,by go_num,by omega,H_ fun j hj y hy=>?_,H_ rfl⟩;by_cases e:j=i
     · subst e
       rw [b.out] at hy;cases hy
       exact he
     exact d.out j (by omega) y hy
    case measure=>omega
theorem zsv (w:World) (u v:Value) (L:List Int) (hu:SlF w 3 1 int1 u L) (hv:SlF w 3 1 int1 v L) (hl:L.length<=1000000) :
 Calls Tryz.prog 35 #[u,v] w fun e w'=>e=.returned (.bool true)/\Fr No w w':=by
 obtain ⟨a,c,rfl,M,G,m⟩:=hu.shape;obtain ⟨b,d,rfl,N,H,n⟩:=hv.shape;have o:=H_ hu;have q:=H_ hv;have r:=H_ m;have s:=H_ n;unfold maxLen at G H;clear hu hv m n;go_enter Tryz.func35,Tryz.ntmps35;go_wp2_with fail
 go_loopg [5] L.length (fun g s5 wr=>∃ i:Nat,s5=.int .i64 i/\i+g=L.length/\Hid (Fr No w wr))
 case atStart=>exact ⟨0,rfl,by omega,H_ (Fr.refl _ _)⟩
 case round =>
  obtain ⟨i,rfl,I,f⟩:=hrel
  cases gk with
  | zero =>
    have j:¬ (i:Int)<(L.length:Int):=(by omega);go_wp2;go_ret;exact ⟨rfl,f.out⟩
  | succ g =>
    have j:(i:Int)<(L.length:Int):=(by omega);have D:IntKind.i64.wrap (i:Int)=i:=(by rw [IntKind.wrap_i64];omega);have B:(0:Int)<=i:=(by omega);obtain ⟨y,l⟩:∃ y,L[i]?=some y:=⟨_,gG_ (by omega)⟩;obtain ⟨z,E,rfl⟩:=r.out (by omega);obtain ⟨A,F,rfl⟩:=s.out (by omega);have t:wr.drew.cell? ⟨z,E+i,none⟩=some (.int .i64 y):=(o.out.fr0 f.out.drew).cell1 zba i l rfl;have x:wr.drew.cell? ⟨A,F+i,none⟩=some (.int .i64 y):=(q.out.fr0 f.out.drew).cell1 zba i l rfl;have l1:=gB_ _ _ t;have J:=gB_ _ _ x;clear l;go_wp2_with fail;refine zak (C:=fun Z=>Z=wr.drew) (by kernel_rfl) (by kernel_rfl) rfl ?_
    repeat (refine (wpQuiet_step (fun K hK=>?_):_)
            go_simp
            first
             | (refine hK _ ?_;clear hK K)
             | (apply Exists.intro
                refine ⟨fun W hW=>?_,hK _ ?_⟩
                (first
                  | exact rfl
                  | (subst hW;go_simp;exact rfl))
                clear hK K))
    refine (wpQuiet_nil ?_:_);intro O k;subst k;go_wp2;go_roundg g
    case rel=>exact ⟨i+1,by go_num,by omega,H_ f.out.drew⟩
    case measure=>omega
theorem zqj {H:Hb} {P:List ((Int×Sm)×Value)} {i:Nat} {p:(Int×Sm)×Value} (h:P[i]?=some p) :
 ((((P.take (i+1)).map (·.1)).filter fun q=>decide (q.2.place<=H.fed)).map (·.1))=if p.1.2.place<=H.fed then ((((P.take i).map (·.1)).filter fun q=>decide (q.2.place<=H.fed)).map (·.1))++[p.1.1] else ((((P.take i).map (·.1)).filter fun q=>decide (q.2.place<=H.fed)).map (·.1)):=by
 rw [gK_,h];by_cases hp:p.1.2.place<=H.fed <;> simp [hp]
theorem zku {w:World} {x:Nat} {v:Value} {P:List ((Int×Sm)×Value)} {H:Hb} {G:Nat->Prop} (h:RhR w x v P H G) (hlen:P.length<=100000) :
 Calls Tryz.prog 36 #[.pointer (some ⟨x,0,none⟩)] w fun e w'=>∃ v',e=.returned v'/\SlF w' 3 1 int1 v' (zet H)/\Fr No w w':=by
 obtain ⟨a,cap,rfl,h1,h2,U⟩:=h.sl.shape
 have l:zet H=((((P.take P.length).map (·.1)).filter fun q=>decide (q.2.place<=H.fed)).map (·.1)):=by
  unfold zet;rw [List.take_length,h.map]
 obtain ⟨i0,E,L,M,N⟩:=info_parts info3i;have s:=H_ l;have r:=H_ h;have H3:=H_ U;unfold maxLen at h2;clear h U l;go_enter Tryz.func36,Tryz.ntmps36;go_wp2_with fail
 go_loopg [3,4] P.length (fun g s3 s4 wr=>∃ (i:Nat) (O:List Int),s4=.int .i64 i/\i+g=P.length/\O.length<=i/\Hid (O=((((P.take i).map (·.1)).filter fun q=>decide (q.2.place<=H.fed)).map (·.1)))/\Hid (SlF wr 3 1 int1 s3 O)/\Hid (Fr No w wr)/\Hid (∀ b,s3.ownBlock=some b->w.heap.size<=b))
 case atStart=>exact ⟨0,[],rfl,by omega,by simp,H_ (by simp),H_ (SlF.nil _ _ _ _),H_ (Fr.refl _ _),H_ (by simp [Value.ownBlock])⟩
 case round =>
  obtain ⟨i,O,rfl,hi,a5,t,z,f,R⟩:=hrel;have n:=r.out.fr0 f.out;have X:wr.cell? ⟨x,2,none⟩=some (.slice a P.length cap):=cellAt n.obj 2 rfl;have lx:=zab n.obj
  cases gk with
  | zero =>
    have I:¬ (i:Int)<(P.length:Int):=(by omega);have F:i=P.length:=(by omega);subst F;clear n;go_wp2;go_ret;exact ⟨_,rfl,by rw [s.out,<-t.out];exact z.out,f.out⟩
  | succ g =>
    have I:(i:Int)<(P.length:Int):=(by omega);have aa:IntKind.i64.wrap ((i:Int)+1)=i+1:=(by rw [IntKind.wrap_i64];omega);have a0:IntKind.i64.wrap (i:Int)=i:=(by rw [IntKind.wrap_i64];omega);have V:(0:Int)<=i:=(by omega);obtain ⟨p,o⟩:∃ p,P[i]?=some p:=⟨_,gG_ (by omega)⟩;obtain ⟨A,Q,rfl⟩:=H3.out (by omega);have d:=(r.out.fr0 f.out.drew).sl.toR zaj;have c0:wr.drew.cell? ⟨A,Q+i * 9,none⟩=some (.int .i64 p.1.1):=d.cell0 zaj i o rfl;have c8:wr.drew.cell? ⟨A,Q+i * 9+8,none⟩=some (.int .i64 p.1.2.place):=d.of_add zaj i 8 o rfl;have a9:wr.drew.cell? ⟨x,2,none⟩=some (.slice (some ⟨A,Q,none⟩) P.length cap):=X;have a6:wr.drew.cell? ⟨x,0,none⟩=some (.int .i64 H.fed):=cellAt (r.out.fr0 f.out.drew).obj 0 rfl
    have lf:=gB_ _ _ c0;have ae:x<wr.drew.heap.size:=lx;have c:=H_ (zqj (H:=H) o);clear o d n;go_upto_region 5 with fail
    go_cut [26] (fun s26 wx=>s26=.bool (decide (p.1.2.place<=H.fed))/\Hid (wr.drew=wx))
    case first =>
     as_aux_lemma =>
     refine zak (C:=fun Z=>Z=wr.drew) (by kernel_rfl) (by kernel_rfl) rfl ?_
     repeat (refine (wpQuiet_step (fun K hK=>?_):_)
             go_simp
             first
              | (refine hK _ ?_;clear hK K)
              | (apply Exists.intro
                 refine ⟨fun W hW=>?_,hK _ ?_⟩
                 (first
                   | exact rfl
                   | (subst hW;go_simp;exact rfl))
                 clear hK K))
     refine (wpQuiet_nil ?_:_);intro w9 J;subst J;go_wp2;go_meet
     case rel=>exact ⟨rfl,H_ rfl⟩
    case rest =>
    obtain ⟨rfl,S⟩:=hcut;have m:=S.out;rw [<-m];clear S m;have k:=H_ (z.out.fr0 (Fr.refl No wr).drew);have j:=H_ f.out.drew;clear z f X lx;generalize wr.drew=W at *;by_cases hp:p.1.2.place<=H.fed
    · rw [if_pos hp] at c
      go_wp2_with (at_builtin;refine zbd rfl _ _ 48 rfl 3 i0 _ 1 8 Tryz.underlying48 E L M N rfl (by decide) _ O rfl (k.out.alloc _) w R.out (j.out.alloc _) W.heap.size 1 p.1.1 rfl (zav W [.int .i64 p.1.1] 3 (0,0)) rfl (by intro u Y;simp [int1] at Y;rw [Y];rfl) (by unfold maxLen;omega) (by omega) ?_;rintro g1 o1 T w2 D a7 B a8);go_roundg g
      case rel=>exact ⟨i+1,O++[p.1.1],by go_num,by omega,by simp;omega,H_ (by rw [c.out,t.out]),H_ (by simpa using D),H_ B,H_ (by intro y hy;simp [Value.ownBlock] at hy;omega)⟩
      case measure=>omega
    rw [if_neg hp] at c
    go_wp2;go_roundg g
    case rel=>exact ⟨i+1,O,by go_num,by omega,by omega,H_ (by rw [c.out,t.out]),k,j,R⟩
    case measure=>omega
def growG (G:Nat->Prop) (w w':World) (b:Nat):Prop:=G b\/(w.heap.size<=b/\b<w'.heap.size)
def RhTo (w w':World) (x:Nat) (H:Hb) (G:Nat->Prop):Prop:=RhAt w' x H (growG G w w')/\Fr G w w'
theorem RhR.more {w:World} {x:Nat} {v:Value} {P:List ((Int×Sm)×Value)} {H:Hb} {G G':Nat->Prop} (a:RhR w x v P H G) (h1:∀ b,G b->G' b) (h2:∀ b,G' b->b<w.heap.size):RhR w x v P H G' :=
 { a with own:=⟨h1 _ a.own.1,a.own.2.1,fun b hb=>h1 b (a.own.2.2 b hb)⟩,buf:=fun p hp=>⟨(a.buf p hp).1,fun b hb=>⟨h1 b ((a.buf p hp).2 b hb).1,((a.buf p hp).2 b hb).2⟩⟩,lt:=h2 }
theorem RhR.to {w w':World} {x:Nat} {v:Value} {P:List ((Int×Sm)×Value)} {H:Hb} {G:Nat->Prop} (a:RhR w x v P H G) (hf:Fr No w w'):RhTo w w' x H G :=
 ⟨⟨v,P,(a.fr0 hf).more (fun _ h=>.inl h) fun b hb=>hb.elim (fun h=>nL_ (a.lt b h) hf.size) fun h=>h.2⟩,hf.mono fun _ _ h=>h.elim⟩
theorem del_at {L:List (Int×Sm)} (hu:L.Pairwise fun a b=>a.1<b.1) {i:Nat} {p:Int×Sm} (h:L[i]?=some p):delH L p.1=L.take i++L.drop (i+1):=by
 induction L generalizing i with
 | nil=>simp at h
 | cons q L ih =>
   obtain ⟨c,e⟩:=gP_ hu
   cases i with
   | zero =>
     have f:q=p:=(by simpa using h);subst f;unfold delH;rw [List.filter_cons,if_neg (by simp)];rw [List.take_zero,List.nil_append,List.drop_succ_cons,List.drop_zero];rw [List.filter_eq_self];intro y g;have:=c y g;simp;omega
   | succ i =>
     have d:L[i]?=some p:=(by simpa using h);have:=c p (gM_ d);unfold delH at ih ⊢
     rw [List.filter_cons,if_pos (by simp;omega),List.take_succ_cons,List.cons_append,List.drop_succ_cons,<-ih e d]
theorem zvz {p:(Int×Sm)×Value} {a:Option Addr} {k c:Nat} (h:p.2=.slice a k c):∀ u∈rsC p,u.oneCell'=true:=by
 intro u b;unfold rsC smC at b;rw [h] at b;simp only [List.mem_cons,List.not_mem_nil,or_false] at b;rcases b with h | h | h | h | h | h | h | h | h <;> (rw [h];rfl)
theorem RhR.ones {w:World} {x:Nat} {v:Value} {P:List ((Int×Sm)×Value)} {H:Hb} {G:Nat->Prop} (a:RhR w x v P H G):∀ p∈P,∀ u∈rsC p,u.oneCell'=true:=fun p hp=>by
 obtain ⟨b,c,h,_⟩:=(a.buf p hp).1.shape;exact zvz h
theorem info130:(Tryz.prog.info? 130).map (fun i=>(i.zero,i.size,i.bytes))=some (some (.agg #[.int .i64 0,.string ByteArray.empty,.string ByteArray.empty,.int .i64 0,.bool false,.bool false,.bool false,.slice none 0 0,.int .i64 0]),9,88):=by kernel_rfl
theorem SlF.empty0 {α:Type} {f:α->List Value} {w:World} {e sz g o cap:Nat} {L:List α} (h:SlF w e sz f (.slice (some ⟨g,o,none⟩) L.length cap) L):SlF w e sz f (.slice (some ⟨g,o,none⟩) 0 0) []:=by
 obtain ⟨a,b,c,d,i,j⟩:=h.inner;exact ⟨by simp,.inr ⟨g,o,0,a,by simp,b,Nat.le_refl _,Nat.zero_le _,by omega,by simp⟩⟩
theorem RhR.put {w w1:World} {x:Nat} {v:Value} {P:List ((Int×Sm)×Value)} {H:Hb} {G:Nat->Prop} (h:RhR w x v P H G) (hf:Fr No w w1) {u:Value} {Q:List ((Int×Sm)×Value)} {L:List (Int×Sm)} (hu:SlF w1 130 9 rsC u Q) (hn:∀ b,u.ownBlock=some b->w.heap.size<=b)
 (hQ:∀ q∈Q,q∈P) (hm:Q.map (·.1)=L):RhTo w (w1.setCell ⟨x,2,none⟩ u) x ⟨H.fed,H.last,L⟩ G:=by
 have g:=h.lt x h.own.1;have i:=zac (hf.heap h.obj fun h=>h) 2 u;have c:Fr (fun b=>b=x) w1 (w1.setCell ⟨x,2,none⟩ u):=Fr.setCell (p:=⟨x,2,none⟩) (Fr.refl (fun b=>b=x) w1) (.inl rfl) u;have j:(w1.setCell ⟨x,2,none⟩ u).heap.size=w1.heap.size:=by simp [World.setCell]
 have d:∀ b,u.ownBlock=some b->b≠x:=fun b e a=>by have:=hn b e;omega
 have f:=hf.size;refine ⟨⟨u,Q,?_,hu.fr c fun b hb e=>d b hb e,hm,⟨.inl h.own.1,fun e=>d x e rfl,fun b hb=>.inr ⟨hn b hb,by have:=hu.lt b hb;omega⟩⟩,fun q hq=>?_,fun b hb=>hb.elim (fun hb=>by have:=h.lt b hb;omega) fun hb=>by omega⟩,(hf.mono fun _ _ s=>s.elim).setCell (.inl h.own.1) u⟩
 · rw [i];simp
 have a:=h.buf q (hQ q hq)
 exact ⟨(a.1.fr0 hf).fr c fun b hb e=>(a.2 b hb).2.1 e,fun b hb=>⟨.inl (a.2 b hb).1,(a.2 b hb).2.1,fun e=>by have:=hn b e;have:=h.lt b (a.2 b hb).1;omega⟩⟩
theorem zhh {w:World} {x:Nat} {v:Value} {P:List ((Int×Sm)×Value)} {H:Hb} {G:Nat->Prop} (h:RhR w x v P H G) (hk:HbOk H) (hlen:P.length<=100000) (id:Int) :
 Calls Tryz.prog 34 #[.pointer (some ⟨x,0,none⟩),.int .i64 id] w fun e w'=>e=.returned (.int .i64 (takeE H id))/\RhTo w w' x (closeH H id) G:=by
 have f:=zfh h hlen id
 unfold idxH at f;unfold takeE closeH
 cases hm:H.L.findIdx? fun p=>p.1==id with
 | none =>
   rw [hm] at f;rw [znp hm,if_pos rfl,if_pos rfl]
   have k:=H_ f;have H0:=H_ h;clear h f hm;dsimp only at k;go_enter Tryz.func34,Tryz.ntmps34;go_wp2_with (go_at_call 63;(with_reducible refine k.out.mono ?_);rintro e w' ⟨rfl,rfl⟩);go_ret;exact ⟨rfl,H0.out.to (Fr.refl No w)⟩
 | some i =>
   rw [hm] at f;obtain ⟨s,hx,hg⟩:=zno hm;rw [hg,if_neg (by simp),if_neg (by simp)];have a7:=h.len;have al:i<P.length:=(by have:=(gS_ hx).1;omega);have n:=del_at hk.up hx;rw [<-h.map,<-List.map_take,<-List.map_drop,<-List.map_append,h.map] at n;obtain ⟨a,cap,rfl,h1,h2,h3⟩:=h.sl.shape;obtain ⟨J,R,rfl⟩:=h3 (by omega);have hc:w.cell? ⟨x,2,none⟩=some (.slice (some ⟨J,R,none⟩) P.length cap):=cellAt h.obj 2 rfl;have a1:=h.sl.take zaj i (by omega);have W:=h.sl.drop zaj (i+1) (by omega);have u:=h.ones;have S:Hid ((P.take i++P.drop (i+1)).map (·.1)=delH H.L id):=H_ n.symm;have a5:=H_ a1;have a4:=H_ W
   have k:=H_ f;have HH:=H_ h;have m:=H_ u;have ah:(i:Int)<(P.length:Int):=(by omega);have ad:(P.length:Int)<=(cap:Int):=(by omega);have ao:0<=(i:Int):=(by omega);have ai:¬ (i:Int)<0:=(by omega);have am:x<w.heap.size:=zab h.obj;have ap:IntKind.i64.wrap ((i:Int)+1)=(i:Int)+1:=(by rw [IntKind.wrap_i64];omega);unfold maxLen at h2;obtain ⟨i0,M,N,O,Q⟩:=info_parts info130;clear h f hm hx hg h3 n a1 W u a7;dsimp only at k;go_enter Tryz.func34,Tryz.ntmps34
   go_upto_region 6 with (first
    | (go_at_call 63;(with_reducible refine k.out.mono ?_);rintro e w' ⟨rfl,rfl⟩)
    | (at_builtin;refine zbv rfl _ _ 81 rfl 130 i0 _ 9 88 Tryz.underlying81 M N O Q rfl (by decide) zaj (.slice none 0 0) (.slice (some ⟨J,R,none⟩) i cap) [] (P.take i) (fun p hp=>m.out p (List.mem_of_mem_take hp)) rfl rfl (SlF.nil _ _ _ _) a5.out (by rw [List.length_take];unfold maxLen;simp only [List.length_nil];omega) (by rw [List.length_take];simp only [List.length_nil];omega) ?_;intro U k5 d w5 a0 Z Y))
   have o:Fr No w w5:=Y.mono fun b _ e=>by simp [Value.ownBlock] at e
   have E:∀ b,(Value.slice U k5 d).ownBlock=some b->w.heap.size<=b:=fun b hb=>(Z b hb).elim (fun e=>by simp [Value.ownBlock] at e) fun e=>e;have K:=HH.out.fr0 o;have an:w5.cell? ⟨x,2,none⟩=some (.slice (some ⟨J,R,none⟩) P.length cap):=cellAt K.obj 2 rfl;have ar:=zab K.obj;have I:=H_ a0;have T:=H_ E;have A:=H_ o;rw [List.nil_append] at I;clear a0 Z Y o E K
   have B:Hid (∀ C F c g,SlF g 130 9 rsC (.slice C F c) (P.take i++P.drop (i+1))->(∀ j,(Value.slice C F c).ownBlock=some j->(Value.slice U k5 d).ownBlock=some j\/w5.heap.size<=j)->Fr (fun b=>(Value.slice U k5 d).ownBlock=some b) w5 g →
    RhTo w (g.setCell ⟨x,2,none⟩ (.slice C F c)) x ⟨H.fed,H.last,delH H.L id⟩ G/\g.cell? ⟨x,2,none⟩=some (.slice (some ⟨J,R,none⟩) P.length cap)/\g.frozen? ⟨x,2,none⟩=false/\x<g.heap.size):=H_ fun C F c g z t r=>by
    have D:Fr No w g:=A.out.trans r fun b hb e=>by have:=T.out b e;omega
    have ho:=D.heap HH.out.obj fun h=>h;refine ⟨HH.out.put D z (fun b hb=>(t b hb).elim (T.out b) fun e=>by have:=A.out.size;omega) (fun q hq=>?_) S.out,cellAt ho 2 rfl,by unfold World.frozen?;rw [ho];simp,zab ho⟩;rcases gA_ hq with h | h
    · exact List.mem_of_mem_take h
    exact List.mem_of_mem_drop h
   by_cases hce:cap=i+1
   · have X:=HH.out.sl.empty0
     have a6:P.length-(i+1)=0:=(by omega);have V:P.drop (i+1) = []:=List.drop_of_length_le (by omega);have l:Hid (SlF w5 130 9 rsC (.slice (some ⟨J,R,none⟩) 0 0) (P.drop (i+1))):=H_ (by rw [V];exact X.fr0 A.out);clear X a6 V;subst hce;go_wp2_with (at_builtin;(refine zbv rfl _ _ 81 rfl 130 i0 _ 9 88 Tryz.underlying81 M N O Q rfl (by decide) zaj (.slice U k5 d) (.slice (some ⟨J,R,none⟩) 0 0) (P.take i) (P.drop (i+1)) (fun p hp=>m.out p (List.mem_of_mem_drop hp)) rfl rfl I.out l.out (by rw [List.length_take,List.length_drop];unfold maxLen;omega) (by rw [List.length_take,List.length_drop];omega) ?_;intro C F c g z t r;obtain ⟨y,x6,z6,l6⟩:=B.out C F c g z t r));go_ret;exact ⟨rfl,y⟩
   have l:=H_ (a4.out.fr0 A.out)
   have ae:i+1<cap:=(by omega);have af:¬ cap-(i+1)=0:=(by omega);go_wp2_with (at_builtin;(refine zbv rfl _ _ 81 rfl 130 i0 _ 9 88 Tryz.underlying81 M N O Q rfl (by decide) zaj (.slice U k5 d) (.slice (some ⟨J,R+(i+1) * 9,none⟩) (P.length-(i+1)) (cap-(i+1))) (P.take i) (P.drop (i+1)) (fun p hp=>m.out p (List.mem_of_mem_drop hp)) rfl rfl I.out l.out (by rw [List.length_take,List.length_drop];unfold maxLen;omega) (by rw [List.length_take,List.length_drop];omega) ?_;intro C F c g z t r;obtain ⟨y,x6,z6,l6⟩:=B.out C F c g z t r));go_ret;exact ⟨rfl,y⟩
end Go.Proofs.YtdgkdfmfoonbpaaGreat