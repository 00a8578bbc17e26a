/- Own lemmas. -/
import Derived.Test.YtdgkdfmfoonbpaaGreatW29
import Derived.Test.YtdgkdfmfoonbpaaGreatW30
import Derived.Test.YtdgkdfmfoonbpaaGreatW16
import Derived.Test.YtdgkdfmfoonbpaaGreatW23
import Derived.Test.YtdgkdfmfoonbpaaGreatW15
import Derived.Test.YtdgkdfmfoonbpaaGreatW07
import Derived.Test.YtdgkdfmfoonbpaaGreatW19
import Derived.Test.YtdgkdfmfoonbpaaGreatW24
import Derived.Deep.MidRow
import Derived.Deep.WholeRow
import Derived.Deep.DeepCutAuto
import Derived.ProofKit
import Derived.Deep.Slices
import Derived.Deep.Fields
import Derived.ChangeSame
import Derived.Deep.RegionHeld3
import Derived.BigRegion
namespace Go.Proofs.YtdgkdfmfoonbpaaGreat
open Go Go.Proofs Go.RowKit
theorem info31l (q:ActQ):(Tryz.prog.info? 31).map (·.size)=some (actC q).length:=by rw [zap];kernel_rfl
theorem info29l (t:Wt):(Tryz.prog.info? 29).map (·.size)=some (wtC t).length:=by kernel_rfl
theorem info27l (q:CalQ):(Tryz.prog.info? 27).map (·.size)=some (calC q).length:=by rw [zcp];kernel_rfl
theorem row31:(Tryz.prog.underlying 31).map TypeDesc.isRow=some true:=by kernel_rfl
theorem row29:(Tryz.prog.underlying 29).map TypeDesc.isRow=some true:=by kernel_rfl
theorem row27:(Tryz.prog.underlying 27).map TypeDesc.isRow=some true:=by kernel_rfl
theorem row_of {P:Program} {t:TypeId} (h:(P.underlying t).map TypeDesc.isRow=some true):∃ d,P.underlying t=some d/\d.isRow=true:=by
 cases hq:P.underlying t with
 | none=>rw [hq] at h;cases h
 | some d=>rw [hq] at h;exact ⟨d,rfl,by simpa using h⟩
theorem zau {P:Program} {ops:Array Oper} {rest:List Oper} {op:Oper} {a:Act} {w:World} {Q:Exit->Act->World->Prop} (hgd:op.guard=none) (ty:TypeId) (x:Operand) (ho:op.op=.load ty x)
 (b o:Nat) (hx:a.eval x=.pointer (some ⟨b,o,none⟩)) (cs:List Value) (hc:w.rangeAt b o cs) (hu:(P.underlying ty).map TypeDesc.isRow=some true) (hi:(P.info? ty).map (·.size)=some cs.length)
 (h:wpList P ops Q rest (a.put op.dst (.agg cs.toArray)) w):wpList P ops Q (op :: rest) a w:=by
 obtain ⟨d,c,e⟩:=row_of hu;exact wpList_load_mid hgd ty x ho b o hx cs d hc c e hi h
theorem zed {P:Program} {ops:Array Oper} {rest:List Oper} {op:Oper} {a:Act} {w0:World} {Q:Exit->Act->World->Prop} (hgd:op.guard=none) (hd:op.dst=none) (ty:TypeId) (x y:Operand) (ho:op.op=.store ty x y) (c:Array Value) (cs:List Value)
 (hx:a.eval x=.pointer (some ⟨w0.heap.size,0,none⟩)) (hy:a.eval y=.agg cs.toArray) (hi:(P.info? ty).map (·.size)=some cs.length) (hc:c.size=cs.length) (h1:∀ u∈cs,u.oneCell'=true)
 (h:wpList P ops Q rest a (w0.alloc (.cells cs.toArray ty))):wpList P ops Q (op :: rest) a (w0.alloc (.cells c ty)):=by
 have b:a.put op.dst undef=a:=by rw [hd];rfl
 rw [<-b] at h;refine wpList_plain hgd fun _ hK=>?_;unfold Oper.wp execOp;simp only [ho,hx,hy,run_storeAt_new (P:=P) w0 ty c cs.toArray (by simpa using hi) (by simpa using hc) (by rw [Array.all_eq_true_iff_forall_mem];intro u d;exact h1 u (by simpa using d)),Sem.run_bind,Sem.run_pure,Result.andThen_ok];exact hK _ _ h
theorem zfh {w:World} {b:Nat} {cs:List Value} {t:TypeId} (h:w.heap[b]?=some (.cells cs.toArray t (0,0))) (o n:Nat):w.rangeAt b o ((cs.drop o).take n):=by
 intro j v a
 have c:cs[o+j]?=some v:=by
  rw [List.getElem?_take] at a
  split at a
  · rwa [List.getElem?_drop] at a
  cases a
 unfold World.cell?;simp only [h,Option.isSome_none,Bool.false_eq_true,if_false];simpa using c
theorem SlR.rangeAt {α:Type} {f:α->List Value} {w:World} {sz g o cap:Nat} {L:List α} (hf:∀ x,(f x).length=sz) (h:SlR w sz f (.slice (some ⟨g,o,none⟩) L.length cap) L) (i:Nat) {x:α} (hx:L[i]?=some x):w.rangeAt g (o+i * sz) (f x):=by
 intro j v a
 cases j with
 | zero=>exact h.cell0 hf i hx a
 | succ j=>exact h.cell hf i (j+1) hx a
structure ActAt (W:World) (b:Nat) (q:ActQ):Prop where
 all:W.rangeAt b 0 (actC q)
 call:W.rangeAt b 1 (calC q.call)
 w:W.rangeAt b 13 (wtC q.w)
 kind:W.cell? ⟨b,0,none⟩=some (.int .i64 q.kind)
 id:W.cell? ⟨b,19,none⟩=some (.int .i64 q.id)
theorem ActAt.of {W:World} {b:Nat} {q:ActQ} {t:TypeId} (h:W.heap[b]?=some (.cells (actC q).toArray t (0,0))):ActAt W b q :=
 ⟨zfh h 0 20,zfh h 1 12,zfh h 13 6,cellAt h 0 rfl,cellAt h 19 rfl⟩
theorem zpl {q:ActQ} {oa ka:Option Addr} {n1 c1 n2 c2:Nat} (h1:q.call.1.ops=.slice oa n1 c1) (h2:q.call.1.keys=.slice ka n2 c2):∀ u∈actC q,u.oneCell'=true:=by
 intro u a;unfold actC calC rgC wtC at a;rw [h1,h2] at a;simp only [List.mem_cons,List.not_mem_nil,or_false,List.cons_append,List.nil_append] at a;rcases a with h | h | h | h | h | h | h | h | h | h | h | h | h | h | h | h | h | h | h | h <;> (rw [h];rfl)
theorem CntInv.closes {H:Hb} {id:Int} {gone:Bool} (h:CntInv H id gone):CntInv (closeH H id) id (gone||thereB H id gone):=by
 unfold closeH
 cases ht:thereB H id gone with
 | true =>
   rw [if_neg (h.there.1 ht)];have:=h.close
   rwa [ht] at this
 | false =>
   have:getH H.L id=none:=by
    cases hg:getH H.L id with
    | none=>rfl
    | some s=>have:=h.there.2 (by rw [hg];simp);rw [ht] at this;cases this
   rw [if_pos this,Bool.or_false];exact h
theorem Both.mono {TA:zan} {w:World} {h st k n k' n':Nat} {S:St} {D:Doc} {H:Hb} {B:Nat->Prop} (a:Both TA w h st k n S D H B) (h1:k<=k') (h2:n<=n'):Both TA w h st k' n' S D H B:=by
 obtain ⟨p,r⟩:=a;exact ⟨⟨p.good.mono h1,p.q,p.fed,Nat.le_trans p.len h2,by have:=p.last;omega⟩,r⟩
theorem Both.behind {TA:zan} (_hT:TreeOk TA 1000000) {w:World} {h st k n:Nat} {S:St} {D:Doc} {H:Hb} {B:Nat->Prop} (a:Both TA w h st k n S D H B) (hn:n<=1000) :
 Calls Tryz.prog 17 #[.pointer (some ⟨h,0,none⟩)] w fun e w'=>∃ v,e=.returned v/\SlF w' 3 1 int1 v (zdy H)/\Fr No w w'/\(∀ b,v.ownBlock=some b->w.heap.size<=b):=by
 obtain ⟨p,F,G,c,_⟩:=a;have d:=p.len;have f:=p.last;exact zmo c (by omega) (by omega)
def ActTo (TA:zan) (w W w':World) (h s k:Nat) (S:St) (D:Doc) (H:Hb) (B B':Nat->Prop):Prop :=
 Both TA w' h s k k S D H B'/\Fr B W w'/\(∀ b,B' b->B b\/W.heap.size<=b)/\(∀ b,B' b->w.heap.size<=b)/\Fr No w w'
structure ActF (TA:zan) (w wr:World) (h s k:Nat) (S:St) (D:Doc) (H:Hb) (B:Nat->Prop) (q:ActQ):Prop where
 os:∃ a c,q.call.1.ops=.slice a q.call.2.1.length c
 ks:∃ a c,q.call.1.keys=.slice a q.call.2.2.length c
 feed:∀ W,Fr No wr W->Calls Tryz.prog 13 #[.pointer (some ⟨h,0,none⟩)] W fun e w'=>e=.returned (.tuple #[])/\∃ B',ActTo TA w W w' h s (k+1) S D (feedH D H) B B'
 opn:∀ W,Fr No wr W->Calls Tryz.prog 12 #[.pointer (some ⟨h,0,none⟩),.agg (wtC q.w).toArray] W fun e w'=>e=.returned (.tuple #[.int .i64 (if openE q.w=0 then H.last+1 else 0),.int .i64 (openE q.w)])/\∃ B',ActTo TA w W w' h s (k+1) S D (if openE q.w=0 then openH H q.w else H) B B'
 take:∀ W j,(Lit.int .i64 j).wf=true->Fr No wr W->Calls Tryz.prog 14 #[.pointer (some ⟨h,0,none⟩),.int .i64 j] W fun e w'=>∃ v,e=.returned (.tuple #[batV v (takeB D H j),.int .i64 (takeE H j)])/\SlF w' 72 13 evC v (takeB D H j).evs/\∃ B',ActTo TA w W w' h s (k+1) S D (takeH D H j) B B'/\(∀ b,v.ownBlock=some b->w.heap.size<=b/\(B b\/W.heap.size<=b)/\¬ B' b)
 close:∀ W j,(Lit.int .i64 j).wf=true->Fr No wr W->Calls Tryz.prog 15 #[.pointer (some ⟨h,0,none⟩),.int .i64 j] W fun e w'=>e=.returned (.int .i64 (takeE H j))/\∃ B',ActTo TA w W w' h s (k+1) S D (closeH H j) B B'
 does:∀ W,Fr No wr W->Calls Tryz.prog 27 #[.pointer (some ⟨s,0,none⟩),.agg (calC q.call).toArray] W fun e w'=>e=.returned (.int .i64 (doE S q.call))/\∃ B',ActTo TA w W w' h s (k+1) (doT S q.call) (doD S D q.call) H B B'
theorem actF {TA:zan} (hT:TreeOk TA 1000000) (hTD:TreeDl TA) {w wr:World} {h s k:Nat} {S:St} {D:Doc} {H:Hb} {B:Nat->Prop} (a:Both TA wr h s k k S D H B) (hk:k<=70) {q:ActQ} (hq1:fewCal q.call=true) (hq2:q.w.key.size<=3000) (hfr:(Lit.int .i64 q.w.frm).wf=true)
 (ho:SlR w 10 opC q.call.1.ops q.call.2.1) (hks:SlR w 1 strC q.call.1.keys q.call.2.2) (hN:∀ b,B b->w.heap.size<=b) (hF:Fr No w wr):ActF TA w wr h s k S D H B q:=by
 have g:∀ {W w':World} {o:St} {m:Doc} {n:Hb} {d:Nat->Prop} {y z:Nat},Fr No wr W->Both TA w' h s y z o m n d->y<=k+1->z<=k+1->Fr B W w'->(∀ b,d b->B b\/W.heap.size<=b)->ActTo TA w W w' h s (k+1) o m n B d:=by
  intro W w' o m n d y z c b1 E F b2 f;have t:=c.size;have r:=hF.size;exact ⟨b1.mono E F,b2,f,fun b hb=>(f b hb).elim (hN b) fun x=>by omega,(hF.trans0 c).trans b2 fun b hb x=>by have:=hN b x;omega⟩
 obtain ⟨K,L,u,_⟩:=ho.shape;obtain ⟨I,J,l,_⟩:=hks.shape;refine ⟨⟨K,L,u⟩,⟨I,J,l⟩,fun W c=>?_,fun W c=>?_,fun W j hj c=>?_,fun W j hj c=>?_,fun W c=>?_⟩
 · refine ((a.fr0 hT c).feed hT hk (by omega)).mono ?_
   rintro e w' ⟨rfl,d,b1,b2,f⟩;exact ⟨rfl,d,g c b1 (by omega) (by omega) b2 f⟩
 · refine ((a.fr0 hT c).«open» hT hk (by omega) q.w hq2 hfr).mono ?_
   rintro e w' ⟨rfl,d,b1,b2,f⟩;exact ⟨rfl,d,g c b1 (by omega) (by omega) b2 f⟩
 · refine ((a.fr0 hT c).take hT hk j hj).mono ?_
   rintro e w' ⟨v,rfl,G,d,b1,b2,f,A,C⟩;have t:=c.size;have r:=hF.size;exact ⟨v,rfl,G,d,g c b1 (by omega) (by omega) b2 f,fun b hb=>⟨(A b hb).elim (hN b) fun x=>by omega,A b hb,C b hb⟩⟩
 · refine ((a.fr0 hT c).close hT j hj).mono ?_
   rintro e w' ⟨rfl,d,b1,b2,f⟩;exact ⟨rfl,d,g c b1 (by omega) (by omega) b2 fun b hb=>.inl (f b hb)⟩
 have i:=(Good.does_at a.p.good hk hq1).1
 refine ((a.fr0 hT c).does hT hTD hk q.call hq1 ((ho.fr0 hF).fr0 c) ((hks.fr0 hF).fr0 c) (fun hp b hb hx=>by have:=ho.lt zae (by decide) hp b hb;have:=hN b hx;omega) (fun hp b hb hx=>by have:=hks.lt zck (by decide) hp b hb;have:=hN b hx;omega) i).mono ?_;rintro e w' ⟨rfl,d,b1,b2,f⟩;exact ⟨rfl,d,g c b1 (by omega) (by omega) b2 f⟩
open Go Go.Proofs Go.ChangeShapes Go.WideShapes Go.ChangeAt Go.RowKit Go.Deep
set_option maxRecDepth 100000
theorem znd {α:Type} (P:Nat->α->Prop):∀ n:Nat,(∀ i,i<n->∃ x,P i x)->∃ L:List α,L.length=n/\∀ (i:Nat) (x:α),L[i]?=some x->P i x
 | 0,_=>⟨[],rfl,fun i x h=>by simp at h⟩
 | n+1,h=>by
   obtain ⟨L,h1,h2⟩:=znd P n fun i hi=>h i (by omega);obtain ⟨x,hx⟩:=h n (by omega);refine ⟨L++[x],by simp [h1],fun i y hy=>?_⟩;by_cases hi:i<L.length
   · rw [List.getElem?_append_left hi] at hy
     exact h2 i y hy
   rw [List.getElem?_append_right (by omega)] at hy
   have h0:i-L.length=0:=by
    have:=(List.getElem?_eq_some_iff.1 hy).1;simp at this;omega
   rw [h0] at hy;simp at hy;subst hy;rw [show i=n by omega];exact hx
section
variable {H:Type} {enc:TypeId×Value->H} {w:World} {base:Nat} {spare:Nat->Bool} {held:Bool}
theorem zlj {α:Type} {t e:TypeId} {sz:Nat} (f:α->List Value) (hu:Tryz.prog.underlying t=some (.slice e)) (hC:Tryz.prog.cellsOf e=sz) (hsz:0<sz) (hf:∀ x,(f x).length=sz)
 (hel:∀ n cs x,DataW.trod enc Tryz.prog w base spare held n e cs=some x->cs.length=sz->∃ y,cs=f y) {fuel:Nat} {cs:List Value} {x:DataW H×List MemPlace}
 (h:DataW.trod enc Tryz.prog w base spare held fuel t cs=some x):∃ v L,cs = [v]/\SlR w sz f v L/\∀ b,v.ownBlock=some b->base<=b:=by
 rcases open_slice hu h with ⟨rfl,_⟩ | ⟨a,len,cap,m,n,D,N,rfl,O,P,K,A,Q,G⟩
 · exact ⟨_,[],rfl,SlR.nil _ _ _,by simp [Value.ownBlock]⟩
 have J:len<=m:=by rw [A];split <;> omega
 obtain ⟨L,l,d⟩:=znd (fun i y=>∀ j,j<sz->w.cell? ((a.add (i * sz)).add j)=(f y)[j]?) len fun i him=>by
  obtain ⟨E,B,M⟩:=G i (by omega);rw [hC] at B;obtain ⟨_,s,r⟩:=World.cells?_some B;obtain ⟨y,rfl⟩:=hel _ _ _ M s;exact ⟨y,r⟩
 refine ⟨_,L,rfl,⟨some a,cap,by rw [l],by omega,K,fun hp=>?_⟩,fun b hb'=>?_⟩
 · obtain ⟨g,o,C⟩:=a
   have F:C=none:=by
    have c:∃ k,L[0]?=some k:=⟨_,List.getElem?_eq_getElem hp⟩;obtain ⟨k,c⟩:=c;have:=d 0 k c 0 hsz;have z:0<(f k).length:=(by rw [hf];exact hsz);rw [Nat.zero_mul] at this;simp only [Addr.add,if_true] at this;rw [List.getElem?_eq_getElem z] at this;unfold World.cell? at this
    cases C with
    | none=>rfl
    | some q =>
      simp only [Option.isSome_some,if_true] at this
      split at this <;> simp at this
   subst F;refine ⟨g,o,rfl,fun i y hy j u hu'=>?_⟩
   have I:j<sz:=by
    have:=(List.getElem?_eq_some_iff.1 hu').1
    rwa [hf] at this
   have:=d i y hy j I;rw [hu'] at this;rw [<-this]
   congr 1
   unfold Addr.add;by_cases h1:i * sz=0
   · by_cases h2:j=0
     · simp [h1,h2]
     simp [h1,h2]
   by_cases h2:j=0
   · simp [h1,h2]
   simp [h1,h2]
 simp [Value.ownBlock] at hb'
 omega
theorem Tryz.cells9:Tryz.prog.cellsOf 9=1:=by kernel_rfl
theorem Tryz.cells3:Tryz.prog.cellsOf 3=1:=by kernel_rfl
theorem Tryz.cells4:Tryz.prog.cellsOf 4=1:=by kernel_rfl
theorem Tryz.cells24:Tryz.prog.cellsOf 24=7:=by kernel_rfl
theorem Tryz.cells139:Tryz.prog.cellsOf 139=10:=by kernel_rfl
theorem Tryz.cells22:Tryz.prog.cellsOf 22=1:=by kernel_rfl
theorem zsi (n:Nat) (cs:List Value) (x:DataW H×List MemPlace) (h:DataW.trod enc Tryz.prog w base spare held n 24 cs=some x) (hl:cs.length=7):∃ y,cs=rgC y:=by
 obtain ⟨E,b,_,_,_,c,a⟩:=DataW.trod_struct Tryz.underlying24 h
 match cs,hl with
 | [c0,c1,c2,c3,c4,c5,c6],_ =>
   match E,c with
   | [y0,y1,y2,y3,y4,y5,y6],_ =>
     have l:DataW.trod enc Tryz.prog w base spare held b 9 [c0]=some y0:=(by have:=a 0 _ rfl;simpa [Tryz.cells9] using this);have m:DataW.trod enc Tryz.prog w base spare held b 9 [c1]=some y1:=(by have:=a 1 _ rfl;simpa [Tryz.cells9] using this);have o:DataW.trod enc Tryz.prog w base spare held b 3 [c2]=some y2:=(by have:=a 2 _ rfl;simpa [Tryz.cells3] using this);have q:DataW.trod enc Tryz.prog w base spare held b 3 [c3]=some y3:=(by have:=a 3 _ rfl;simpa [Tryz.cells3] using this);have r:DataW.trod enc Tryz.prog w base spare held b 4 [c4]=some y4:=(by have:=a 4 _ rfl;simpa [Tryz.cells4] using this);have s:DataW.trod enc Tryz.prog w base spare held b 4 [c5]=some y5:=(by have:=a 5 _ rfl;simpa [Tryz.cells4] using this)
     have t:DataW.trod enc Tryz.prog w base spare held b 4 [c6]=some y6:=(by have:=a 6 _ rfl;simpa [Tryz.cells4] using this);obtain ⟨u,d,_⟩:=DataW.trod_string Tryz.underlying9 l;obtain ⟨v,e,_⟩:=DataW.trod_string Tryz.underlying9 m;obtain ⟨z,f,_⟩:=DataW.trod_int Tryz.underlying3 o;obtain ⟨A,g,_⟩:=DataW.trod_int Tryz.underlying3 q;obtain ⟨B,i,_⟩:=DataW.trod_bool Tryz.underlying4 r;obtain ⟨C,j,_⟩:=DataW.trod_bool Tryz.underlying4 s;obtain ⟨D,k,_⟩:=DataW.trod_bool Tryz.underlying4 t;simp only [List.cons.injEq,and_true] at d e f g i j k;subst d e f g i j k;exact ⟨⟨u,v,z,A,B,C,D⟩,rfl⟩
theorem zwb (n:Nat) (cs:List Value) (x:DataW H×List MemPlace) (h:DataW.trod enc Tryz.prog w base spare held n 139 cs=some x) (hl:cs.length=10):∃ y,cs=opC y:=by
 obtain ⟨s,b,_,_,_,d,a⟩:=DataW.trod_struct Tryz.underlying139 h
 match cs,hl with
 | [c0,c1,c2,c3,c4,c5,c6,c7,c8,c9],_ =>
   match s,d with
   | [y0,y1,y2,y3],_ =>
     have i:DataW.trod enc Tryz.prog w base spare held b 3 [c0]=some y0:=(by have:=a 0 _ rfl;simpa [Tryz.cells3] using this);have j:DataW.trod enc Tryz.prog w base spare held b 24 [c1,c2,c3,c4,c5,c6,c7]=some y1:=(by have:=a 1 _ rfl;simpa [Tryz.cells24] using this);have k:DataW.trod enc Tryz.prog w base spare held b 9 [c8]=some y2:=(by have:=a 2 _ rfl;simpa [Tryz.cells9] using this);have l:DataW.trod enc Tryz.prog w base spare held b 3 [c9]=some y3:=(by have:=a 3 _ rfl;simpa [Tryz.cells3] using this);obtain ⟨m,e,_⟩:=DataW.trod_int Tryz.underlying3 i;obtain ⟨r,c⟩:=zsi _ _ _ j rfl;obtain ⟨o,f,_⟩:=DataW.trod_string Tryz.underlying9 k;obtain ⟨q,g,_⟩:=DataW.trod_int Tryz.underlying3 l;unfold rgC at c;simp only [List.cons.injEq,and_true] at e c f g;obtain ⟨rfl,rfl,rfl,rfl,rfl,rfl,rfl⟩:=c
     subst e f g;exact ⟨⟨m,r,o,q⟩,rfl⟩
end
section
variable {H:Type} {enc:TypeId×Value->H} {w:World} {base:Nat} {spare:Nat->Bool} {held:Bool}
theorem Tryz.cells25:Tryz.prog.cellsOf 25=1:=by kernel_rfl
theorem Tryz.cells27:Tryz.prog.cellsOf 27=12:=by kernel_rfl
theorem zui (n:Nat) (cs:List Value) (x:DataW H×List MemPlace) (h:DataW.trod enc Tryz.prog w base spare held n 9 cs=some x) (_:cs.length=1):∃ y,cs=strC y:=by
 obtain ⟨s,e,_⟩:=DataW.trod_string Tryz.underlying9 h;exact ⟨s,e⟩
theorem zuk (n:Nat) (cs:List Value) (x:DataW H×List MemPlace) (h:DataW.trod enc Tryz.prog w base spare held n 27 cs=some x) (hl:cs.length=12) :
 ∃ q:Cal×List Opr×List ByteArray,cs=calC q/\SlR w 10 opC q.1.ops q.2.1/\SlR w 1 strC q.1.keys q.2.2:=by
 obtain ⟨D,b,_,_,_,d,a⟩:=DataW.trod_struct Tryz.underlying27 h
 match cs,hl with
 | [c0,c1,c2,c3,c4,c5,c6,c7,c8,c9,c10,c11],_ =>
   match D,d with
   | [y0,y1,y2,y3,y4,y5],_ =>
     have m:DataW.trod enc Tryz.prog w base spare held b 3 [c0]=some y0:=(by have:=a 0 _ rfl;simpa [Tryz.cells3,Value.cells] using this);have o:DataW.trod enc Tryz.prog w base spare held b 22 [c1]=some y1:=(by have:=a 1 _ rfl;simpa [Tryz.cells22,Value.cells] using this);have s:DataW.trod enc Tryz.prog w base spare held b 24 [c2,c3,c4,c5,c6,c7,c8]=some y2:=(by have:=a 2 _ rfl;simpa [Tryz.cells24,Value.cells] using this);have t:DataW.trod enc Tryz.prog w base spare held b 3 [c9]=some y3:=(by have:=a 3 _ rfl;simpa [Tryz.cells3,Value.cells] using this);have u:DataW.trod enc Tryz.prog w base spare held b 3 [c10]=some y4:=(by have:=a 4 _ rfl;simpa [Tryz.cells3,Value.cells] using this)
     have v:DataW.trod enc Tryz.prog w base spare held b 25 [c11]=some y5:=(by have:=a 5 _ rfl;simpa [Tryz.cells25,Value.cells] using this);obtain ⟨A,e,_⟩:=DataW.trod_int Tryz.underlying3 m;obtain ⟨E,k,f,y,_⟩:=zlj opC Tryz.underlying22 Tryz.cells139 (by omega) zae (fun n cs x=>zwb n cs x) o;obtain ⟨r,c⟩:=zsi _ _ _ s rfl;obtain ⟨B,g,_⟩:=DataW.trod_int Tryz.underlying3 t;obtain ⟨C,i,_⟩:=DataW.trod_int Tryz.underlying3 u;obtain ⟨F,l,j,z,_⟩:=zlj strC Tryz.underlying25 Tryz.cells9 (by omega) zck (fun n cs x=>zui n cs x) v;unfold rgC at c;simp only [List.cons.injEq,and_true] at e f c g i j;obtain ⟨rfl,rfl,rfl,rfl,rfl,rfl,rfl⟩:=c;subst e f g i j;exact ⟨(⟨A,_,r,B,C,_⟩,k,l),rfl,y,z⟩
end
section
variable {H:Type} {enc:TypeId×Value->H} {w:World} {base:Nat} {spare:Nat->Bool} {held:Bool}
theorem Tryz.cells29:Tryz.prog.cellsOf 29=6:=by kernel_rfl
theorem Tryz.cells31:Tryz.prog.cellsOf 31=20:=by kernel_rfl
theorem zwa (n:Nat) (cs:List Value) (x:DataW H×List MemPlace) (h:DataW.trod enc Tryz.prog w base spare held n 29 cs=some x) (hl:cs.length=6):∃ t:Wt,cs=wtC t/\(Lit.int .i64 t.frm).wf=true:=by
 obtain ⟨C,b,_,_,_,c,a⟩:=DataW.trod_struct Tryz.underlying29 h
 match cs,hl with
 | [c0,c1,c2,c3,c4,c5],_ =>
   match C,c with
   | [y0,y1,y2,y3,y4,y5],_ =>
     have k:DataW.trod enc Tryz.prog w base spare held b 9 [c0]=some y0:=(by have:=a 0 _ rfl;simpa [Tryz.cells9] using this);have l:DataW.trod enc Tryz.prog w base spare held b 9 [c1]=some y1:=(by have:=a 1 _ rfl;simpa [Tryz.cells9] using this);have m:DataW.trod enc Tryz.prog w base spare held b 3 [c2]=some y2:=(by have:=a 2 _ rfl;simpa [Tryz.cells9,Tryz.cells3] using this);have o:DataW.trod enc Tryz.prog w base spare held b 4 [c3]=some y3:=(by have:=a 3 _ rfl;simpa [Tryz.cells9,Tryz.cells3,Tryz.cells4] using this);have q:DataW.trod enc Tryz.prog w base spare held b 4 [c4]=some y4:=(by have:=a 4 _ rfl;simpa [Tryz.cells9,Tryz.cells3,Tryz.cells4] using this);have r:DataW.trod enc Tryz.prog w base spare held b 4 [c5]=some y5:=(by have:=a 5 _ rfl;simpa [Tryz.cells9,Tryz.cells3,Tryz.cells4] using this)
     obtain ⟨s,d,_⟩:=DataW.trod_string Tryz.underlying9 k;obtain ⟨u,e,_⟩:=DataW.trod_string Tryz.underlying9 l;obtain ⟨v,f,_,B⟩:=DataW.trod_int Tryz.underlying3 m;obtain ⟨y,g,_⟩:=DataW.trod_bool Tryz.underlying4 o;obtain ⟨z,i,_⟩:=DataW.trod_bool Tryz.underlying4 q;obtain ⟨A,j,_⟩:=DataW.trod_bool Tryz.underlying4 r;simp only [List.cons.injEq,and_true] at d e f g i j;subst d e f g i j;exact ⟨⟨s,u,v,y,z,A⟩,rfl,B⟩
theorem zou (n:Nat) (cs:List Value) (x:DataW H×List MemPlace) (h:DataW.trod enc Tryz.prog w base spare held n 31 cs=some x) (hl:cs.length=20) :
 ∃ q:ActQ,cs=actC q/\SlR w 10 opC q.call.1.ops q.call.2.1/\SlR w 1 strC q.call.1.keys q.call.2.2/\(Lit.int .i64 q.w.frm).wf=true/\(Lit.int .i64 q.id).wf=true:=by
 obtain ⟨y,b,_,_,_,c,a⟩:=DataW.trod_struct Tryz.underlying31 h
 match cs,hl with
 | [c0,c1,c2,c3,c4,c5,c6,c7,c8,c9,c10,c11,c12,c13,c14,c15,c16,c17,c18,c19],_ =>
   match y,c with
   | [y0,y1,y2,y3],_ =>
     have i:DataW.trod enc Tryz.prog w base spare held b 3 [c0]=some y0:=(by have:=a 0 _ rfl;simpa [Tryz.cells3] using this);have j:DataW.trod enc Tryz.prog w base spare held b 27 [c1,c2,c3,c4,c5,c6,c7,c8,c9,c10,c11,c12]=some y1:=(by have:=a 1 _ rfl;simpa [Tryz.cells3,Tryz.cells27] using this);have k:DataW.trod enc Tryz.prog w base spare held b 29 [c13,c14,c15,c16,c17,c18]=some y2:=(by have:=a 2 _ rfl;simpa [Tryz.cells3,Tryz.cells27,Tryz.cells29] using this);have l:DataW.trod enc Tryz.prog w base spare held b 3 [c19]=some y3:=(by have:=a 3 _ rfl;simpa [Tryz.cells3,Tryz.cells27,Tryz.cells29] using this);obtain ⟨r,d,_⟩:=DataW.trod_int Tryz.underlying3 i;obtain ⟨q,f,m,o⟩:=zuk _ _ _ j rfl;obtain ⟨t,g,u⟩:=zwa _ _ _ k rfl;obtain ⟨s,e,_,v⟩:=DataW.trod_int Tryz.underlying3 l
     refine ⟨⟨r,q,t,s⟩,?_,m,o,u,v⟩;unfold actC;dsimp only;rw [<-f,<-g];simp only [List.cons.injEq,and_true] at d e;rw [d,e]
     rfl
theorem zsk {b0:Nat} {v:Value} {d:DataW H} {p:List MemPlace} (hv:Value.okWide Tryz.prog w .any b0 31 v) (h:DataW.Trod enc Tryz.prog w base spare held 31 v d p) :
 ∃ q:ActQ,v=.agg (actC q).toArray/\SlR w 10 opC q.call.1.ops q.call.2.1/\SlR w 1 strC q.call.1.keys q.call.2.2/\(Lit.int .i64 q.w.frm).wf=true/\(Lit.int .i64 q.id).wf=true:=by
 obtain ⟨cs,rfl,a⟩:=okWide_struct Tryz.underlying31 hv;obtain ⟨l⟩:=cs;obtain ⟨fuel,e⟩:=h;obtain ⟨q,b,c⟩:=zou _ _ _ e (by have:=a.trans Tryz.cells31;simpa [Value.cells] using this);refine ⟨q,?_,c⟩;simp only [Value.cells] at b;rw [b]
theorem zlk {b0:Nat} {v:Value} {d:DataW H} {p:List MemPlace} (hv:Value.okWide Tryz.prog w .any b0 33 v) (h:DataW.Trod enc Tryz.prog w base spare held 33 v d p):∃ l,ActR w v l:=by
 obtain ⟨a,len,cap,rfl⟩:=okWide_slice Tryz.underlying33 hv;obtain ⟨fuel,E⟩:=h;simp only [Value.cells] at E;rcases open_slice Tryz.underlying33 E with ⟨k,_⟩ | ⟨a,c,f,m,n,D,P,k,Q,R,N,A,S,J⟩
 · simp only [List.cons.injEq,and_true] at k
   rw [k];exact ⟨[],⟨SlR.nil _ _ _,by simp,by simp,by simp,by simp⟩⟩
 simp only [List.cons.injEq,and_true] at k
 rw [k];have M:c<=m:=(by rw [A];split <;> omega)
 obtain ⟨L,s,b⟩:=znd (fun i (y:ActQ)=>(∀ j,j<20->w.cell? ((a.add (i * 20)).add j)=(actC y)[j]?)/\SlR w 10 opC y.call.1.ops y.call.2.1/\SlR w 1 strC y.call.1.keys y.call.2.2/\(Lit.int .i64 y.w.frm).wf=true/\(Lit.int .i64 y.id).wf=true) c fun i him=>by
  obtain ⟨G,C,O⟩:=J i (by omega);rw [Tryz.cells31] at C;obtain ⟨_,x,t⟩:=World.cells?_some C;obtain ⟨y,rfl,e⟩:=zou _ _ _ O x;exact ⟨y,t,e⟩
 refine ⟨L,⟨⟨some a,f,by rw [s],by omega,N,fun hp=>?_⟩,fun i q hq=>(b i q hq).2.1,fun i q hq=>(b i q hq).2.2.1,fun i q hq=>(b i q hq).2.2.2.1,fun i q hq=>(b i q hq).2.2.2.2⟩⟩;obtain ⟨g,o,F⟩:=a
 have I:F=none:=by
  obtain ⟨r,B⟩:∃ r,L[0]?=some r:=⟨_,List.getElem?_eq_getElem hp⟩;have:=(b 0 r B).1 0 (by decide);have z:0<(actC r).length:=(by rw [zap];decide);rw [Nat.zero_mul] at this;simp only [Addr.add,if_true] at this;rw [List.getElem?_eq_getElem z] at this;unfold World.cell? at this
  cases F with
  | none=>rfl
  | some q =>
    simp only [Option.isSome_some,if_true] at this
    split at this <;> simp at this
 subst I;refine ⟨g,o,rfl,fun i y hy j u hu'=>?_⟩
 have K:j<20:=by
  have:=(List.getElem?_eq_some_iff.1 hu').1
  rwa [zap] at this
 have:=(b i y hy).1 j K;rw [hu'] at this;rw [<-this]
 congr 1
 unfold Addr.add;by_cases e:i * 20=0
 · by_cases h2:j=0
   · simp [e,h2]
   simp [e,h2]
 by_cases h2:j=0
 · simp [e,h2]
 simp [e,h2]
theorem zuj {v:Value} {d:DataW H} {p:List MemPlace} {b0:Nat} (hv:Value.okWide Tryz.prog w .any b0 3 v) (h:DataW.Trod enc Tryz.prog w base spare held 3 v d p):∃ n:Int,v=.int .i64 n/\(Lit.int .i64 n).wf=true:=by
 obtain ⟨k,rfl⟩:=okWide_int Tryz.underlying3 hv;obtain ⟨fuel,b⟩:=h;obtain ⟨n,e,_,a⟩:=DataW.trod_int Tryz.underlying3 b;simp only [Value.cells,List.cons.injEq,Value.int.injEq,and_true] at e;exact ⟨k,rfl,by rw [e.2];exact a⟩
end
theorem zve (x:Ev):∀ u∈evC x,u.oneCell'=true:=fun u hu=>zth (L:=[x]) (by simpa using hu)
theorem zrt {X:World} {b:Nat} {a0 a1 a2 a3:Value} (hk:X.heap[b]?=some (.cells #[a0,a1,a2,a3] 78 (0,0))) (r m kv ev:Value) :
 ∃ Z,((((X.setCell ⟨b,0,none⟩ r).setCell ⟨b,1,none⟩ m).setCell ⟨b,2,none⟩ kv).setCell ⟨b,3,none⟩ ev)=Z/\Z.heap[b]?=some (.cells #[r,m,kv,ev] 78 (0,0))/\Fr (fun x=>x=b) X Z:=by
 have a:=zab hk 0 r;have c:=zab a 1 m;have d:=zab c 2 kv;have e:=zab d 3 ev;refine ⟨_,rfl,by rw [e];simp,((((Fr.refl (fun x=>x=b) X).setAt 0 r).setAt 1 m).setAt 2 kv).setAt 3 ev⟩
def stateV (r m:Int) (kv ev:Value):Value:=.agg #[.int .i64 r,.int .i64 m,kv,ev]
set_option maxHeartbeats 8000000 in
theorem zog {TA:zan} {N:Nat} (hT:TreeOk TA N) {n:Nat} (hn:n<=1099511627) (w:World) (s:Nat) (S:St) (F:Nat->Prop) (hS:zai TA w s S F) (hok:StOk n S) (hN:S.T.length<=1099511627) :
 Calls Tryz.prog 30 #[.pointer (some ⟨s,0,none⟩)] w fun e w'=>∃ kv ev,e=.returned (stateV S.rev S.mark kv ev)/\SlF w' 70 6 kvC kv (zam S S.T S.mark)/\SlF w' 72 13 evC ev S.events/\Fr No w w'/\(∀ b,kv.ownBlock=some b->w.heap.size<=b)/\(∀ b,ev.ownBlock=some b->w.heap.size<=b):=by
 have am:=fun W hW at_ H hH=>zhz hT hn W s S F hW hok at_ S.mark H hH;have bQ:=H_ hS;obtain ⟨t,p,ev,hp,FT,FH,a,hF⟩:=hS;have c0:=a.obj.cell 0 rfl;have c3:=a.obj.cell 3 rfl;have c4:=a.obj.cell 4 rfl;have c5:=a.obj.cell 5 rfl;have ls:=a.obj.lt;have bg:=a.events;have cv:=hok.ev;have ao:=fun W (h:Fr No w W)=>hT.len (w:=W) (t:=t) (T:=S.T) (F:=FT) (hT.fr a.tree h fun _ _ s=>s);have a0:=fun W (h:Fr No w W)=>hT.range (w:=W) (t:=t) (T:=S.T) (F:=FT) ⟨#[]⟩ ⟨#[]⟩ (hT.fr a.tree h fun _ _ s=>s);simp only [zjc] at a0;have b8:=H_ ao;have b9:=H_ a0;have HH:=H_ am;have bC:=H_ hok.id;have bw:=H_ bg;clear a hF bg ao a0 am;go_enter Tryz.func30,Tryz.ntmps30;go_upto_region 3 with fail
 have U:Fr No w (w.alloc (Obj.cells #[.int .i64 0,.int .i64 0,.slice none 0 0,.slice none 0 0] 78)):=(Fr.refl No w).alloc _;have aF:=zad w (Obj.cells #[.int .i64 0,.int .i64 0,.slice none 0 0,.slice none 0 0] 78) _ rfl;generalize w.alloc (Obj.cells #[.int .i64 0,.int .i64 0,.slice none 0 0,.slice none 0 0] 78)=W0 at *;have d3:=U.cell0 c3;have d4:=U.cell0 c4;have d8:s<W0.heap.size:=Nat.lt_of_lt_of_le ls U.size
 go_region
 go_upto_region 4 with fail;have aG:((W0.alloc (Obj.cells #[.int .i64 S.rev,.int .i64 S.mark,.slice none 0 0,.slice none 0 0] 78)).drew).heap[W0.heap.size]?=some (.cells #[.int .i64 S.rev,.int .i64 S.mark,.slice none 0 0,.slice none 0 0] 78 (0,0)):=zad _ _ _ rfl;have ag:((W0.alloc (Obj.cells #[.int .i64 S.rev,.int .i64 S.mark,.slice none 0 0,.slice none 0 0] 78)).drew).heap[w.heap.size]?=some (.cells #[.int .i64 0,.int .i64 0,.slice none 0 0,.slice none 0 0] 78 (0,0)):=zar aF _;have V:Fr No w ((W0.alloc (Obj.cells #[.int .i64 S.rev,.int .i64 S.mark,.slice none 0 0,.slice none 0 0] 78)).drew):=(U.alloc _).drew;have cj:=zaf aF;clear d3 d4 U aF;generalize (W0.alloc (Obj.cells #[.int .i64 S.rev,.int .i64 S.mark,.slice none 0 0,.slice none 0 0] 78)).drew=W1 at *;have d0:=V.cell0 c0
 have d9:s<W1.heap.size:=Nat.lt_of_lt_of_le ls V.size
 go_region_held3 (fun W=>W.cell? ⟨s,0,none⟩=some (.pointer (some ⟨t,0,none⟩)))
  (first | assumption | exact a7.cell0 d0)
  (first
    | (go_at_call 59;refine (b8.out _ (V.trans0 (by (repeat (first | with_reducible exact Fr.refl _ _ | with_reducible refine Fr.drew ?_));done))).mono ?_;rintro e w' ⟨rfl,rfl⟩)
    | (go_at_call 58;refine (b9.out _ (V.trans0 (by (repeat (first | with_reducible exact Fr.refl _ _ | with_reducible refine Fr.drew ?_));done))).mono ?_;rintro e w7 ⟨pv,rfl,aI,a7,bj⟩;obtain ⟨pa,bs,rfl,cV,cW,bi⟩:=aI.shape))
 have D:Fr No W1 w7:=(by first | exact a7 | exact (Fr.refl No W1).drew.trans0 a7);have bf:=D.heap aG id;have ai:=D.heap ag id;have al:Fr No w w7:=V.trans0 D;have cx:=D.size;have l1:=zaf aG;have au:∀ b,(Value.slice pa S.T.length bs).ownBlock=some b->W1.heap.size<=b:=fun b hb=>by have:=bj b hb;have h':W1.heap.size<=b:=this;omega
 have aX:=H_ bf;have aW:=H_ ai;have bz:=H_ al;have bG:=H_ aI;have bF:=H_ au;have bE:=H_ bi;have bR:∃ St1:Nat,W0.heap.size=St1/\w.heap.size<St1/\St1<w7.heap.size:=⟨_,rfl,cj,by omega⟩;obtain ⟨f,bl,cy,cz⟩:=bR;rw [bl] at aX;have cA:f<W1.heap.size:=by omega
 clear bf ai al aI au bi aG ag bj a7 D d0;obtain ⟨i0,bU,ca,cb,cc⟩:=info_parts info57;have cu:S.T.length<=1099511627:=hN;have cn:=H_ hok;rw [bl];go_wp2
 go_loopg [31] S.T.length (fun g s31 wr=>∃ (i:Nat) (o:Value),s31=.int .i64 i/\i+g=S.T.length/\Hid (wr.heap[f]?=some (.cells #[.int .i64 S.rev,.int .i64 S.mark,o,.slice none 0 0] 78 (0,0)))/\Hid (SlF wr 70 6 kvC o (zam S (S.T.take i) S.mark))/\Hid (Fr (fun b=>b=f) w7 wr)/\Hid (∀ b,o.ownBlock=some b->w7.heap.size<=b))
 case atStart=>exact ⟨0,_,rfl,by simp,aX,H_ (SlF.nil _ _ _ _),H_ (Fr.refl _ _),H_ (by simp [Value.ownBlock])⟩
 case round =>
  obtain ⟨i,o,rfl,hi,E,HO,L,B⟩:=hrel;have da:=zaf E.out;have O:Fr No w wr:=bz.out.trans L.out fun b hb e=>by have G:b=f:=e;omega
  have a5:=H_ O;have r0:=O.cell0 c0;have r4:=O.cell0 c4;have r5:=O.cell0 c5;have ci:s<wr.heap.size:=Nat.lt_of_lt_of_le ls O.size;have b2:=cellAt E.out 2 rfl;have b3:=cellAt E.out 3 rfl;have bO:∀ j,wr.frozen? ⟨f,j,none⟩=false:=fun j=>by unfold World.frozen?;dsimp only;rw [E.out];simp
  obtain ⟨oa,z,rfl,bX,cT,bY⟩:=HO.out.shape;clear bY O
  cases gk with
  | zero =>
    have bV:¬ (i:Int)<(S.T.length:Int):=(by omega);go_upto_region 11 with fail;have c6:S.T.take i=S.T:=List.take_of_length_le (by omega);rw [c6] at HO B bX b2 E;obtain ⟨j0,bW,c7,c8,c9⟩:=info_parts info73;have cS:=hok.ev;have bn:=a5.out.drew;have aK:=bw.out.fr0 bn;obtain ⟨ea,bc,rfl,cQ,cR,bS⟩:=aK.shape;have bI:=H_ aK;have bD:=H_ (show (Value.slice oa (zam S S.T S.mark).length z).ownBlock≠some f from fun h=>by have:=B.out f h;omega);clear aK bS bn
    go_region_law (refine zbf rfl _ _ 41 rfl 72 j0 _ 13 136 Tryz.underlying41 bW c7 c8 c9 rfl (by decide) zaa zve (.slice none 0 0) (.slice ea S.events.length bc) [] S.events rfl rfl (SlF.nil _ _ _ _) bI.out (by unfold maxLen;simp;try omega) (by simp;try omega) ?_;intro v4 K P M Q;obtain ⟨va,m,rfl,_,_,_⟩:=P.shape;have aJ:Fr No wr.drew K:=M.mono (fun b _ h=>by simp [Value.ownBlock] at h);have c:=aJ.heap (show wr.drew.heap[f]?=_ from E.out) id;have v3:K.cell? ⟨f,3,none⟩=some (.slice none 0 0):=(by simp [World.cell?,c]);have cl:K.frozen? ⟨f,3,none⟩=false:=(by simp [World.frozen?,c]);have l4:=zaf c;have aC:=H_ P;have aB:=H_ aJ;have aw:=H_ c;have ax:=H_ Q;clear P M Q aJ c)
    all_goals
     have v:=zab aw.out 3 (.slice va S.events.length m);have l:Fr (fun b=>b=f) K (K.setCell ⟨f,3,none⟩ (.slice va S.events.length m)):=(Fr.refl _ K).setAt 3 _;have aj:=L.out.heap aW.out (fun e=>by have G:w.heap.size=f:=e;omega);have ah:=aB.out.heap (show wr.drew.heap[w.heap.size]?=_ from aj) (fun h=>h);have C:=l.heap ah (fun e=>by have G:w.heap.size=f:=e;omega)
     have ak:=aC.out.fr l fun b hb e=>by
      have G:b=f:=e;have x:=ax.out b hb;rcases x with x | x
      · simp [Value.ownBlock] at x
      have h2:wr.heap.size<=b:=x
      omega
     have an:=((HO.out.fr0 (Fr.refl No wr).drew).fr0 aB.out).fr l fun b hb e=>by
      have G:b=f:=e;exact bD.out (by rw [<-G];exact hb)
     have bk:Fr No w (K.setCell ⟨f,3,none⟩ (.slice va S.events.length m)):=(a5.out.drew.trans0 aB.out).trans l fun b hb e=>by
      have G:b=f:=e;omega
     generalize K.setCell ⟨f,3,none⟩ (.slice va S.events.length m)=W5 at *;have bZ:∃ aP,W5.heap[f]?=some (.cells aP 78 (0,0))/\aP=#[.int .i64 S.rev,.int .i64 S.mark,.slice oa (zam S S.T S.mark).length z,.slice va S.events.length m]:=⟨_,v,by simp⟩;obtain ⟨aP,v,rfl⟩:=bZ;obtain ⟨s0,s1,s2,s3⟩:=cells4 v;obtain ⟨t0,t1,t2,t3⟩:=cells4 C;have tf:∀ i,W5.frozen? ⟨w.heap.size,i,none⟩=false:=fun i=>by simp [World.frozen?,C]
     have dc:=zaf C;have d5:=zaf v;obtain ⟨Z,hZ,a4,ad⟩:=zrt C (.int .i64 S.rev) (.int .i64 S.mark) (.slice oa (zam S S.T S.mark).length z) (.slice va S.events.length m);have b7:=H_ an;have b0:=H_ ak;have bH:=H_ bk;have HZ:=H_ hZ;have bK:=H_ a4;have aD:=H_ ad;clear v l aj ah C ak an bk hZ a4 ad v3 cl l4;go_wp2;rw [HZ.out];have cX:=a5.out.size;refine bodyPost_ret (results_cell_row rfl _ _ w.heap.size 78 _ (0,0) _ rfl bK.out Tryz.underlying78 rfl (by kernel_rfl)) rfl ⟨.slice oa (zam S S.T S.mark).length z,.slice va S.events.length m,rfl,?_,?_,?_,fun b hb=>?_,fun b hb=>?_⟩
     · refine b7.out.fr aD.out fun b hb e=>?_
       have G:b=w.heap.size:=e;have x:=B.out b hb;omega
     · refine (by simpa using b0.out:SlF W5 72 13 evC (.slice va S.events.length m) S.events).fr aD.out fun b hb e=>?_
       have G:b=w.heap.size:=e;rcases ax.out b hb with x | x
       · simp [Value.ownBlock] at x
       have h2:wr.heap.size<=b:=x
       omega
     · exact bH.out.trans aD.out fun b hb e=>by
        have G:b=w.heap.size:=e;omega
     · have x:=B.out b hb
       omega
     rcases ax.out b hb with x | x
     · simp [Value.ownBlock] at x
     have h2:wr.heap.size<=b:=x
     omega
  | succ g =>
    have bV:(i:Int)<(S.T.length:Int):=(by omega);obtain ⟨gb,go,rfl⟩:=bE.out (by omega);obtain ⟨q,hq⟩:∃ q,S.T[i]?=some q:=⟨_,List.getElem?_eq_getElem (by omega)⟩;have a1:=bG.out.fr L.out (fun b hb e=>by have G:b=f:=e;have:=bF.out b hb;omega);have x0:=a1.cell0 zac i hq rfl;have x1:=a1.cell zac i 1 hq rfl;obtain ⟨H,hH⟩:=bC.out q (List.mem_of_getElem? hq);have ar:oneL S S.mark q=if (hadH H S.mark).2 then some (hadH H S.mark).1 else none:=(by unfold oneL;rw [hH])
    have a2:zam S (S.T.take (i+1)) S.mark=zam S (S.T.take i) S.mark++(oneL S S.mark q).toList:=by
     unfold zam;rw [List.take_add_one,hq,List.filterMap_append];cases h:oneL S S.mark q <;> simp [h]
    have bb:=H_ a2;have az:=H_ ar;have a6:=H_ hH;have HQ:=H_ hq;clear a2 ar hH hq a1;rcases hr:hadH H S.mark with ⟨⟨r1,r2,r3,I,J,r6⟩,rb⟩
    rw [hr] at az;have HR:=H_ hr;clear hr;have cU:(zam S (S.T.take i) S.mark).length<=S.T.length:=Nat.le_trans (List.length_filterMap_le _ _) (by simp;omega);go_upto_region 7 with fail;have aH:=zad wr (Obj.cells #[.string q.1,.int .i64 q.2] 125) _ rfl;have a8:Fr No wr (wr.alloc (Obj.cells #[.string q.1,.int .i64 q.2] 125)):=(Fr.refl No wr).alloc _;generalize wr.alloc (Obj.cells #[.string q.1,.int .i64 q.2] 125)=d at *;have k1:=cellAt aH 1 rfl;have k4:=a8.cell0 r4;have lk:=zaf aH;have ch:s<d.heap.size:=Nat.lt_of_lt_of_le ci a8.size;have b5:=H_ a8;clear a8 aH;have X:Fr No d (d.alloc (Obj.cells #[.string ⟨#[]⟩,.string ⟨#[]⟩,.int .i64 0,.int .i64 0,.int .i64 0,.int .i64 0] 70)):=(Fr.refl No d).alloc _
    have bo:(d.alloc (Obj.cells #[.string ⟨#[]⟩,.string ⟨#[]⟩,.int .i64 0,.int .i64 0,.int .i64 0,.int .i64 0] 70)).heap[d.heap.size]?=some (.cells #[.string ⟨#[]⟩,.string ⟨#[]⟩,.int .i64 0,.int .i64 0,.int .i64 0,.int .i64 0] 70 (0,0)):=zad _ _ _ rfl;have af:=X.cell0 k4;have ae:=X.cell0 k1;have b1:d.cell? ⟨s,4,none⟩=some (.int .i64 S.mark)/\d.cell? ⟨wr.heap.size,1,none⟩=some (.int .i64 q.2):=⟨k4,k1⟩;have b2:d.drew.cell? ⟨s,4,none⟩=some (.int .i64 S.mark)/\d.drew.cell? ⟨wr.heap.size,1,none⟩=some (.int .i64 q.2):=⟨k4,k1⟩;have b3:=And.intro af ae
    have b4:(d.alloc (Obj.cells #[.string ⟨#[]⟩,.string ⟨#[]⟩,.int .i64 0,.int .i64 0,.int .i64 0,.int .i64 0] 70)).drew.cell? ⟨s,4,none⟩=some (.int .i64 S.mark)/\(d.alloc (Obj.cells #[.string ⟨#[]⟩,.string ⟨#[]⟩,.int .i64 0,.int .i64 0,.int .i64 0,.int .i64 0] 70)).drew.cell? ⟨wr.heap.size,1,none⟩=some (.int .i64 q.2):=⟨af,ae⟩;have x:=bQ.out.fr0 hT (a5.out.trans0 b5.out);have h2:=x.fr0 hT (Fr.refl No d).drew;have h3:=x.fr0 hT X;have h4:=h3.fr0 hT (Fr.refl No _).drew;have C1:=H_ (HH.out _ x q.2 H a6.out);have C2:=H_ (HH.out _ h2 q.2 H a6.out);have C3:=H_ (HH.out _ h3 q.2 H a6.out);have C4:=H_ (HH.out _ h4 q.2 H a6.out);have bL:=H_ bo;have b6:=H_ X;clear x h2 h3 h4 bo X
    go_cut [6,7] (fun s6 s7 wx=>∃ b:Nat,s6=.pointer (some ⟨b,0,none⟩)/\s7=.bool rb/\Hid (wx.heap[b]?=some (.cells #[.string r1,.string r2,.int .i64 r3,.int .i64 I,.int .i64 J,.int .i64 r6] 70 (0,0)))/\Hid (Fr No d wx))
    case first =>
     go_region_held3 (fun W=>W.cell? ⟨s,4,none⟩=some (.int .i64 S.mark)/\W.cell? ⟨wr.heap.size,1,none⟩=some (.int .i64 q.2))
      (first | with_reducible exact b1 | with_reducible exact b2 | with_reducible exact b3 | with_reducible exact b4 | with_reducible exact A | with_reducible exact kv | with_reducible exact ku | with_reducible exact kt | with_reducible exact br | with_reducible exact cf | with_reducible exact ce | with_reducible exact cd)
      (first
        | (go_at_call 60;first | refine C1.out.mono ?_ | refine C2.out.mono ?_
           rintro e r ⟨rfl,y⟩;rw [HR.out];unfold zcc kvV;have A:r.cell? ⟨s,4,none⟩=some (.int .i64 S.mark)/\r.cell? ⟨wr.heap.size,1,none⟩=some (.int .i64 q.2):=⟨y.cell0 k4,y.cell0 k1⟩;have ab:Fr No r (r.alloc (Obj.cells #[.string ⟨#[]⟩,.string ⟨#[]⟩,.int .i64 0,.int .i64 0,.int .i64 0,.int .i64 0] 70)):=(Fr.refl No r).alloc _;have kv:=And.intro (ab.cell0 A.1) (ab.cell0 A.2);have Y:Fr No r r.drew:=(Fr.refl No r).drew;have br:=And.intro (Y.cell0 A.1) (Y.cell0 A.2);have cf:=And.intro (ab.drew.cell0 A.1) (ab.drew.cell0 A.2);have aa:Fr No r (r.alloc (Obj.cells #[.string r1,.string r2,.int .i64 r3,.int .i64 I,.int .i64 J,.int .i64 r6] 70)):=(Fr.refl No r).alloc _;have ku:=And.intro (aa.cell0 A.1) (aa.cell0 A.2);have ce:=And.intro (aa.drew.cell0 A.1) (aa.drew.cell0 A.2)
           have aA:Hid (Fr No d r):=by first | exact H_ y | exact H_ ((Fr.refl No d).drew.trans0 y))
        | (go_at_call 60;first | refine C3.out.mono ?_ | refine C4.out.mono ?_
           rintro e r ⟨rfl,y⟩;rw [HR.out];unfold zcc kvV;have A:r.cell? ⟨s,4,none⟩=some (.int .i64 S.mark)/\r.cell? ⟨wr.heap.size,1,none⟩=some (.int .i64 q.2):=⟨y.cell0 af,y.cell0 ae⟩;have a3:r.heap[d.heap.size]?=some (.cells #[.string ⟨#[]⟩,.string ⟨#[]⟩,.int .i64 0,.int .i64 0,.int .i64 0,.int .i64 0] 70 (0,0)):=y.heap bL.out (fun h=>h);obtain ⟨z0,z1,z2,z3,z4,z5⟩:=cells6 a3;have zf:∀ i,r.frozen? ⟨d.heap.size,i,none⟩=false:=fun i=>by unfold World.frozen?;dsimp only;rw [a3];simp
           have dd:=zaf a3;have l:Fr (fun b=>b=d.heap.size) r ((((((r.setCell ⟨d.heap.size,0,none⟩ (.string r1)).setCell ⟨d.heap.size,1,none⟩ (.string r2)).setCell ⟨d.heap.size,2,none⟩ (.int .i64 r3)).setCell ⟨d.heap.size,3,none⟩ (.int .i64 I)).setCell ⟨d.heap.size,4,none⟩ (.int .i64 J)).setCell ⟨d.heap.size,5,none⟩ (.int .i64 r6)):=((((((Fr.refl _ r).setAt 0 _).setAt 1 _).setAt 2 _).setAt 3 _).setAt 4 _).setAt 5 _;have kt:=And.intro (l.cell A.1 (fun e=>by have G:s=d.heap.size:=e;omega)) (l.cell A.2 (fun e=>by have G:wr.heap.size=d.heap.size:=e;omega));have Y:Fr No r r.drew:=(Fr.refl No r).drew;have br:=And.intro (Y.cell0 A.1) (Y.cell0 A.2)
           have cd:=And.intro (l.drew.cell A.1 (fun e=>by have G:s=d.heap.size:=e;omega)) (l.drew.cell A.2 (fun e=>by have G:wr.heap.size=d.heap.size:=e;omega));have aA:Hid (Fr No d r):=(by first | exact H_ (b6.out.trans0 y) | exact H_ (b6.out.drew.trans0 y));have bJ:=H_ a3;clear a3))
     · go_wp2
       go_meet
       case rel=>exact ⟨_,rfl,rfl,H_ (zad _ _ _ rfl),H_ (aA.out.alloc _)⟩
     obtain ⟨Z,hZ,a4,ad⟩:=zhu (w:=d) bJ.out ⟨r1,r2,r3,I,J,r6⟩
     dsimp only at hZ a4;rw [hZ];go_wp2;go_meet
     case rel=>exact ⟨_,rfl,rfl,H_ a4,H_ (ad aA.out (Nat.le_refl _))⟩
    case rest =>
     obtain ⟨b,rfl,rfl,aZ,HX⟩:=hcut;have a9:Fr No wr wc:=b5.out.trans0 HX.out;have ay:=H_ a9;have R:=a9.heap E.out id;have d6:=zaf aZ.out;have db:=zaf R;have e2:=cellAt R 2 rfl;have cP:∀ j,wc.frozen? ⟨f,j,none⟩=false:=fun j=>by unfold World.frozen?;dsimp only;rw [R];simp
     obtain ⟨y0,y1,y2,y3,y4,y5⟩:=cells6 aZ.out;have aY:=H_ R;have ba:=H_ (HO.out.fr0 a9);clear a9 R x0 x1 k4 k1 af ae b1 b4 lk ch r0 r4 r5 b2 b3 bO;cases rb
     · have HE:Hid (zam S (S.T.take (i+1)) S.mark=zam S (S.T.take i) S.mark):=H_ (by rw [bb.out,az.out];simp)
       go_wp2;go_roundg g
       case rel=>exact ⟨i+1,_,by go_num,by omega,aY,H_ (by rw [HE.out];exact ba.out),H_ (L.out.trans0 ay.out),B⟩
       case measure=>omega
     have HE:Hid (zam S (S.T.take (i+1)) S.mark=zam S (S.T.take i) S.mark++[⟨r1,r2,r3,I,J,r6⟩]):=H_ (by rw [bb.out,az.out];simp)
     have ap:=zaw wc (kvC ⟨r1,r2,r3,I,J,r6⟩) 70 (0,0);have aq:(Value.slice oa (zam S (S.T.take i) S.mark).length z).ownBlock≠some f:=fun h=>by have:=B.out f h;omega
     have bB:=H_ aq;clear aq;go_wp2_with (at_builtin;refine zao rfl _ _ 74 rfl 70 i0 _ 6 64 Tryz.underlying74 bU ca cb cc rfl (by decide) _ (zam S (S.T.take i) S.mark) rfl (ba.out.alloc _) wc.heap.size 1 (⟨r1,r2,r3,I,J,r6⟩:Kv) rfl ap rfl ?c1 ?c2 ?c3 ?_)
     case c1=>intro u hu;simp [kvC] at hu;rcases hu with rfl | rfl | rfl | rfl | rfl | rfl <;> rfl
     case c2=>unfold maxLen;omega
     case c3=>omega
     intro g1 o' cap K P bh Q cw;have M:Fr (fun k=>(Value.slice oa (zam S (S.T.take i) S.mark).length z).ownBlock=some k) wc K:=((Fr.refl _ wc).alloc _).grown bh fun k hk=>.inl hk;have c:=M.heap aY.out bB.out;have v2:=cellAt c 2 rfl;have dh:∀ j,K.frozen? ⟨f,j,none⟩=false:=fun j=>by unfold World.frozen?;dsimp only;rw [c];simp
     have l4:=zaf c
     have bT:w7.heap.size<=g1:=by
      rcases Q with e | e
      · exact B.out _ e
      have x:=L.out.size
      have h2:=ay.out.size
      try simp at e
      omega
     have aC:=H_ P;have bx:=H_ M;have aw:=H_ c;clear P bh Q ap M c;go_wp2;go_roundg g
     case rel =>
      have v:=zab aw.out 2 (.slice (some ⟨g1,o',none⟩) ((zam S (S.T.take i) S.mark).length+1) cap);have l:Fr (fun b=>b=f) K (K.setCell ⟨f,2,none⟩ (.slice (some ⟨g1,o',none⟩) ((zam S (S.T.take i) S.mark).length+1) cap)):=(Fr.refl _ K).setAt 2 _
      have bm:=aC.out.fr l fun b hb e=>by
       have G:b=f:=e;obtain rfl:g1=b:=by simpa [Value.ownBlock] using hb
       omega
      refine ⟨i+1,.slice (some ⟨g1,o',none⟩) ((zam S (S.T.take i) S.mark).length+1) cap,by go_num,by omega,H_ (by rw [v];simp),H_ (by rw [HE.out];simpa using bm),H_ (((L.out.trans0 ay.out).trans bx.out fun b hb h=>?_).trans l fun b hb e=>e),H_ fun b hb=>?_⟩
      · have:=B.out b h;omega
      obtain rfl:g1=b:=by simpa [Value.ownBlock] using hb
      exact bT
     case measure=>omega
end Go.Proofs.YtdgkdfmfoonbpaaGreat