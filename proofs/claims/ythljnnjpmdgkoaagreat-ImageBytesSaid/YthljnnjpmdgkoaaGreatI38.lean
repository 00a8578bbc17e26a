/- Own lemmas. -/
import Derived.Test.YthljnnjpmdgkoaaGreatI28
import Derived.Test.YthljnnjpmdgkoaaGreatI37
import Derived.Test.YthljnnjpmdgkoaaGreatI19
import Derived.Test.YthljnnjpmdgkoaaGreatI25
import Derived.Test.YthljnnjpmdgkoaaGreatI16
import Derived.Laws.IdiomStrings
import Derived.Deep.DeepCutAuto
import Derived.ProofKit
import Derived.Deep.Slices
import Derived.Deep.Fields
import Derived.ChangeSame
namespace Go.Proofs.YthljnnjpmdgkoaaGreat
open Go Go.Proofs Go.RowKit
set_option maxRecDepth 100000
set_option maxHeartbeats 4000000 in
theorem zdi {TA:zao} (hT:TreeOk TA 1000000) (hTD:TreeDl TA) (w:World) (v:Value) (l:List CalQ) (hv:CalR w v l) (hf:zba l=true) :
 Calls Tryz.prog 40 #[v] w fun e w'=>∃ s,e=.returned (.pointer (some ⟨s,0,none⟩))/\∃ F,zaj TA w' s (donesT l l.length).1 F/\Fr No w w'/\∀ b,F b->w.heap.size<=b:=by
 obtain ⟨h1,L⟩:=zar hf;have o:=zbe hf;obtain ⟨hv,f,c⟩:=hv;obtain ⟨a,cap,rfl,X,Y,M⟩:=hv.shape;have W:=H_ hv;have S:=H_ M;have V:=H_ f;have U:=H_ c;have T:=H_ o;have R:=H_ L;clear hv M f c o hf L;go_enter Tryz.func40,Tryz.ntmps40;go_wp2_with (go_at_call 17;refine (zdc hT _).mono ?_;rintro e w1 ⟨s,rfl,J,u,C,r⟩);have A:Hid (zaj TA w1 s (donesT l 0).1 J):=H_ u;have z:=H_ r;clear u r
 go_loopg [4] l.length (fun g s4 wr=>∃ (i:Nat) (F:Nat->Prop),s4=.int .i64 i/\i+g=l.length/\Hid (zaj TA wr s (donesT l i).1 F)/\Hid (Fr No w wr)/\Hid (∀ b,F b->w.heap.size<=b))
 case atStart=>exact ⟨0,J,rfl,by simp,A,H_ C,z⟩
 case round =>
  obtain ⟨i,F,rfl,hi,K,k,m⟩:=hrel
  cases gk with
  | zero =>
    have G:¬ (i:Int)<(l.length:Int):=(by omega);have E:i=l.length:=(by omega);subst E;go_wp2;go_ret;exact ⟨s,rfl,F,K.out,k.out,m.out⟩
  | succ g =>
    obtain ⟨gb,go,rfl⟩:=S.out (by omega);obtain ⟨q,j⟩:∃ q,l[i]?=some q:=⟨_,List.getElem?_eq_getElem (by omega)⟩;have d:=W.out.fr0 k.out;have x0:=d.cell0 zal i j rfl;have x1:=d.cell zal i 1 j rfl;have x2:=d.cell zal i 2 j rfl;have x3:=d.cell zal i 3 j rfl;have x4:=d.cell zal i 4 j rfl;have x5:=d.cell zal i 5 j rfl;have x6:=d.cell zal i 6 j rfl;have x7:=d.cell zal i 7 j rfl;have x8:=d.cell zal i 8 j rfl;have x9:=d.cell zal i 9 j rfl;have a0:=d.cell zal i 10 j rfl;have a1:=d.cell zal i 11 j rfl;have G:(i:Int)<(l.length:Int):=(by omega);have f:=V.out i q j;have c:=U.out i q j
    have n:=zoe hT hTD (T.out i (by omega)) (by omega) wr s F K.out q (R.out q (List.mem_of_getElem? j)) (f.fr0 k.out) (c.fr0 k.out)
     (fun hp b hb hF=>by have:=f.lt zaf (by decide) hp b hb;have:=m.out b hF;omega) (fun hp b hb hF=>by have:=c.lt zbq (by decide) hp b hb;have:=m.out b hF;omega)
    have x:=zcq l j;obtain ⟨oa,P,t,_,_,_⟩:=f.shape;obtain ⟨ka,N,p,_,_,_⟩:=c.shape;have y:=H_ n;have B:=H_ x;clear n x j d f c;obtain ⟨⟨p1,p2,⟨g1,g2,g3,g4,g5,g6,g7⟩,p3,p4,p5⟩,ops,O⟩:=q;dsimp only at t p;subst t p;unfold calC rgC at *;dsimp only at *;go_wp2_with (go_at_call 27;refine y.out.mono ?_;rintro e w2 ⟨rfl,Q,I,D,H⟩);go_roundg g
    case rel =>
     have Z:=k.out.size
     exact ⟨i+1,Q,by go_num,by omega,H_ (by rw [B.out];exact I),H_ (k.out.trans D fun b hb h=>by have:=m.out b h;omega),H_ fun b hb=>by
      rcases H b hb with h | h
      · exact m.out b h
      omega⟩
    case measure=>omega
def o13:Opr:=putO ⟨#[97]⟩ ⟨#[49]⟩
def l13:List CalQ:=[(⟨0,.slice none 0 0,rg0 ByteArray.empty,0,0,.slice none 0 0⟩,[o13],[])]
def S13:St:=(donesT l13 l13.length).1
def D13:Doc:=(donesT l13 l13.length).2
theorem few13:zba l13=true:=by kernel_rfl
theorem lea13:∀ q∈l13,LeaQ q:=fun q hq o ho=>by
 rw [List.mem_singleton.1 hq] at ho;rw [List.mem_singleton.1 ho]
 show (0:Int)<=_
 decide
theorem img13:DocImg D13:=zdu few13 lea13
theorem good13:Good 1 S13 D13:=zbe few13 1 (Nat.le_refl _)
theorem ap13:applyE newS [o13]=0:=by kernel_rfl
theorem S13_eq:S13=applyS newS [o13]:=by kernel_rfl
theorem zzbc:D13.rev=1:=good13.rev.symm.trans (by kernel_rfl)
theorem imgN:DocImg newD:=zdu (l:=[]) (by kernel_rfl) (fun q hq=>by cases hq)
theorem znu:docB newD=List.replicate 32 0:=by kernel_rfl
theorem len13:D13.kvs.length+D13.events.length<=1000000:=by have:=img13.n64.len;omega
theorem cat13 (l:List UInt8):(⟨(l++[120]).toArray⟩:ByteArray)=(⟨l.toArray⟩:ByteArray)++(⟨#[120]⟩:ByteArray):=by
 apply ByteArray.ext;rw [ByteArray.data_append];simp
theorem zzad {TA:zao} (hT:TreeOk TA 1000000) (W:World) (s p:Nat) (F0:Nat->Prop) (hS:zaj TA W s st0 F0) (hp:W.heap[p]?=some (.cells (opC o13).toArray 94 (0,0))) (np:¬ F0 p) :
 Calls Tryz.prog 37 #[.pointer (some ⟨s,0,none⟩),.slice (some ⟨p,0,none⟩) 1 1] W fun e w'=>∃ av ev F1,e=.returned (.tuple #[av,ev,.int .i64 0])/\zaj TA w' s S13 F1/\Fr F0 W w'/\(∀ b,F1 b->F0 b\/W.heap.size<=b):=by
 have h:=ziy hT Good.new (by omega) W s F0 hS _ [o13] (zym hp) (fun _ b hb=>by simp [Value.ownBlock] at hb;rw [<-hb];exact np) (by decide) (by decide);rw [ap13] at h;simp only [if_true] at h;refine h.mono ?_;rintro e w' ⟨av,ev,rfl,F1,Z,a,f,g,i,c,d⟩;exact ⟨av,ev,F1,rfl,by rw [S13_eq];exact a,c,d⟩
set_option maxHeartbeats 8000000 in
theorem zax {TA:zao} (hT:TreeOk TA 1000000) (w:World):Calls Tryz.prog 39 #[] w fun e w'=>e=.returned (.bool true)/\Fr No w w':=by
 have x:=fun W=>zdl hT imgN W;have g:=fun W=>zgp hT imgN [120] (by simp) (by simp) W;simp only [cat13] at g;have k:=fun W=>zdl hT img13 W;have d:=fun W s F hS=>zbl hT Good.new (by decide) (by rw [znu];decide) (by decide) W s F hS;have c:=fun W s F hS=>zbl hT good13 (by decide) (Nat.le_trans img13.len (by decide)) len13 W s F hS;generalize (⟨(docB D13).toArray⟩:ByteArray)=Y at k c;have n:=H_ g;have H:=H_ k;have m:=H_ x;have C:=H_ c;clear x g k c;have S:∀ W,(Instr.makeSlice 90 (.int .i64 32) (.int .i64 32)).run Tryz.prog W=.ok (.slice (some ⟨W.heap.size,0,none⟩) 32 32) (W.alloc (.cells (Array.replicate 32 (.int .u8 0)) 5)):=fun _=>by kernel_rfl
 have p:(convert 90 9 (.slice (some ⟨w.heap.size,0,none⟩) 32 32)).run Tryz.prog (w.alloc (.cells (Array.replicate 32 (.int .u8 0)) 5))=.ok (.string ⟨(docB newD).toArray⟩) (w.alloc (.cells (Array.replicate 32 (.int .u8 0)) 5)):=by
  rw [znu];refine run_convert_bytes_back (P:=Tryz.prog) _ 90 9 5 ⟨w.heap.size,0,none⟩ 32 (List.replicate 32 0) Tryz.underlying90 Tryz.underlying5 Tryz.underlying9 fun j hj=>?_;have R:j<32:=(by simpa using hj);have h0:(w.alloc (.cells (Array.replicate 32 (.int .u8 0)) 5)).heap[w.heap.size]?=some (.cells (Array.replicate 32 (.int .u8 0)) 5 (0,0)):=zad w _ _ rfl;have h1:=cellAt (i:=j) (v:=.int .u8 0) h0 (by rw [Array.getElem?_replicate,if_pos R])
  have e:(⟨w.heap.size,0,none⟩:Addr).add j=⟨w.heap.size,j,none⟩:=by
   unfold Addr.add;by_cases h:j=0
   · simp [h]
   simp [h]
  rw [e,h1,List.getElem_replicate]
  rfl
 have q:Fr No w (w.alloc (.cells (Array.replicate 32 (.int .u8 0)) 5)):=(Fr.refl No w).alloc _;obtain ⟨Z,B⟩:∃ Z,docB newD=Z:=⟨_,rfl⟩;rw [B] at m n p d;have D:=H_ d;clear d;have HZ:=H_ B;have V:Z.length=32:=by rw [<-B,znu];rfl
 have ao:(⟨Z.toArray⟩:ByteArray).size=32:=by rw [<-V];exact List.size_toArray
 clear B;go_enter Tryz.func39,Tryz.ntmps39;go_upto_region 2 with fail;generalize w.alloc (.cells (Array.replicate 32 (.int .u8 0)) 5)=W0 at *;clear p S;go_upto_region 3 with (go_at_call 45;(with_reducible refine (m.out W0).mono ?_);rintro e w1 ⟨a1,T1,F1,rfl,s1,m1,n1,f1⟩);have J:=H_ s1;have ah:=H_ n1;have E:=H_ (q.trans0 f1);have y:T1.rev=0:=m1.rev;have I:=H_ y;clear s1 n1 f1 q m1 y;go_upto_region 4 with (go_at_call 45;(with_reducible refine (n.out w1).mono ?_);rintro e w2 ⟨rfl,f2⟩);have G:=H_ f2;clear f2
 go_upto_region 6 with (first
  | (go_at_call 17;refine (zdc hT _).mono ?_;rintro e w3 ⟨s,rfl,F0,l,r,u⟩)
  | (go_at_call 37
     refine (zzad hT _ s _ F0 (l.fr0 hT ((Fr.refl No w3).alloc _)) (zad _ _ _ rfl) (fun h=>by have:=l.lt hT _ h;omega)).mono ?_;rintro e w4 ⟨av,ev,F4,rfl,z,t,T⟩))
 have A:Fr No w2 w4:=(r.alloc _).trans t fun b hb h=>by have:=u b h;omega
 have N:=H_ (G.out.trans0 A);have K:=H_ z;clear l r u z t T A
 go_upto_region 7 with (first
  | (go_at_call 42;(with_reducible refine (C.out _ _ _ K.out).mono ?_);rintro e w5 ⟨rfl,f5⟩)
  | (go_at_call 45;(with_reducible refine (H.out w5).mono ?_);rintro e w6 ⟨a6,T6,F6,rfl,s6,m6,n6,f6⟩))
 have a:T6.rev=1:=by rw [m6.rev,zzbc]
 have o:=H_ ((N.out.trans0 f5).trans0 f6);have L:=H_ s6;have M:=H_ a;clear s6 m6 n6 f5 f6 a
 go_wp2_with (first
  | (go_at_call 17;refine (zdc hT _).mono ?_;rintro e w7 ⟨s7,rfl,F7,U,f,an⟩)
  | (go_at_call 42;(with_reducible refine (D.out _ _ _ U).mono ?_);rintro e X ⟨rfl,Q⟩)
  | (go_at_call 19;refine (zgs X a1 T1 F1 (J.out.fr0 hT ((o.out.trans0 f).trans0 Q))).mono ?_;rintro e w9 ⟨rfl,rfl⟩;rw [I.out])
  | (go_at_call 19;refine (zgs X a6 T6 F6 (L.out.fr0 hT (f.trans0 Q))).mono ?_;rintro e w9 ⟨rfl,rfl⟩;rw [M.out])
  | (go_at_call 43;refine (zoq X).mono ?_;rintro e aq ⟨rfl,O⟩))
 go_ret;exact ⟨rfl,((((E.out.trans0 o.out).trans0 f).trans0 Q).trans0 O)⟩
open Go Go.Proofs Go.ChangeShapes Go.WideShapes Go.ChangeAt Go.RowKit Go.Deep
theorem znl {α:Type} (P:Nat->α->Prop):∀ n:Nat,(∀ i,i<n->∃ x,P i x)->∃ L:List α,L.length=n/\∀ (i:Nat) (x:α),L[i]?=some x->P i x
 | 0,_=>⟨[],rfl,fun i x h=>by simp at h⟩
 | n+1,h=>by
   obtain ⟨L,h1,h2⟩:=znl P n fun i hi=>h i (by omega);obtain ⟨x,hx⟩:=h n (by omega);refine ⟨L++[x],by simp [h1],fun i y hy=>?_⟩;by_cases hi:i<L.length
   · rw [List.getElem?_append_left hi] at hy
     exact h2 i y hy
   rw [List.getElem?_append_right (by omega)] at hy
   have h0:i-L.length=0:=by
    have:=(List.getElem?_eq_some_iff.1 hy).1;simp at this;omega
   rw [h0] at hy;simp at hy;subst hy;rw [show i=n by omega];exact hx
section
variable {H:Type} {enc:TypeId×Value->H} {w:World} {base:Nat} {spare:Nat->Bool} {held:Bool}
theorem zho {α:Type} {t e:TypeId} {sz:Nat} (f:α->List Value) (hu:Tryz.prog.underlying t=some (.slice e)) (hC:Tryz.prog.cellsOf e=sz) (hsz:0<sz) (hf:∀ x,(f x).length=sz)
 (hel:∀ n cs x,DataW.trod enc Tryz.prog w base spare held n e cs=some x->cs.length=sz->∃ y,cs=f y) {fuel:Nat} {cs:List Value} {x:DataW H×List MemPlace}
 (h:DataW.trod enc Tryz.prog w base spare held fuel t cs=some x):∃ v L,cs = [v]/\SlR w sz f v L/\∀ b,v.ownBlock=some b->base<=b:=by
 rcases open_slice hu h with ⟨rfl,_⟩ | ⟨a,len,cap,m,n,D,M,rfl,N,O,J,z,P,F⟩
 · exact ⟨_,[],rfl,SlR.nil _ _ _,by simp [Value.ownBlock]⟩
 have I:len<=m:=by rw [z];split <;> omega
 obtain ⟨L,l,d⟩:=znl (fun i y=>∀ j,j<sz->w.cell? ((a.add (i * sz)).add j)=(f y)[j]?) len fun i him=>by
  obtain ⟨C,A,K⟩:=F i (by omega);rw [hC] at A;obtain ⟨_,r,p⟩:=World.cells?_some A;obtain ⟨y,rfl⟩:=hel _ _ _ K r;exact ⟨y,p⟩
 refine ⟨_,L,rfl,⟨some a,cap,by rw [l],by omega,J,fun hp=>?_⟩,fun b hb'=>?_⟩
 · obtain ⟨g,o,B⟩:=a
   have E:B=none:=by
    have c:∃ k,L[0]?=some k:=⟨_,List.getElem?_eq_getElem hp⟩;obtain ⟨k,c⟩:=c;have:=d 0 k c 0 hsz;have s:0<(f k).length:=(by rw [hf];exact hsz);rw [Nat.zero_mul] at this;simp only [Addr.add,if_true] at this;rw [List.getElem?_eq_getElem s] at this;unfold World.cell? at this
    cases B with
    | none=>rfl
    | some q =>
      simp only [Option.isSome_some,if_true] at this
      split at this <;> simp at this
   subst E;refine ⟨g,o,rfl,fun i y hy j u hu'=>?_⟩
   have G:j<sz:=by
    have:=(List.getElem?_eq_some_iff.1 hu').1
    rwa [hf] at this
   have:=d i y hy j G;rw [hu'] at this;rw [<-this]
   congr 1
   unfold Addr.add;by_cases h1:i * sz=0
   · by_cases h2:j=0
     · simp [h1,h2]
     simp [h1,h2]
   by_cases h2:j=0
   · simp [h1,h2]
   simp [h1,h2]
 simp [Value.ownBlock] at hb'
 omega
theorem Tryz.cells9:Tryz.prog.cellsOf 9=1:=by kernel_rfl
theorem Tryz.cells3:Tryz.prog.cellsOf 3=1:=by kernel_rfl
theorem Tryz.cells4:Tryz.prog.cellsOf 4=1:=by kernel_rfl
theorem Tryz.cells35:Tryz.prog.cellsOf 35=7:=by kernel_rfl
theorem Tryz.cells94:Tryz.prog.cellsOf 94=10:=by kernel_rfl
theorem Tryz.cells33:Tryz.prog.cellsOf 33=1:=by kernel_rfl
theorem zkf (n:Nat) (cs:List Value) (x:DataW H×List MemPlace) (h:DataW.trod enc Tryz.prog w base spare held n 35 cs=some x) (hl:cs.length=7):∃ y,cs=rgC y:=by
 obtain ⟨D,b,_,_,_,c,a⟩:=DataW.trod_struct Tryz.underlying35 h
 match cs,hl with
 | [c0,c1,c2,c3,c4,c5,c6],_ =>
   match D,c with
   | [y0,y1,y2,y3,y4,y5,y6],_ =>
     have l:DataW.trod enc Tryz.prog w base spare held b 9 [c0]=some y0:=(by have:=a 0 _ rfl;simpa [Tryz.cells9] using this);have m:DataW.trod enc Tryz.prog w base spare held b 9 [c1]=some y1:=(by have:=a 1 _ rfl;simpa [Tryz.cells9] using this);have o:DataW.trod enc Tryz.prog w base spare held b 3 [c2]=some y2:=(by have:=a 2 _ rfl;simpa [Tryz.cells3] using this);have p:DataW.trod enc Tryz.prog w base spare held b 3 [c3]=some y3:=(by have:=a 3 _ rfl;simpa [Tryz.cells3] using this);have q:DataW.trod enc Tryz.prog w base spare held b 4 [c4]=some y4:=(by have:=a 4 _ rfl;simpa [Tryz.cells4] using this);have r:DataW.trod enc Tryz.prog w base spare held b 4 [c5]=some y5:=(by have:=a 5 _ rfl;simpa [Tryz.cells4] using this)
     have s:DataW.trod enc Tryz.prog w base spare held b 4 [c6]=some y6:=(by have:=a 6 _ rfl;simpa [Tryz.cells4] using this);obtain ⟨t,d,_⟩:=DataW.trod_string Tryz.underlying9 l;obtain ⟨u,e,_⟩:=DataW.trod_string Tryz.underlying9 m;obtain ⟨v,f,_⟩:=DataW.trod_int Tryz.underlying3 o;obtain ⟨z,g,_⟩:=DataW.trod_int Tryz.underlying3 p;obtain ⟨A,i,_⟩:=DataW.trod_bool Tryz.underlying4 q;obtain ⟨B,j,_⟩:=DataW.trod_bool Tryz.underlying4 r;obtain ⟨C,k,_⟩:=DataW.trod_bool Tryz.underlying4 s;simp only [List.cons.injEq,and_true] at d e f g i j k;subst d e f g i j k;exact ⟨⟨t,u,v,z,A,B,C⟩,rfl⟩
theorem zzam (n:Nat) (cs:List Value) (x:DataW H×List MemPlace) (h:DataW.trod enc Tryz.prog w base spare held n 94 cs=some x) (hl:cs.length=10):∃ y,cs=opC y:=by
 obtain ⟨q,b,_,_,_,d,a⟩:=DataW.trod_struct Tryz.underlying94 h
 match cs,hl with
 | [c0,c1,c2,c3,c4,c5,c6,c7,c8,c9],_ =>
   match q,d with
   | [y0,y1,y2,y3],_ =>
     have i:DataW.trod enc Tryz.prog w base spare held b 3 [c0]=some y0:=(by have:=a 0 _ rfl;simpa [Tryz.cells3] using this);have j:DataW.trod enc Tryz.prog w base spare held b 35 [c1,c2,c3,c4,c5,c6,c7]=some y1:=(by have:=a 1 _ rfl;simpa [Tryz.cells35] using this);have k:DataW.trod enc Tryz.prog w base spare held b 9 [c8]=some y2:=(by have:=a 2 _ rfl;simpa [Tryz.cells9] using this);have l:DataW.trod enc Tryz.prog w base spare held b 3 [c9]=some y3:=(by have:=a 3 _ rfl;simpa [Tryz.cells3] using this);obtain ⟨m,e,_⟩:=DataW.trod_int Tryz.underlying3 i;obtain ⟨r,c⟩:=zkf _ _ _ j rfl;obtain ⟨o,f,_⟩:=DataW.trod_string Tryz.underlying9 k;obtain ⟨p,g,_⟩:=DataW.trod_int Tryz.underlying3 l;unfold rgC at c;simp only [List.cons.injEq,and_true] at e c f g;obtain ⟨rfl,rfl,rfl,rfl,rfl,rfl,rfl⟩:=c
     subst e f g;exact ⟨⟨m,r,o,p⟩,rfl⟩
theorem zuh {b0:Nat} {v:Value} {d:DataW H} {p:List MemPlace} (hv:Value.okWide Tryz.prog w .any b0 35 v) (h:DataW.Trod enc Tryz.prog w base spare held 35 v d p):∃ r,v=rgV r:=by
 obtain ⟨cs,rfl,a⟩:=okWide_struct Tryz.underlying35 hv;obtain ⟨l⟩:=cs;obtain ⟨fuel,b⟩:=h;obtain ⟨r,c⟩:=zkf _ _ _ b (by have:=a.trans Tryz.cells35;simpa [Value.cells] using this);refine ⟨r,?_⟩;have:l=rgC r:=by simpa [Value.cells] using c
 rw [this]
 rfl
end
section
variable {H:Type} {enc:TypeId×Value->H} {w:World} {base:Nat} {spare:Nat->Bool} {held:Bool}
theorem Tryz.cells36:Tryz.prog.cellsOf 36=1:=by kernel_rfl
theorem Tryz.cells38:Tryz.prog.cellsOf 38=12:=by kernel_rfl
theorem zsx (n:Nat) (cs:List Value) (x:DataW H×List MemPlace) (h:DataW.trod enc Tryz.prog w base spare held n 9 cs=some x) (_:cs.length=1):∃ y,cs=strC y:=by
 obtain ⟨s,e,_⟩:=DataW.trod_string Tryz.underlying9 h;exact ⟨s,e⟩
theorem zyy (n:Nat) (cs:List Value) (x:DataW H×List MemPlace) (h:DataW.trod enc Tryz.prog w base spare held n 38 cs=some x) (hl:cs.length=12) :
 ∃ q:Cal×List Opr×List ByteArray,cs=calC q/\SlR w 10 opC q.1.ops q.2.1/\SlR w 1 strC q.1.keys q.2.2:=by
 obtain ⟨C,b,_,_,_,d,a⟩:=DataW.trod_struct Tryz.underlying38 h
 match cs,hl with
 | [c0,c1,c2,c3,c4,c5,c6,c7,c8,c9,c10,c11],_ =>
   match C,d with
   | [y0,y1,y2,y3,y4,y5],_ =>
     have m:DataW.trod enc Tryz.prog w base spare held b 3 [c0]=some y0:=(by have:=a 0 _ rfl;simpa [Tryz.cells3,Value.cells] using this);have o:DataW.trod enc Tryz.prog w base spare held b 33 [c1]=some y1:=(by have:=a 1 _ rfl;simpa [Tryz.cells33,Value.cells] using this);have p:DataW.trod enc Tryz.prog w base spare held b 35 [c2,c3,c4,c5,c6,c7,c8]=some y2:=(by have:=a 2 _ rfl;simpa [Tryz.cells35,Value.cells] using this);have s:DataW.trod enc Tryz.prog w base spare held b 3 [c9]=some y3:=(by have:=a 3 _ rfl;simpa [Tryz.cells3,Value.cells] using this);have t:DataW.trod enc Tryz.prog w base spare held b 3 [c10]=some y4:=(by have:=a 4 _ rfl;simpa [Tryz.cells3,Value.cells] using this)
     have u:DataW.trod enc Tryz.prog w base spare held b 36 [c11]=some y5:=(by have:=a 5 _ rfl;simpa [Tryz.cells36,Value.cells] using this);obtain ⟨z,e,_⟩:=DataW.trod_int Tryz.underlying3 m;obtain ⟨D,k,f,v,_⟩:=zho opC Tryz.underlying33 Tryz.cells94 (by omega) zaf (fun n cs x=>zzam n cs x) o;obtain ⟨r,c⟩:=zkf _ _ _ p rfl;obtain ⟨A,g,_⟩:=DataW.trod_int Tryz.underlying3 s;obtain ⟨B,i,_⟩:=DataW.trod_int Tryz.underlying3 t;obtain ⟨E,l,j,y,_⟩:=zho strC Tryz.underlying36 Tryz.cells9 (by omega) zbq (fun n cs x=>zsx n cs x) u;unfold rgC at c;simp only [List.cons.injEq,and_true] at e f c g i j;obtain ⟨rfl,rfl,rfl,rfl,rfl,rfl,rfl⟩:=c;subst e f g i j;exact ⟨(⟨z,_,r,A,B,_⟩,k,l),rfl,v,y⟩
theorem zui {b0:Nat} {v:Value} {d:DataW H} {p:List MemPlace} (hv:Value.okWide Tryz.prog w .any b0 22 v) (h:DataW.Trod enc Tryz.prog w base spare held 22 v d p):∃ l,CalR w v l:=by
 obtain ⟨a,len,cap,rfl⟩:=okWide_slice Tryz.underlying22 hv;obtain ⟨fuel,F⟩:=h;simp only [Value.cells] at F;rcases open_slice Tryz.underlying22 F with ⟨r,_⟩ | ⟨a,c,k,m,n,D,Q,r,R,S,O,B,T,K⟩
 · simp only [List.cons.injEq,and_true] at r
   rw [r];exact ⟨[],⟨SlR.nil _ _ _,by simp,by simp⟩⟩
 simp only [List.cons.injEq,and_true] at r
 rw [r];have N:c<=m:=(by rw [B];split <;> omega)
 obtain ⟨L,t,b⟩:=znl (fun i (y:Cal×List Opr×List ByteArray)=>(∀ j,j<12->w.cell? ((a.add (i * 12)).add j)=(calC y)[j]?)/\SlR w 10 opC y.1.ops y.2.1/\SlR w 1 strC y.1.keys y.2.2) c fun i him=>by
  obtain ⟨I,E,P⟩:=K i (by omega);rw [Tryz.cells38] at E;obtain ⟨_,z,x⟩:=World.cells?_some E;obtain ⟨y,rfl,f,e⟩:=zyy _ _ _ P z;exact ⟨y,x,f,e⟩
 refine ⟨L,⟨⟨some a,k,by rw [t],by omega,O,fun hp=>?_⟩,fun i q hq=>(b i q hq).2.1,fun i q hq=>(b i q hq).2.2⟩⟩;obtain ⟨g,o,G⟩:=a
 have J:G=none:=by
  obtain ⟨s,C⟩:∃ s,L[0]?=some s:=⟨_,List.getElem?_eq_getElem hp⟩;have:=(b 0 s C).1 0 (by decide);have A:0<(calC s).length:=(by rw [zal];decide);rw [Nat.zero_mul] at this;simp only [Addr.add,if_true] at this;rw [List.getElem?_eq_getElem A] at this;unfold World.cell? at this
  cases G with
  | none=>rfl
  | some q =>
    simp only [Option.isSome_some,if_true] at this
    split at this <;> simp at this
 subst J;refine ⟨g,o,rfl,fun i y hy j u hu'=>?_⟩
 have M:j<12:=by
  have:=(List.getElem?_eq_some_iff.1 hu').1
  rwa [zal] at this
 have:=(b i y hy).1 j M;rw [hu'] at this;rw [<-this]
 congr 1
 unfold Addr.add;by_cases f:i * 12=0
 · by_cases e:j=0
   · simp [f,e]
   simp [f,e]
 by_cases e:j=0
 · simp [f,e]
 simp [f,e]
end
theorem wf_i64 {n:Int} (h:(Lit.int .i64 n).wf=true):n<=9223372036854775807:=by
 simp [Lit.wf] at h;omega
theorem zsi {n:Int} (h:(Lit.int .i64 n).wf=true) : -9223372036854775808<=n:=by
 have e:IntKind.i64.min = -9223372036854775808:=rfl;simp [Lit.wf] at h;omega
theorem wf_u8 {n:Int} (h:(Lit.int .u8 n).wf=true):0<=n/\n<=255:=by
 have a:IntKind.u8.min=0:=rfl;have b:IntKind.u8.max=255:=rfl;simp [Lit.wf] at h;omega
theorem SlR.unval {α:Type} {p:α->Prop} {f:α->List Value} {w:World} {sz:Nat} {v:Value} {L:List {x:α // p x}} (h:SlR w sz (fun o:{x:α // p x}=>f o.1) v L):SlR w sz f v (L.map (·.1)):=by
 obtain ⟨a,cap,rfl,b,c,d⟩:=h;refine ⟨a,cap,by simp,by simpa using b,c,fun hp=>?_⟩;obtain ⟨g,o,rfl,e⟩:=d (by simpa using hp);refine ⟨g,o,rfl,fun i x hx j u hu=>?_⟩;rw [List.getElem?_map] at hx
 cases hy:L[i]? with
 | none=>rw [hy] at hx;cases hx
 | some y =>
   rw [hy] at hx;obtain rfl:y.1=x:=by simpa using hx
   exact e i y hy j u hu
section
variable {H:Type} {enc:TypeId×Value->H} {w:World} {base:Nat} {spare:Nat->Bool} {held:Bool}
theorem zyx (n:Nat) (cs:List Value) (x:DataW H×List MemPlace) (h:DataW.trod enc Tryz.prog w base spare held n 94 cs=some x) (hl:cs.length=10):∃ y:{o:Opr // o.lease<=9223372036854775807},cs=opC y.1:=by
 obtain ⟨t,b,_,_,_,d,a⟩:=DataW.trod_struct Tryz.underlying94 h
 match cs,hl with
 | [c0,c1,c2,c3,c4,c5,c6,c7,c8,c9],_ =>
   match t,d with
   | [y0,y1,y2,y3],_ =>
     have i:DataW.trod enc Tryz.prog w base spare held b 3 [c0]=some y0:=(by have:=a 0 _ rfl;simpa [Tryz.cells3] using this);have j:DataW.trod enc Tryz.prog w base spare held b 35 [c1,c2,c3,c4,c5,c6,c7]=some y1:=(by have:=a 1 _ rfl;simpa [Tryz.cells35] using this);have k:DataW.trod enc Tryz.prog w base spare held b 9 [c8]=some y2:=(by have:=a 2 _ rfl;simpa [Tryz.cells9] using this);have l:DataW.trod enc Tryz.prog w base spare held b 3 [c9]=some y3:=(by have:=a 3 _ rfl;simpa [Tryz.cells3] using this);obtain ⟨m,e,_⟩:=DataW.trod_int Tryz.underlying3 i;obtain ⟨r,c⟩:=zkf _ _ _ j rfl;obtain ⟨p,f,_⟩:=DataW.trod_string Tryz.underlying9 k;obtain ⟨q,g,_,s⟩:=DataW.trod_int Tryz.underlying3 l;unfold rgC at c;simp only [List.cons.injEq,and_true] at e c f g;obtain ⟨rfl,rfl,rfl,rfl,rfl,rfl,rfl⟩:=c
     subst e f g;exact ⟨⟨⟨m,r,p,q⟩,wf_i64 s⟩,rfl⟩
theorem zwt (n:Nat) (cs:List Value) (x:DataW H×List MemPlace) (h:DataW.trod enc Tryz.prog w base spare held n 38 cs=some x) (hl:cs.length=12) :
 ∃ q:Cal×List Opr×List ByteArray,cs=calC q/\SlR w 10 opC q.1.ops q.2.1/\SlR w 1 strC q.1.keys q.2.2/\LeaQ q:=by
 obtain ⟨E,b,_,_,_,d,a⟩:=DataW.trod_struct Tryz.underlying38 h
 match cs,hl with
 | [c0,c1,c2,c3,c4,c5,c6,c7,c8,c9,c10,c11],_ =>
   match E,d with
   | [y0,y1,y2,y3,y4,y5],_ =>
     have m:DataW.trod enc Tryz.prog w base spare held b 3 [c0]=some y0:=(by have:=a 0 _ rfl;simpa [Tryz.cells3,Value.cells] using this);have p:DataW.trod enc Tryz.prog w base spare held b 33 [c1]=some y1:=(by have:=a 1 _ rfl;simpa [Tryz.cells33,Value.cells] using this);have s:DataW.trod enc Tryz.prog w base spare held b 35 [c2,c3,c4,c5,c6,c7,c8]=some y2:=(by have:=a 2 _ rfl;simpa [Tryz.cells35,Value.cells] using this);have t:DataW.trod enc Tryz.prog w base spare held b 3 [c9]=some y3:=(by have:=a 3 _ rfl;simpa [Tryz.cells3,Value.cells] using this);have u:DataW.trod enc Tryz.prog w base spare held b 3 [c10]=some y4:=(by have:=a 4 _ rfl;simpa [Tryz.cells3,Value.cells] using this)
     have v:DataW.trod enc Tryz.prog w base spare held b 36 [c11]=some y5:=(by have:=a 5 _ rfl;simpa [Tryz.cells36,Value.cells] using this);obtain ⟨B,e,_⟩:=DataW.trod_int Tryz.underlying3 m;obtain ⟨F,k,f,z,_⟩:=zho (fun o:{o:Opr // o.lease<=9223372036854775807}=>opC o.1) Tryz.underlying33 Tryz.cells94 (by omega) (fun o=>zaf o.1) (fun n cs x=>zyx n cs x) p;obtain ⟨r,c⟩:=zkf _ _ _ s rfl;obtain ⟨C,g,_⟩:=DataW.trod_int Tryz.underlying3 t;obtain ⟨D,i,_⟩:=DataW.trod_int Tryz.underlying3 u;obtain ⟨G,l,j,A,_⟩:=zho strC Tryz.underlying36 Tryz.cells9 (by omega) zbq (fun n cs x=>zsx n cs x) v;unfold rgC at c;simp only [List.cons.injEq,and_true] at e f c g i j;obtain ⟨rfl,rfl,rfl,rfl,rfl,rfl,rfl⟩:=c;subst e f g i j
     exact ⟨(⟨B,_,r,C,D,_⟩,k.map Subtype.val,l),rfl,z.unval,A,fun o ho=>by
      obtain ⟨y,_,rfl⟩:=List.mem_map.1 ho;exact y.property⟩
theorem zdq {b0:Nat} {v:Value} {d:DataW H} {p:List MemPlace} (hv:Value.okWide Tryz.prog w .any b0 22 v) (h:DataW.Trod enc Tryz.prog w base spare held 22 v d p):∃ l,CalR w v l/\∀ q∈l,LeaQ q:=by
 obtain ⟨a,len,cap,rfl⟩:=okWide_slice Tryz.underlying22 hv;obtain ⟨fuel,G⟩:=h;simp only [Value.cells] at G;rcases open_slice Tryz.underlying22 G with ⟨r,_⟩ | ⟨a,c,k,m,n,D,S,r,T,U,Q,C,V,N⟩
 · simp only [List.cons.injEq,and_true] at r
   rw [r];exact ⟨[],⟨SlR.nil _ _ _,by simp,by simp⟩,by simp⟩
 simp only [List.cons.injEq,and_true] at r
 rw [r];have P:c<=m:=(by rw [C];split <;> omega)
 obtain ⟨L,t,b⟩:=znl (fun i (y:Cal×List Opr×List ByteArray)=>(∀ j,j<12->w.cell? ((a.add (i * 12)).add j)=(calC y)[j]?)/\SlR w 10 opC y.1.ops y.2.1/\SlR w 1 strC y.1.keys y.2.2/\LeaQ y) c fun i him=>by
  obtain ⟨J,F,R⟩:=N i (by omega);rw [Tryz.cells38] at F;obtain ⟨_,z,x⟩:=World.cells?_some F;obtain ⟨y,rfl,f,e,M⟩:=zwt _ _ _ R z;exact ⟨y,x,f,e,M⟩
 refine ⟨L,⟨⟨some a,k,by rw [t],by omega,Q,fun hp=>?_⟩,fun i q hq=>(b i q hq).2.1,fun i q hq=>(b i q hq).2.2.1⟩,fun q hq=>by
  obtain ⟨i,A⟩:=List.mem_iff_getElem?.1 hq;exact (b i q A).2.2.2⟩
 obtain ⟨g,o,I⟩:=a
 have K:I=none:=by
  obtain ⟨s,E⟩:∃ s,L[0]?=some s:=⟨_,List.getElem?_eq_getElem hp⟩;have:=(b 0 s E).1 0 (by decide);have B:0<(calC s).length:=(by rw [zal];decide);rw [Nat.zero_mul] at this;simp only [Addr.add,if_true] at this;rw [List.getElem?_eq_getElem B] at this;unfold World.cell? at this
  cases I with
  | none=>rfl
  | some q =>
    simp only [Option.isSome_some,if_true] at this
    split at this <;> simp at this
 subst K;refine ⟨g,o,rfl,fun i y hy j u hu'=>?_⟩
 have O:j<12:=by
  have:=(List.getElem?_eq_some_iff.1 hu').1
  rwa [zal] at this
 have:=(b i y hy).1 j O;rw [hu'] at this;rw [<-this]
 congr 1
 unfold Addr.add;by_cases f:i * 12=0
 · by_cases e:j=0
   · simp [f,e]
   simp [f,e]
 by_cases e:j=0
 · simp [f,e]
 simp [f,e]
end
theorem zaz (l:List UInt8):(⟨l.toArray⟩:ByteArray).size=l.length:=List.size_toArray
theorem zny (l:List UInt8) (m:ByteArray):(⟨l.toArray⟩:ByteArray)++m=⟨(l++m.data.toList).toArray⟩:=by
 apply ByteArray.ext;rw [ByteArray.data_append];apply Array.ext';simp
theorem zbz (l m:List UInt8):(⟨l.toArray⟩:ByteArray)++(⟨m.toArray⟩:ByteArray)=⟨(l++m).toArray⟩:=by
 rw [zny]
theorem zmv (t:ByteArray):(txtB t).length=8+t.size:=by
 have e:t.data.toList.length=t.size:=Array.length_toList;unfold txtB;rw [List.length_append,zam,e]
theorem zqb {l:List Kv} (h:KSorted l) (x:Ev) (hk:x.kind≠1) {y:Kv} (hy:y∈l) (he:y.key=x.kv.key):(doneL l x).length+1<=l.length:=by
 induction l with
 | nil=>cases hy
 | cons k l ih =>
   obtain ⟨c,d⟩:=List.pairwise_cons.1 h;unfold doneL;rcases List.mem_cons.1 hy with rfl | a
   · have b:klt y.key x.kv.key=false:=by rw [he];exact zbk _
     have e:keq y.key x.kv.key=true:=zas.2 he;rw [b,if_neg (by decide),if_neg hk,if_pos e];simp
   have b:klt k.key x.kv.key=true:=by rw [<-he];exact c y a
   rw [if_pos b];have:=ih d a;simp only [List.length_cons];omega
theorem ztl (rev:Int):∀ (xs:List Kv) (l:List Kv),KSorted l->(∀ x∈xs,x∈l)->KSorted xs →
 KSorted (xs.foldl (fun l x=>doneL l (goneE x rev)) l)/\(xs.foldl (fun l x=>doneL l (goneE x rev)) l).length+xs.length<=l.length
 | [],l,h,_,_=>⟨h,by simp⟩
 | x :: xs,l,h,hx,hs=>by
   obtain ⟨s1,s2⟩:=List.pairwise_cons.1 hs;have h1:=zqb h (goneE x rev) (by show (2:Int)≠1;decide) (hx x List.mem_cons_self) rfl
   have h2:=ztl rev xs (doneL l (goneE x rev)) (zbp h _) (fun y hy=>(zhr h _ y).2 (.inr ⟨hx y (List.mem_cons_of_mem _ hy),by
    show keq y.key x.key=false
    rw [zda];exact klt_ne (s1 y hy)⟩)) s2
   refine ⟨h2.1,?_⟩;have:=h2.2;rw [List.foldl_cons,List.length_cons];omega
theorem zvz (D:Doc) (r:RunD) (o:Opr) (h:KSorted r.now):KSorted (stepD D r o).now/\(stepD D r o).E.length+(stepD D r o).now.length<=r.E.length+r.now.length+2:=by
 unfold stepD
 split
 · have:=zxt r.now (putD r.now o (D.rev+1))
   exact ⟨zbp h _,by simp only [List.length_append,List.length_singleton];omega⟩
 split
 · exact ⟨h,by dsimp only;omega⟩
 rw [zji]
 have:=ztl (D.rev+1) (r.now.filter fun y=>inB y.key o.rg.key o.rg.end_) r.now h (fun x hx=>(List.mem_filter.1 hx).1) (h.sublist List.filter_sublist);exact ⟨this.1,by have:=this.2;simp only [List.length_append,List.length_map];omega⟩
theorem zmi (D:Doc):∀ (ops:List Opr) (r:RunD),KSorted r.now->KSorted (ops.foldl (stepD D) r).now/\(ops.foldl (stepD D) r).E.length+(ops.foldl (stepD D) r).now.length<=r.E.length+r.now.length+2 * ops.length
 | [],r,h=>⟨h,by simp⟩
 | o :: ops,r,h=>by
   have h1:=zvz D r o h;have h2:=zmi D ops (stepD D r o) h1.1;refine ⟨h2.1,?_⟩;have:=h2.2;have:=h1.2;rw [List.foldl_cons,List.length_cons];omega
theorem zxp (rev:Int) (q:List Kv×List Ev) (k:ByteArray) (h:KSorted q.1):KSorted (dropQ rev q k).1/\(dropQ rev q k).2.length+(dropQ rev q k).1.length<=q.2.length+q.1.length:=by
 unfold dropQ
 split
 · rename_i hv
   have a:∃ y∈q.1,y.key=k:=by
    cases hh:hasL q.1 k with
    | none =>
      unfold wasL at hv;rw [hh] at hv;exact absurd hv (by decide)
    | some y=>exact ⟨y,((zbm h k y).1 hh).1,((zbm h k y).1 hh).2⟩
   obtain ⟨y,b,e⟩:=a;have:=zqb h (dropE k rev (wasL q.1 k)) (by show (2:Int)≠1;decide) b e;exact ⟨zbp h _,by simp only [List.length_append,List.length_singleton];omega⟩
 exact ⟨h,Nat.le_refl _⟩
theorem zmm (rev:Int):∀ (keys:List ByteArray) (q:List Kv×List Ev),KSorted q.1->(keys.foldl (dropQ rev) q).2.length+(keys.foldl (dropQ rev) q).1.length<=q.2.length+q.1.length
 | [],q,h=>Nat.le_refl _
 | k :: keys,q,h=>by
   have h1:=zxp rev q k h;have h2:=zmm rev keys (dropQ rev q k) h1.1;have:=h1.2;rw [List.foldl_cons];omega
theorem ztu {D:Doc} {E:List Ev} {n:Nat} (hm:∀ e∈E,e.kv.mod=D.rev+1) (hn:E.length+((D.adds E).at (D.rev+1)).length<=(D.at D.rev).length+n):(D.adds E).events.length+((D.adds E).at (D.adds E).rev).length<=D.events.length+(D.at D.rev).length+n:=by
 rw [(Doc.adds_parts D E).2.2,Doc.adds_rev D E _ hm,List.length_append];by_cases hE:E = []
 · subst hE
   rw [if_pos rfl]
   show D.events.length+0+(D.at D.rev).length<=_
   omega
 rw [if_neg hE]
 omega
theorem ztp {k:Nat} {S:St} {D:Doc} (h:Good k S D) (hk:k<=70) {q:CalQ} (hq:fewCal q=true):(doD S D q).events.length+((doD S D q).at (doD S D q).rev).length<=D.events.length+(D.at D.rev).length+32:=by
 obtain ⟨s,v,l,w,x⟩:=zdh hq;have u:=h.cpl.m0;have g:KSorted (D.at D.rev):=Doc.at_sorted h.cpl.ks _;unfold doD;by_cases h4:kindN q.1.kind=4
 · rw [if_pos h4];omega
 rw [if_neg h4]
 by_cases h5:kindN q.1.kind=5
 · rw [if_pos h5]
   split
   · rename_i hc
     rw [h.compactDoc] at hc;unfold zgc at hc
     split at hc
     · cases hc
     split at hc
     · cases hc
     have f:(D.cut q.1.rev).at (D.cut q.1.rev).rev=D.at D.rev:=Doc.cut_at h.doc.es (by omega) (by show q.1.rev<=D.rev;omega) fun e j=>(h.doc.lo e j).2.2
     rw [f];have:(D.cut q.1.rev).events.length<=D.events.length:=List.length_filter_le _ _;omega
   omega
 rw [if_neg h5]
 by_cases h6:kindN q.1.kind=6
 · rw [if_pos h6];omega
 rw [if_neg h6]
 by_cases h7:kindN q.1.kind=7
 · rw [if_pos h7]
   obtain ⟨a,_⟩:=h.drops hk q.2.2 l q.2.2.length (Nat.le_refl _);have d:=h.dropsQ hk q.2.2 l q.2.2.length (Nat.le_refl _);have j:dropTo (D.rev+1) S q.2.2 q.2.2.length=q.2.2.foldl (dropR (D.rev+1)) (S,[]):=(by unfold dropTo;rw [List.take_length]);rw [j] at a d;rw [List.take_length] at d;have b:=zmm (D.rev+1) q.2.2 (D.at D.rev,[]) g;have i:q.2.2.foldl (dropQ (D.rev+1)) (D.at D.rev,[])=dropsQ D q.2.2:=rfl;rw [i,d] at b;dsimp only [List.length_nil] at b;have:=ztu (n:=32) a.mods (by omega);exact this
 rw [if_neg h7]
 by_cases ha:applyE S q.2.1=0
 · rw [if_pos ha]
   have c:∀ o∈q.2.1,o.rg.key.size<=1099511627776:=fun o ho=>by have:=(s o ho).1;omega
   obtain ⟨f,r⟩:=zbv ha;have t:=(zcz f).1;obtain ⟨⟨a,_⟩,_⟩:=h.runs hk f c q.2.1.length (Nat.le_refl _);obtain ⟨m,_,p⟩:=h.runD hk f r c q.2.1.length (Nat.le_refl _);rw [List.take_length] at a m p;have b:=(zmi D q.2.1 ⟨D.at D.rev,[],[]⟩ g).2;have i:q.2.1.foldl (stepD D) ⟨D.at D.rev,[],[]⟩=runD D q.2.1:=rfl;rw [i,m,p] at b;dsimp only [List.length_nil] at b;have:=ztu (n:=32) a.mods (by omega);exact this
 rw [if_neg ha];omega
theorem zqa {l:List CalQ} (h:zba l=true):∀ i≤ l.length,(donesT l i).2.events.length+((donesT l i).2.at (donesT l i).2.rev).length<=32 * i:=by
 obtain ⟨d,b⟩:=zar h;have c:=zbe h;intro i
 induction i with
 | zero=>intro _;exact Nat.le_refl 0
 | succ i ih =>
   intro e;obtain ⟨q,a⟩:∃ q,l[i]?=some q:=⟨_,List.getElem?_eq_getElem (by omega)⟩;rw [zcq l a];have:=ztp (c i (by omega)) (by omega) (b q (List.mem_of_getElem? a));have:=ih (by omega);dsimp only at *;omega
theorem zxr {l:List CalQ} (h:zba l=true) (hl:∀ q∈l,LeaQ q):(docB (donesT l l.length).2).length<=3000000:=by
 have d:=(zar h).1;have c:=zbe h l.length (Nat.le_refl _);have i:=zqa h l.length (Nat.le_refl _);obtain ⟨b,a⟩:=zhd h hl
 have j:(donesT l l.length).2.kvs.length<=16 * l.length:=by
  have g:=c.size;rw [<-zeg c];unfold zap;exact Nat.le_trans (List.length_filterMap_le _ _) (by omega)
 have e:=zbs kvB 1200 _ fun x hx=>(b x hx).2;have f:=zbs evB 2500 _ fun x hx=>(a x hx).2;unfold docB stB;simp only [List.length_append,zam];omega
theorem MayP.kvLen {x:Kv} {r:Int} (h:MayP x r):(kvB x).length<=1200:=by
 have d:=(zek h.1).2;have c:=h.2.1;have a:x.key.data.toList.length=x.key.size:=Array.length_toList;have b:x.value.data.toList.length=x.value.size:=Array.length_toList;unfold kvB txtB;simp only [List.length_append,zam,a,b];omega
structure ImgI (D:Doc):Prop where
 keys:KeysOk D
 rinv:RInv D
theorem zyn {k:Nat} {S:St} {D:Doc} (hG:Good k S D) (hk:k<=70) (h:ImgI D):(∀ x∈D.kvs,(kvB x).length<=1200)/\∀ x∈D.events,(evB x).length<=2500:=by
 obtain ⟨a,b⟩:=h;have j:=hG.cpl.m0;have l:=hG.rev1;refine ⟨fun x hx=>(b.kv x hx).kvLen,fun x hx=>?_⟩;have f:=hG.doc.lo x hx;have c:=b.prevM hG.doc a hG.cpl.ks hx
 have g:(kvB x.prev).length<=1200:=by
  rcases c with e | ⟨_,e⟩
  · rw [e];exact kv0N.2
  exact e.kvLen
 have i:(kvB x.kv).length<=1200:=by
  have d:=b.ev x hx;by_cases hk1:x.kind=1
  · exact (znj d hk1 (a.evs x hx) (by omega) c).kvLen
  rcases d with ⟨e,_⟩ | ⟨_,_,e⟩
  · exact absurd e hk1
  rw [e];exact (goneN (a.evs x hx) (by omega) (by omega)).2
 unfold evB;simp only [List.length_append,zam];omega
theorem zuz {l:List CalQ} (h:zba l=true):ImgI (donesT l l.length).2/\(donesT l l.length).2.events.length+((donesT l l.length).2.at (donesT l l.length).2.rev).length<=1000:=by
 have a:=(zar h).1;have:=zqa h l.length (Nat.le_refl _);exact ⟨⟨zdo h l.length (Nat.le_refl _),zgk h l.length (Nat.le_refl _)⟩,by omega⟩
theorem zzs {k:Nat} {S:St} {D:Doc} (h:Good k S D) (hk:k<=40) {l:List CalQ} (hl:zba l=true) (hI:ImgI D/\D.events.length+(D.at D.rev).length<=1000) :
 ∀ i≤ l.length,(docB (dDs D l i)).length<=140737488355328/\(dDs D l i).kvs.length+(dDs D l i).events.length<=1000000:=by
 obtain ⟨m,n⟩:=zar hl;have f:=h.goes hk hl
 have d:∀ i≤ l.length,ImgI (dDs D l i)/\(dDs D l i).events.length+((dDs D l i).at (dDs D l i).rev).length<=1000+32 * i:=by
  intro i
  induction i with
  | zero=>intro _;exact hI
  | succ i ih =>
    intro e;obtain ⟨q,g⟩:∃ q,l[i]?=some q:=⟨_,List.getElem?_eq_getElem (by omega)⟩;obtain ⟨⟨c,j⟩,v⟩:=ih (by omega);have a:=f i (by omega);have b:=n q (List.mem_of_getElem? g);have o:=a.doDoc (by omega) b;rw [ztr D l g,<-o.2];exact ⟨⟨a.keys_does (by omega) b c,zox a (by omega) b c j⟩,by have:=ztp a (by omega) b;omega⟩
 intro i e;obtain ⟨c,j⟩:=d i e;have a:=f i e;obtain ⟨r,s⟩:=zyn a (by omega) c
 have p:(dDs D l i).kvs.length<=16 * (k+i):=by
  have m:=a.size;rw [<-zeg a];unfold zap;exact Nat.le_trans (List.length_filterMap_le _ _) (by omega)
 have t:=zbs kvB 1200 _ r;have u:=zbs evB 2500 _ s;refine ⟨?_,by omega⟩;unfold docB stB;simp only [List.length_append,zam];omega
def KvM (N:Nat) (x:Kv):Prop:=x.key.size<=N/\x.value.size<=N/\N64 x.create/\N64 x.mod/\N64 x.version/\N64 x.lease
def EvM (N:Nat) (x:Ev):Prop:=N64 x.kind/\KvM N x.kv/\KvM N x.prev
theorem zgw (s:Rd):N64 (rdN s).2:=by
 unfold rdN
 split
 · exact ⟨by dsimp only;omega,by dsimp only;omega⟩
 unfold numR N64 wrap64
 dsimp only;omega
theorem zzai {s:Rd} (h:(rdN s).1.2=false):s.2=false:=by
 unfold rdN at h
 split at h
 · cases h
 exact h
theorem zst (s:Rd):(rdT s).2.size<=s.1.length:=by
 have h:=(zcc s).1;unfold rdT;dsimp only
 split
 · exact Nat.zero_le _
 show (List.toArray _).size<=_
 rw [List.size_toArray,List.length_take];omega
theorem znm (N:Nat) (s:Rd) (x:Kv) (h:s.1.length<=N):KvM N (kvW rdW s x).2:=by
 unfold kvW;simp only [rdW];have g:=(znb s).1;have e:=zst s;generalize rdT s=K at *;have f:=zst K.1;generalize rdT K.1=V at *;have a:=zgw V.1;generalize rdN V.1=A at *;have b:=zgw A.1;generalize rdN A.1=B at *;have c:=zgw B.1;generalize rdN B.1=C at *;have d:=zgw C.1;generalize rdN C.1=D at *;exact ⟨by dsimp only;omega,by dsimp only;omega,a,b,c,d⟩
theorem zzt (N:Nat) (s:Rd) (x:Ev) (h:s.1.length<=N):EvM N (evW rdW s x).2:=by
 unfold evW;have a:∀ s n,rdW.num s n=rdN s:=fun _ _=>rfl;simp only [a];have e:=(zcc s).1;have b:=zgw s;generalize rdN s=K at *;have f:=(zha K.1 x.kv).1;have c:=znm N K.1 x.kv (by omega);generalize kvW rdW K.1 x.kv=V at *;have d:=znm N V.1 x.prev (by omega);generalize kvW rdW V.1 x.prev=A at *;exact ⟨b,c,d⟩
theorem Lst.bad0 {α:Type} {ea:Rd->α->Rd×α} {z:α} {n:Int} {g:Nat} {s:Rd} {L:List α} {i:Nat} {s':Rd} {L':List α} (h:Lst rdW ea z n g s L i s' L') (hb:s'.2=false):s.2=false:=by
 cases h with
 | stop _ _ _ _=>exact hb
 | step _ _ _ _ _ _ _ _ hc _ _ _=>exact hc.2
theorem zso {α:Type} (L:List α) (z y:α):(L++[z]).set L.length y=L++[y]:=by
 rw [List.set_append_right _ _ (Nat.le_refl _),Nat.sub_self]
 rfl
theorem Lst.nice {α:Type} {ea:Rd->α->Rd×α} {z:α} {n:Int} {N:Nat} {P:α->Prop} (hl:Less ea) (he:∀ s x,s.1.length<=N->P (ea s x).2) {g:Nat} {s:Rd} {L:List α} {i:Nat} {s':Rd} {L':List α} (h:Lst rdW ea z n g s L i s' L') :
 i=L.length->(∀ x∈L,P x)->s.1.length<=N->∀ x∈L',P x:=by
 induction h with
 | stop _ _ _ _=>exact fun _ h _=>h
 | step g s L L1 i x s' L' hc h1 hx _ ih =>
   intro b c a;rw [if_pos b] at h1;subst h1 b;rw [zso] at ih;refine ih (by simp) (fun y hy=>?_) (Nat.le_trans (hl s x).1 a);rcases List.mem_append.1 hy with h | h
   · exact c y h
   rw [List.mem_singleton.1 h]
   exact he s x a
theorem Lst.rounds {α:Type} {ea:Rd->α->Rd×α} {z:α} {n:Int} (hl:Less ea) {g:Nat} {s:Rd} {L:List α} {i:Nat} {s':Rd} {L':List α} (h:Lst rdW ea z n g s L i s' L') :
 i=L.length->s'.2=false->8 * L'.length+s'.1.length<=8 * L.length+s.1.length:=by
 induction h with
 | stop _ _ _ _=>exact fun _ _=>Nat.le_refl _
 | step g s L L1 i x s' L' hc h1 hx hr ih =>
   intro b a;rw [if_pos b] at h1;subst h1 b;rw [zso] at ih hr;have c:=ih (by simp) a;have d:=(hl s x).2 (hr.bad0 a);simp only [List.length_append,List.length_singleton] at c;omega
theorem StW.reads {g k N:Nat} {s s':Rd} {rev' mark':Int} {kvs':List Kv} {evs':List Ev} (h:StW rdW g k s 0 0 [] [] s' rev' mark' kvs' evs') (hN:s.1.length<=N) :
 (∀ x∈kvs',KvM N x)/\(∀ x∈evs',EvM N x)/\N64 rev'/\N64 mark'/\(s'.2=false->8 * kvs'.length+8 * evs'.length<=N):=by
 obtain ⟨⟨l,b,c⟩,f,j⟩:=h;have a:∀ s n,rdW.num s n=rdN s:=fun _ _=>rfl;simp only [a] at b c f j;have q:=(zcc s).1;have r:=(zcc (rdN s).1).1;have t:=(zcc (rdN (rdN s).1).1).1;have u:=(zcc l).1
 have v:l.1.length<=(rdN (rdN (rdN s).1).1).1.1.length:=by
  have e:∀ {α:Type} {ea:Rd->α->Rd×α} {z:α} {n:Int} {g:Nat} {s:Rd} {L:List α} {i:Nat} {s':Rd} {d:List α},Less ea->Lst rdW ea z n g s L i s' d->s'.1.length<=s.1.length:=by
   intro α ea z n g s L i s' d m h
   induction h with
   | stop _ _ _ _=>exact Nat.le_refl _
   | step g s L L1 i x s' d _ _ _ _ ih=>exact Nat.le_trans ih (m s x).1
  exact e zha b
 refine ⟨b.nice (N:=N) zha (fun s x hs=>znm N s x hs) rfl (by simp) (by omega),c.nice (N:=N) zrp (fun s x hs=>zzt N s x hs) rfl (by simp) (by omega),f▸zgw _,j▸zgw _,fun hb=>?_⟩;have p:=c.rounds zrp rfl hb;have b2:=zzai (c.bad0 hb);have o:=b.rounds zha rfl b2;simp only [List.length_nil] at o p;omega
end Go.Proofs.YthljnnjpmdgkoaaGreat