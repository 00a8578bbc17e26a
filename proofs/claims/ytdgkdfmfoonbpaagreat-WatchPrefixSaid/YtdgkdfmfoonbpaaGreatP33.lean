/- Own lemmas. -/
import Derived.Test.YtdgkdfmfoonbpaaGreatP16
import Derived.Test.YtdgkdfmfoonbpaaGreatP23
import Derived.Test.YtdgkdfmfoonbpaaGreatP30
import Derived.Deep.DeepCutAuto
import Derived.ProofKit
import Derived.Deep.Slices
import Derived.Deep.Fields
import Derived.ChangeSame
namespace Go.Proofs.YtdgkdfmfoonbpaaGreat
open Go Go.Proofs Go.ChangeShapes Go.WideShapes Go.ChangeAt Go.RowKit Go.Deep
set_option maxRecDepth 100000
theorem zng {α:Type} (P:Nat->α->Prop):∀ n:Nat,(∀ i,i<n->∃ x,P i x)->∃ L:List α,L.length=n/\∀ (i:Nat) (x:α),L[i]?=some x->P i x
 | 0,_=>⟨[],rfl,fun i x h=>by simp at h⟩
 | n+1,h=>by
   obtain ⟨L,h1,h2⟩:=zng P n fun i hi=>h i (by omega);obtain ⟨x,hx⟩:=h n (by omega);refine ⟨L++[x],by simp [h1],fun i y hy=>?_⟩;by_cases hi:i<L.length
   · rw [List.getElem?_append_left hi] at hy
     exact h2 i y hy
   rw [List.getElem?_append_right (by omega)] at hy
   have h0:i-L.length=0:=by
    have:=(List.getElem?_eq_some_iff.1 hy).1;simp at this;omega
   rw [h0] at hy;simp at hy;subst hy;rw [show i=n by omega];exact hx
section
variable {H:Type} {enc:TypeId×Value->H} {w:World} {base:Nat} {spare:Nat->Bool} {held:Bool}
theorem zlr {α:Type} {t e:TypeId} {sz:Nat} (f:α->List Value) (hu:Tryz.prog.underlying t=some (.slice e)) (hC:Tryz.prog.cellsOf e=sz) (hsz:0<sz) (hf:∀ x,(f x).length=sz)
 (hel:∀ n cs x,DataW.trod enc Tryz.prog w base spare held n e cs=some x->cs.length=sz->∃ y,cs=f y) {fuel:Nat} {cs:List Value} {x:DataW H×List MemPlace}
 (h:DataW.trod enc Tryz.prog w base spare held fuel t cs=some x):∃ v L,cs = [v]/\SlR w sz f v L/\∀ b,v.ownBlock=some b->base<=b:=by
 rcases open_slice hu h with ⟨rfl,_⟩ | ⟨a,len,cap,m,n,D,N,rfl,O,P,K,A,Q,G⟩
 · exact ⟨_,[],rfl,SlR.nil _ _ _,by simp [Value.ownBlock]⟩
 have J:len<=m:=by rw [A];split <;> omega
 obtain ⟨L,l,d⟩:=zng (fun i y=>∀ j,j<sz->w.cell? ((a.add (i * sz)).add j)=(f y)[j]?) len fun i him=>by
  obtain ⟨E,B,M⟩:=G i (by omega);rw [hC] at B;obtain ⟨_,s,r⟩:=World.cells?_some B;obtain ⟨y,rfl⟩:=hel _ _ _ M s;exact ⟨y,r⟩
 refine ⟨_,L,rfl,⟨some a,cap,by rw [l],by omega,K,fun hp=>?_⟩,fun b hb'=>?_⟩
 · obtain ⟨g,o,C⟩:=a
   have F:C=none:=by
    have c:∃ k,L[0]?=some k:=⟨_,List.getElem?_eq_getElem hp⟩;obtain ⟨k,c⟩:=c;have:=d 0 k c 0 hsz;have z:0<(f k).length:=(by rw [hf];exact hsz);rw [Nat.zero_mul] at this;simp only [Addr.add,if_true] at this;rw [List.getElem?_eq_getElem z] at this;unfold World.cell? at this
    cases C with
    | none=>rfl
    | some q =>
      simp only [Option.isSome_some,if_true] at this
      split at this <;> simp at this
   subst F;refine ⟨g,o,rfl,fun i y hy j u hu'=>?_⟩
   have I:j<sz:=by
    have:=(List.getElem?_eq_some_iff.1 hu').1
    rwa [hf] at this
   have:=d i y hy j I;rw [hu'] at this;rw [<-this]
   congr 1
   unfold Addr.add;by_cases h1:i * sz=0
   · by_cases h2:j=0
     · simp [h1,h2]
     simp [h1,h2]
   by_cases h2:j=0
   · simp [h1,h2]
   simp [h1,h2]
 simp [Value.ownBlock] at hb'
 omega
theorem Tryz.cells9:Tryz.prog.cellsOf 9=1:=by kernel_rfl
theorem Tryz.cells3:Tryz.prog.cellsOf 3=1:=by kernel_rfl
theorem Tryz.cells4:Tryz.prog.cellsOf 4=1:=by kernel_rfl
theorem Tryz.cells24:Tryz.prog.cellsOf 24=7:=by kernel_rfl
theorem Tryz.cells139:Tryz.prog.cellsOf 139=10:=by kernel_rfl
theorem Tryz.cells22:Tryz.prog.cellsOf 22=1:=by kernel_rfl
theorem zsl (n:Nat) (cs:List Value) (x:DataW H×List MemPlace) (h:DataW.trod enc Tryz.prog w base spare held n 24 cs=some x) (hl:cs.length=7):∃ y,cs=rgC y:=by
 obtain ⟨E,b,_,_,_,c,a⟩:=DataW.trod_struct Tryz.underlying24 h
 match cs,hl with
 | [c0,c1,c2,c3,c4,c5,c6],_ =>
   match E,c with
   | [y0,y1,y2,y3,y4,y5,y6],_ =>
     have l:DataW.trod enc Tryz.prog w base spare held b 9 [c0]=some y0:=(by have:=a 0 _ rfl;simpa [Tryz.cells9] using this);have m:DataW.trod enc Tryz.prog w base spare held b 9 [c1]=some y1:=(by have:=a 1 _ rfl;simpa [Tryz.cells9] using this);have o:DataW.trod enc Tryz.prog w base spare held b 3 [c2]=some y2:=(by have:=a 2 _ rfl;simpa [Tryz.cells3] using this);have q:DataW.trod enc Tryz.prog w base spare held b 3 [c3]=some y3:=(by have:=a 3 _ rfl;simpa [Tryz.cells3] using this);have r:DataW.trod enc Tryz.prog w base spare held b 4 [c4]=some y4:=(by have:=a 4 _ rfl;simpa [Tryz.cells4] using this);have s:DataW.trod enc Tryz.prog w base spare held b 4 [c5]=some y5:=(by have:=a 5 _ rfl;simpa [Tryz.cells4] using this)
     have t:DataW.trod enc Tryz.prog w base spare held b 4 [c6]=some y6:=(by have:=a 6 _ rfl;simpa [Tryz.cells4] using this);obtain ⟨u,d,_⟩:=DataW.trod_string Tryz.underlying9 l;obtain ⟨v,e,_⟩:=DataW.trod_string Tryz.underlying9 m;obtain ⟨z,f,_⟩:=DataW.trod_int Tryz.underlying3 o;obtain ⟨A,g,_⟩:=DataW.trod_int Tryz.underlying3 q;obtain ⟨B,i,_⟩:=DataW.trod_bool Tryz.underlying4 r;obtain ⟨C,j,_⟩:=DataW.trod_bool Tryz.underlying4 s;obtain ⟨D,k,_⟩:=DataW.trod_bool Tryz.underlying4 t;simp only [List.cons.injEq,and_true] at d e f g i j k;subst d e f g i j k;exact ⟨⟨u,v,z,A,B,C,D⟩,rfl⟩
theorem zwh (n:Nat) (cs:List Value) (x:DataW H×List MemPlace) (h:DataW.trod enc Tryz.prog w base spare held n 139 cs=some x) (hl:cs.length=10):∃ y,cs=opC y:=by
 obtain ⟨s,b,_,_,_,d,a⟩:=DataW.trod_struct Tryz.underlying139 h
 match cs,hl with
 | [c0,c1,c2,c3,c4,c5,c6,c7,c8,c9],_ =>
   match s,d with
   | [y0,y1,y2,y3],_ =>
     have i:DataW.trod enc Tryz.prog w base spare held b 3 [c0]=some y0:=(by have:=a 0 _ rfl;simpa [Tryz.cells3] using this);have j:DataW.trod enc Tryz.prog w base spare held b 24 [c1,c2,c3,c4,c5,c6,c7]=some y1:=(by have:=a 1 _ rfl;simpa [Tryz.cells24] using this);have k:DataW.trod enc Tryz.prog w base spare held b 9 [c8]=some y2:=(by have:=a 2 _ rfl;simpa [Tryz.cells9] using this);have l:DataW.trod enc Tryz.prog w base spare held b 3 [c9]=some y3:=(by have:=a 3 _ rfl;simpa [Tryz.cells3] using this);obtain ⟨m,e,_⟩:=DataW.trod_int Tryz.underlying3 i;obtain ⟨r,c⟩:=zsl _ _ _ j rfl;obtain ⟨o,f,_⟩:=DataW.trod_string Tryz.underlying9 k;obtain ⟨q,g,_⟩:=DataW.trod_int Tryz.underlying3 l;unfold rgC at c;simp only [List.cons.injEq,and_true] at e c f g;obtain ⟨rfl,rfl,rfl,rfl,rfl,rfl,rfl⟩:=c
     subst e f g;exact ⟨⟨m,r,o,q⟩,rfl⟩
end
section
variable {H:Type} {enc:TypeId×Value->H} {w:World} {base:Nat} {spare:Nat->Bool} {held:Bool}
theorem Tryz.cells25:Tryz.prog.cellsOf 25=1:=by kernel_rfl
theorem Tryz.cells27:Tryz.prog.cellsOf 27=12:=by kernel_rfl
theorem zun (n:Nat) (cs:List Value) (x:DataW H×List MemPlace) (h:DataW.trod enc Tryz.prog w base spare held n 9 cs=some x) (_:cs.length=1):∃ y,cs=strC y:=by
 obtain ⟨s,e,_⟩:=DataW.trod_string Tryz.underlying9 h;exact ⟨s,e⟩
theorem zup (n:Nat) (cs:List Value) (x:DataW H×List MemPlace) (h:DataW.trod enc Tryz.prog w base spare held n 27 cs=some x) (hl:cs.length=12) :
 ∃ q:Cal×List Opr×List ByteArray,cs=calC q/\SlR w 10 opC q.1.ops q.2.1/\SlR w 1 strC q.1.keys q.2.2:=by
 obtain ⟨D,b,_,_,_,d,a⟩:=DataW.trod_struct Tryz.underlying27 h
 match cs,hl with
 | [c0,c1,c2,c3,c4,c5,c6,c7,c8,c9,c10,c11],_ =>
   match D,d with
   | [y0,y1,y2,y3,y4,y5],_ =>
     have m:DataW.trod enc Tryz.prog w base spare held b 3 [c0]=some y0:=(by have:=a 0 _ rfl;simpa [Tryz.cells3,Value.cells] using this);have o:DataW.trod enc Tryz.prog w base spare held b 22 [c1]=some y1:=(by have:=a 1 _ rfl;simpa [Tryz.cells22,Value.cells] using this);have s:DataW.trod enc Tryz.prog w base spare held b 24 [c2,c3,c4,c5,c6,c7,c8]=some y2:=(by have:=a 2 _ rfl;simpa [Tryz.cells24,Value.cells] using this);have t:DataW.trod enc Tryz.prog w base spare held b 3 [c9]=some y3:=(by have:=a 3 _ rfl;simpa [Tryz.cells3,Value.cells] using this);have u:DataW.trod enc Tryz.prog w base spare held b 3 [c10]=some y4:=(by have:=a 4 _ rfl;simpa [Tryz.cells3,Value.cells] using this)
     have v:DataW.trod enc Tryz.prog w base spare held b 25 [c11]=some y5:=(by have:=a 5 _ rfl;simpa [Tryz.cells25,Value.cells] using this);obtain ⟨A,e,_⟩:=DataW.trod_int Tryz.underlying3 m;obtain ⟨E,k,f,y,_⟩:=zlr opC Tryz.underlying22 Tryz.cells139 (by omega) zaf (fun n cs x=>zwh n cs x) o;obtain ⟨r,c⟩:=zsl _ _ _ s rfl;obtain ⟨B,g,_⟩:=DataW.trod_int Tryz.underlying3 t;obtain ⟨C,i,_⟩:=DataW.trod_int Tryz.underlying3 u;obtain ⟨F,l,j,z,_⟩:=zlr strC Tryz.underlying25 Tryz.cells9 (by omega) zdr (fun n cs x=>zun n cs x) v;unfold rgC at c;simp only [List.cons.injEq,and_true] at e f c g i j;obtain ⟨rfl,rfl,rfl,rfl,rfl,rfl,rfl⟩:=c;subst e f g i j;exact ⟨(⟨A,_,r,B,C,_⟩,k,l),rfl,y,z⟩
end
section
variable {H:Type} {enc:TypeId×Value->H} {w:World} {base:Nat} {spare:Nat->Bool} {held:Bool}
theorem Tryz.cells29:Tryz.prog.cellsOf 29=6:=by kernel_rfl
theorem Tryz.cells31:Tryz.prog.cellsOf 31=20:=by kernel_rfl
theorem zsk (n:Nat) (cs:List Value) (x:DataW H×List MemPlace) (h:DataW.trod enc Tryz.prog w base spare held n 29 cs=some x) (hl:cs.length=6):∃ t:Wt,cs=wtC t/\(Lit.int .i64 t.frm).wf=true:=by
 obtain ⟨C,b,_,_,_,c,a⟩:=DataW.trod_struct Tryz.underlying29 h
 match cs,hl with
 | [c0,c1,c2,c3,c4,c5],_ =>
   match C,c with
   | [y0,y1,y2,y3,y4,y5],_ =>
     have k:DataW.trod enc Tryz.prog w base spare held b 9 [c0]=some y0:=(by have:=a 0 _ rfl;simpa [Tryz.cells9] using this);have l:DataW.trod enc Tryz.prog w base spare held b 9 [c1]=some y1:=(by have:=a 1 _ rfl;simpa [Tryz.cells9] using this);have m:DataW.trod enc Tryz.prog w base spare held b 3 [c2]=some y2:=(by have:=a 2 _ rfl;simpa [Tryz.cells9,Tryz.cells3] using this);have o:DataW.trod enc Tryz.prog w base spare held b 4 [c3]=some y3:=(by have:=a 3 _ rfl;simpa [Tryz.cells9,Tryz.cells3,Tryz.cells4] using this);have q:DataW.trod enc Tryz.prog w base spare held b 4 [c4]=some y4:=(by have:=a 4 _ rfl;simpa [Tryz.cells9,Tryz.cells3,Tryz.cells4] using this);have r:DataW.trod enc Tryz.prog w base spare held b 4 [c5]=some y5:=(by have:=a 5 _ rfl;simpa [Tryz.cells9,Tryz.cells3,Tryz.cells4] using this)
     obtain ⟨s,d,_⟩:=DataW.trod_string Tryz.underlying9 k;obtain ⟨u,e,_⟩:=DataW.trod_string Tryz.underlying9 l;obtain ⟨v,f,_,B⟩:=DataW.trod_int Tryz.underlying3 m;obtain ⟨y,g,_⟩:=DataW.trod_bool Tryz.underlying4 o;obtain ⟨z,i,_⟩:=DataW.trod_bool Tryz.underlying4 q;obtain ⟨A,j,_⟩:=DataW.trod_bool Tryz.underlying4 r;simp only [List.cons.injEq,and_true] at d e f g i j;subst d e f g i j;exact ⟨⟨s,u,v,y,z,A⟩,rfl,B⟩
theorem zuq (n:Nat) (cs:List Value) (x:DataW H×List MemPlace) (h:DataW.trod enc Tryz.prog w base spare held n 31 cs=some x) (hl:cs.length=20) :
 ∃ q:ActQ,cs=actC q/\SlR w 10 opC q.call.1.ops q.call.2.1/\SlR w 1 strC q.call.1.keys q.call.2.2/\(Lit.int .i64 q.w.frm).wf=true/\(Lit.int .i64 q.id).wf=true:=by
 obtain ⟨y,b,_,_,_,c,a⟩:=DataW.trod_struct Tryz.underlying31 h
 match cs,hl with
 | [c0,c1,c2,c3,c4,c5,c6,c7,c8,c9,c10,c11,c12,c13,c14,c15,c16,c17,c18,c19],_ =>
   match y,c with
   | [y0,y1,y2,y3],_ =>
     have i:DataW.trod enc Tryz.prog w base spare held b 3 [c0]=some y0:=(by have:=a 0 _ rfl;simpa [Tryz.cells3] using this);have j:DataW.trod enc Tryz.prog w base spare held b 27 [c1,c2,c3,c4,c5,c6,c7,c8,c9,c10,c11,c12]=some y1:=(by have:=a 1 _ rfl;simpa [Tryz.cells3,Tryz.cells27] using this);have k:DataW.trod enc Tryz.prog w base spare held b 29 [c13,c14,c15,c16,c17,c18]=some y2:=(by have:=a 2 _ rfl;simpa [Tryz.cells3,Tryz.cells27,Tryz.cells29] using this);have l:DataW.trod enc Tryz.prog w base spare held b 3 [c19]=some y3:=(by have:=a 3 _ rfl;simpa [Tryz.cells3,Tryz.cells27,Tryz.cells29] using this);obtain ⟨r,d,_⟩:=DataW.trod_int Tryz.underlying3 i;obtain ⟨q,f,m,o⟩:=zup _ _ _ j rfl;obtain ⟨t,g,u⟩:=zsk _ _ _ k rfl;obtain ⟨s,e,_,v⟩:=DataW.trod_int Tryz.underlying3 l
     refine ⟨⟨r,q,t,s⟩,?_,m,o,u,v⟩;unfold actC;dsimp only;rw [<-f,<-g];simp only [List.cons.injEq,and_true] at d e;rw [d,e]
     rfl
theorem zum {b0:Nat} {v:Value} {d:DataW H} {p:List MemPlace} (hv:Value.okWide Tryz.prog w .any b0 29 v) (h:DataW.Trod enc Tryz.prog w base spare held 29 v d p):∃ t:Wt,v=wtV t/\(Lit.int .i64 t.frm).wf=true:=by
 obtain ⟨cs,rfl,a⟩:=okWide_struct Tryz.underlying29 hv;obtain ⟨l⟩:=cs;obtain ⟨fuel,e⟩:=h;obtain ⟨t,b,c⟩:=zsk _ _ _ e (by have:=a.trans Tryz.cells29;simpa [Value.cells] using this);refine ⟨t,?_,c⟩;simp only [Value.cells] at b;rw [b]
 rfl
theorem zsn {b0:Nat} {v:Value} {d:DataW H} {p:List MemPlace} (hv:Value.okWide Tryz.prog w .any b0 33 v) (h:DataW.Trod enc Tryz.prog w base spare held 33 v d p):∃ l,ActR w v l:=by
 obtain ⟨a,len,cap,rfl⟩:=okWide_slice Tryz.underlying33 hv;obtain ⟨fuel,E⟩:=h;simp only [Value.cells] at E;rcases open_slice Tryz.underlying33 E with ⟨k,_⟩ | ⟨a,c,f,m,n,D,P,k,Q,R,N,A,S,J⟩
 · simp only [List.cons.injEq,and_true] at k
   rw [k];exact ⟨[],⟨SlR.nil _ _ _,by simp,by simp,by simp,by simp⟩⟩
 simp only [List.cons.injEq,and_true] at k
 rw [k];have M:c<=m:=(by rw [A];split <;> omega)
 obtain ⟨L,s,b⟩:=zng (fun i (y:ActQ)=>(∀ j,j<20->w.cell? ((a.add (i * 20)).add j)=(actC y)[j]?)/\SlR w 10 opC y.call.1.ops y.call.2.1/\SlR w 1 strC y.call.1.keys y.call.2.2/\(Lit.int .i64 y.w.frm).wf=true/\(Lit.int .i64 y.id).wf=true) c fun i him=>by
  obtain ⟨G,C,O⟩:=J i (by omega);rw [Tryz.cells31] at C;obtain ⟨_,x,t⟩:=World.cells?_some C;obtain ⟨y,rfl,e⟩:=zuq _ _ _ O x;exact ⟨y,t,e⟩
 refine ⟨L,⟨⟨some a,f,by rw [s],by omega,N,fun hp=>?_⟩,fun i q hq=>(b i q hq).2.1,fun i q hq=>(b i q hq).2.2.1,fun i q hq=>(b i q hq).2.2.2.1,fun i q hq=>(b i q hq).2.2.2.2⟩⟩;obtain ⟨g,o,F⟩:=a
 have I:F=none:=by
  obtain ⟨r,B⟩:∃ r,L[0]?=some r:=⟨_,List.getElem?_eq_getElem hp⟩;have:=(b 0 r B).1 0 (by decide);have z:0<(actC r).length:=(by rw [zaq];decide);rw [Nat.zero_mul] at this;simp only [Addr.add,if_true] at this;rw [List.getElem?_eq_getElem z] at this;unfold World.cell? at this
  cases F with
  | none=>rfl
  | some q =>
    simp only [Option.isSome_some,if_true] at this
    split at this <;> simp at this
 subst I;refine ⟨g,o,rfl,fun i y hy j u hu'=>?_⟩
 have K:j<20:=by
  have:=(List.getElem?_eq_some_iff.1 hu').1
  rwa [zaq] at this
 have:=(b i y hy).1 j K;rw [hu'] at this;rw [<-this]
 congr 1
 unfold Addr.add;by_cases e:i * 20=0
 · by_cases h2:j=0
   · simp [e,h2]
   simp [e,h2]
 by_cases h2:j=0
 · simp [e,h2]
 simp [e,h2]
theorem zuo {v:Value} {d:DataW H} {p:List MemPlace} {b0:Nat} (hv:Value.okWide Tryz.prog w .any b0 3 v) (h:DataW.Trod enc Tryz.prog w base spare held 3 v d p):∃ n:Int,v=.int .i64 n/\(Lit.int .i64 n).wf=true:=by
 obtain ⟨k,rfl⟩:=okWide_int Tryz.underlying3 hv;obtain ⟨fuel,b⟩:=h;obtain ⟨n,e,_,a⟩:=DataW.trod_int Tryz.underlying3 b;simp only [Value.cells,List.cons.injEq,Value.int.injEq,and_true] at e;exact ⟨k,rfl,by rw [e.2];exact a⟩
end
end Go.Proofs.YtdgkdfmfoonbpaaGreat