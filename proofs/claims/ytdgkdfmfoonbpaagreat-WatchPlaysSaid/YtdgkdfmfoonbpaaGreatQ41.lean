/- Own lemmas. -/
import Derived.Test.YtdgkdfmfoonbpaaGreatQ40
namespace Go.Proofs.YtdgkdfmfoonbpaaGreat
open Go Go.Proofs Go.ChangeShapes Go.WideShapes Go.ChangeAt Go.RowKit Go.Deep
set_option maxRecDepth 100000
section
variable {H:Type} {enc:TypeId×Value->H} {w:World} {base:Nat} {spare:Nat->Bool} {held:Bool}
theorem Tryz.cells25:Tryz.prog.cellsOf 25=1:=by kernel_rfl
theorem Tryz.cells27:Tryz.prog.cellsOf 27=12:=by kernel_rfl
theorem zyg (n:Nat) (cs:List Value) (x:DataW H×List MemPlace) (h:DataW.trod enc Tryz.prog w base spare held n 9 cs=some x) (_:cs.length=1):∃ y,cs=strC y:=by
 obtain ⟨s,e,_⟩:=DataW.trod_string Tryz.underlying9 h;exact ⟨s,e⟩
theorem zyh (n:Nat) (cs:List Value) (x:DataW H×List MemPlace) (h:DataW.trod enc Tryz.prog w base spare held n 27 cs=some x) (hl:cs.length=12) :
 ∃ q:Cal×List Opr×List ByteArray,cs=calC q/\SlR w 10 opC q.1.ops q.2.1/\SlR w 1 strC q.1.keys q.2.2:=by
 obtain ⟨D,b,_,_,_,d,a⟩:=DataW.trod_struct Tryz.underlying27 h
 match cs,hl with
 | [c0,c1,c2,c3,c4,c5,c6,c7,c8,c9,c10,c11],_ =>
   match D,d with
   | [y0,y1,y2,y3,y4,y5],_ =>
     have m:DataW.trod enc Tryz.prog w base spare held b 3 [c0]=some y0:=(by have:=a 0 _ rfl;simpa [Tryz.cells3,Value.cells] using this);have o:DataW.trod enc Tryz.prog w base spare held b 22 [c1]=some y1:=(by have:=a 1 _ rfl;simpa [Tryz.cells22,Value.cells] using this);have s:DataW.trod enc Tryz.prog w base spare held b 24 [c2,c3,c4,c5,c6,c7,c8]=some y2:=(by have:=a 2 _ rfl;simpa [Tryz.cells24,Value.cells] using this);have t:DataW.trod enc Tryz.prog w base spare held b 3 [c9]=some y3:=(by have:=a 3 _ rfl;simpa [Tryz.cells3,Value.cells] using this);have u:DataW.trod enc Tryz.prog w base spare held b 3 [c10]=some y4:=(by have:=a 4 _ rfl;simpa [Tryz.cells3,Value.cells] using this)
     have v:DataW.trod enc Tryz.prog w base spare held b 25 [c11]=some y5:=(by have:=a 5 _ rfl;simpa [Tryz.cells25,Value.cells] using this);obtain ⟨A,e,_⟩:=DataW.trod_int Tryz.underlying3 m;obtain ⟨E,k,f,y,_⟩:=zmy opC Tryz.underlying22 Tryz.cells139 (by omega) zaf (fun n cs x=>zzah n cs x) o;obtain ⟨r,c⟩:=zvv _ _ _ s rfl;obtain ⟨B,g,_⟩:=DataW.trod_int Tryz.underlying3 t;obtain ⟨C,i,_⟩:=DataW.trod_int Tryz.underlying3 u;obtain ⟨F,l,j,z,_⟩:=zmy strC Tryz.underlying25 Tryz.cells9 (by omega) zef (fun n cs x=>zyg n cs x) v;unfold rgC at c;simp only [List.cons.injEq,and_true] at e f c g i j;obtain ⟨rfl,rfl,rfl,rfl,rfl,rfl,rfl⟩:=c;subst e f g i j;exact ⟨(⟨A,_,r,B,C,_⟩,k,l),rfl,y,z⟩
end
section
variable {H:Type} {enc:TypeId×Value->H} {w:World} {base:Nat} {spare:Nat->Bool} {held:Bool}
theorem Tryz.cells29:Tryz.prog.cellsOf 29=6:=by kernel_rfl
theorem Tryz.cells31:Tryz.prog.cellsOf 31=20:=by kernel_rfl
theorem zzag (n:Nat) (cs:List Value) (x:DataW H×List MemPlace) (h:DataW.trod enc Tryz.prog w base spare held n 29 cs=some x) (hl:cs.length=6):∃ t:Wt,cs=wtC t/\(Lit.int .i64 t.frm).wf=true:=by
 obtain ⟨C,b,_,_,_,c,a⟩:=DataW.trod_struct Tryz.underlying29 h
 match cs,hl with
 | [c0,c1,c2,c3,c4,c5],_ =>
   match C,c with
   | [y0,y1,y2,y3,y4,y5],_ =>
     have k:DataW.trod enc Tryz.prog w base spare held b 9 [c0]=some y0:=(by have:=a 0 _ rfl;simpa [Tryz.cells9] using this);have l:DataW.trod enc Tryz.prog w base spare held b 9 [c1]=some y1:=(by have:=a 1 _ rfl;simpa [Tryz.cells9] using this);have m:DataW.trod enc Tryz.prog w base spare held b 3 [c2]=some y2:=(by have:=a 2 _ rfl;simpa [Tryz.cells9,Tryz.cells3] using this);have o:DataW.trod enc Tryz.prog w base spare held b 4 [c3]=some y3:=(by have:=a 3 _ rfl;simpa [Tryz.cells9,Tryz.cells3,Tryz.cells4] using this);have q:DataW.trod enc Tryz.prog w base spare held b 4 [c4]=some y4:=(by have:=a 4 _ rfl;simpa [Tryz.cells9,Tryz.cells3,Tryz.cells4] using this);have r:DataW.trod enc Tryz.prog w base spare held b 4 [c5]=some y5:=(by have:=a 5 _ rfl;simpa [Tryz.cells9,Tryz.cells3,Tryz.cells4] using this)
     obtain ⟨s,d,_⟩:=DataW.trod_string Tryz.underlying9 k;obtain ⟨u,e,_⟩:=DataW.trod_string Tryz.underlying9 l;obtain ⟨v,f,_,B⟩:=DataW.trod_int Tryz.underlying3 m;obtain ⟨y,g,_⟩:=DataW.trod_bool Tryz.underlying4 o;obtain ⟨z,i,_⟩:=DataW.trod_bool Tryz.underlying4 q;obtain ⟨A,j,_⟩:=DataW.trod_bool Tryz.underlying4 r;simp only [List.cons.injEq,and_true] at d e f g i j;subst d e f g i j;exact ⟨⟨s,u,v,y,z,A⟩,rfl,B⟩
theorem zyi (n:Nat) (cs:List Value) (x:DataW H×List MemPlace) (h:DataW.trod enc Tryz.prog w base spare held n 31 cs=some x) (hl:cs.length=20) :
 ∃ q:ActQ,cs=actC q/\SlR w 10 opC q.call.1.ops q.call.2.1/\SlR w 1 strC q.call.1.keys q.call.2.2/\(Lit.int .i64 q.w.frm).wf=true/\(Lit.int .i64 q.id).wf=true:=by
 obtain ⟨y,b,_,_,_,c,a⟩:=DataW.trod_struct Tryz.underlying31 h
 match cs,hl with
 | [c0,c1,c2,c3,c4,c5,c6,c7,c8,c9,c10,c11,c12,c13,c14,c15,c16,c17,c18,c19],_ =>
   match y,c with
   | [y0,y1,y2,y3],_ =>
     have i:DataW.trod enc Tryz.prog w base spare held b 3 [c0]=some y0:=(by have:=a 0 _ rfl;simpa [Tryz.cells3] using this);have j:DataW.trod enc Tryz.prog w base spare held b 27 [c1,c2,c3,c4,c5,c6,c7,c8,c9,c10,c11,c12]=some y1:=(by have:=a 1 _ rfl;simpa [Tryz.cells3,Tryz.cells27] using this);have k:DataW.trod enc Tryz.prog w base spare held b 29 [c13,c14,c15,c16,c17,c18]=some y2:=(by have:=a 2 _ rfl;simpa [Tryz.cells3,Tryz.cells27,Tryz.cells29] using this);have l:DataW.trod enc Tryz.prog w base spare held b 3 [c19]=some y3:=(by have:=a 3 _ rfl;simpa [Tryz.cells3,Tryz.cells27,Tryz.cells29] using this);obtain ⟨r,d,_⟩:=DataW.trod_int Tryz.underlying3 i;obtain ⟨q,f,m,o⟩:=zyh _ _ _ j rfl;obtain ⟨t,g,u⟩:=zzag _ _ _ k rfl;obtain ⟨s,e,_,v⟩:=DataW.trod_int Tryz.underlying3 l
     refine ⟨⟨r,q,t,s⟩,?_,m,o,u,v⟩;unfold actC;dsimp only;rw [<-f,<-g];simp only [List.cons.injEq,and_true] at d e;rw [d,e]
     rfl
theorem zvx {b0:Nat} {v:Value} {d:DataW H} {p:List MemPlace} (hv:Value.okWide Tryz.prog w .any b0 33 v) (h:DataW.Trod enc Tryz.prog w base spare held 33 v d p):∃ l,ActR w v l:=by
 obtain ⟨a,len,cap,rfl⟩:=okWide_slice Tryz.underlying33 hv;obtain ⟨fuel,E⟩:=h;simp only [Value.cells] at E;rcases open_slice Tryz.underlying33 E with ⟨k,_⟩ | ⟨a,c,f,m,n,D,Pl,k,P,Q,N,A,R,J⟩
 · simp only [List.cons.injEq,and_true] at k
   rw [k];exact ⟨[],⟨SlR.nil _ _ _,by simp,by simp,by simp,by simp⟩⟩
 simp only [List.cons.injEq,and_true] at k
 rw [k];have M:c<=m:=(by rw [A];split <;> omega)
 obtain ⟨L,s,b⟩:=zpd (fun i (y:ActQ)=>(∀ j,j<20->w.cell? ((a.add (i * 20)).add j)=(actC y)[j]?)/\SlR w 10 opC y.call.1.ops y.call.2.1/\SlR w 1 strC y.call.1.keys y.call.2.2/\(Lit.int .i64 y.w.frm).wf=true/\(Lit.int .i64 y.id).wf=true) c fun i him=>by
  obtain ⟨G,C,O⟩:=J i (by omega);rw [Tryz.cells31] at C;obtain ⟨_,x,t⟩:=World.cells?_some C;obtain ⟨y,rfl,e⟩:=zyi _ _ _ O x;exact ⟨y,t,e⟩
 refine ⟨L,⟨⟨some a,f,by rw [s],by omega,N,fun hp=>?_⟩,fun i q hq=>(b i q hq).2.1,fun i q hq=>(b i q hq).2.2.1,fun i q hq=>(b i q hq).2.2.2.1,fun i q hq=>(b i q hq).2.2.2.2⟩⟩;obtain ⟨g,o,F⟩:=a
 have I:F=none:=by
  obtain ⟨r,B⟩:∃ r,L[0]?=some r:=⟨_,gG_ hp⟩;have:=(b 0 r B).1 0 (by decide);have z:0<(actC r).length:=(by rw [zat];decide);rw [Nat.zero_mul] at this;simp only [Addr.add,if_true] at this;rw [gG_ z] at this;unfold World.cell? at this
  cases F with
  | none=>rfl
  | some q =>
    simp only [Option.isSome_some,if_true] at this
    split at this <;> simp at this
 subst I;refine ⟨g,o,rfl,fun i y hy j u hu'=>?_⟩
 have K:j<20:=by
  have:=(gS_ hu').1
  rwa [zat] at this
 have:=(b i y hy).1 j K;rw [hu'] at this;rw [<-this]
 congr 1
 unfold Addr.add;by_cases e:i * 20=0
 · by_cases h2:j=0
   · simp [e,h2]
   simp [e,h2]
 by_cases h2:j=0
 · simp [e,h2]
 simp [e,h2]
end
end Go.Proofs.YtdgkdfmfoonbpaaGreat