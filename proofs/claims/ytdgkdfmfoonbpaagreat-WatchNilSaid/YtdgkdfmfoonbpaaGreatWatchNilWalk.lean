/- The statement's function WatchNil, walked: it returns true. No condition. -/
import Derived.Test.YtdgkdfmfoonbpaaGreatW30
import Derived.Test.YtdgkdfmfoonbpaaGreatW31
import Derived.Great.BuildSlice
import Derived.Deep.DeepCutAuto
namespace Go.Proofs.YtdgkdfmfoonbpaaGreat
open Go Go.Proofs Go.RowKit
set_option maxRecDepth 100000
theorem zvn {w:World} {q:ActQ} (h1:SlR w 10 opC q.call.1.ops q.call.2.1) (h2:SlR w 1 strC q.call.1.keys q.call.2.2) (h3:(Lit.int .i64 q.w.frm).wf=true) (h4:(Lit.int .i64 q.id).wf=true) {b:Nat} {t:TypeId} (hb:w.heap[b]?=some (.cells (actC q).toArray t (0,0))):ActR w (.slice (some ⟨b,0,none⟩) 1 1) [q]:=by
 have key:∀ (i:Nat) (x:ActQ),[q][i]?=some x->i=0/\q=x:=fun i x hx=>by
  have a:i=0:=(by have:=(List.getElem?_eq_some_iff.1 hx).1;simp at this;omega);subst a;exact ⟨rfl,by simpa using hx⟩
 refine ⟨⟨_,1,rfl,by simp,by decide,fun _=>⟨b,0,rfl,fun i x hx j u hu=>?_⟩⟩,fun i x hx=>?_,fun i x hx=>?_,fun i x hx=>?_,fun i x hx=>?_⟩
 · obtain ⟨rfl,rfl⟩:=key i x hx
   unfold World.cell?;simp only [hb,Nat.zero_mul,Nat.zero_add,Option.isSome_none,Bool.false_eq_true,if_false];simpa using hu
 · obtain ⟨rfl,rfl⟩:=key i x hx;exact h1
 · obtain ⟨rfl,rfl⟩:=key i x hx;exact h2
 · obtain ⟨rfl,rfl⟩:=key i x hx;exact h3
 obtain ⟨rfl,rfl⟩:=key i x hx;exact h4
theorem zte (q:ActQ) (z:Value) (hz:z=.agg #[.int .i64 0,.int .i64 0,.slice none 0 0,.string ByteArray.empty,.string ByteArray.empty,.int .i64 0,.int .i64 0,.bool false,.bool false,.bool false,.int .i64 0,.int .i64 0,.slice none 0 0,.string ByteArray.empty,.string ByteArray.empty,.int .i64 0,.bool false,.bool false,.bool false,.int .i64 0]) :
 Instr.fill (fun i=>some (i * 20,20)) ((Array.range (1 * 20)).map (z.cells[· % z.cells.size]!)) [(0,Value.agg (actC q).toArray)]=some (actC q).toArray:=by
 subst hz;obtain ⟨l,⟨⟨m,n,⟨c,d,e,f,g,j,k⟩,o,r,s⟩,b,a⟩,⟨t,u,v,w,x,y⟩,i⟩:=q
 kernel_rfl
theorem info31z:(Tryz.prog.info? 31).map (fun i=>(i.zero,i.size))=some (some (.agg #[.int .i64 0,.int .i64 0,.slice none 0 0,.string ByteArray.empty,.string ByteArray.empty,.int .i64 0,.int .i64 0,.bool false,.bool false,.bool false,.int .i64 0,.int .i64 0,.slice none 0 0,.string ByteArray.empty,.string ByteArray.empty,.int .i64 0,.bool false,.bool false,.bool false,.int .i64 0]),20):=by kernel_rfl
theorem zhb {ops:Array Oper} {rest:List Oper} {o:Oper} {a:Act} {w:World} {Q:Exit->Act->World->Prop} (hg:o.guard=none) (x:Operand) (ho:o.op=.buildSlice 33 1 #[(0,x)]) (q:ActQ) (hx:a.eval x=.agg (actC q).toArray)
 (h:wpList Tryz.prog ops Q rest (a.put o.dst (.slice (some ⟨w.heap.size,0,none⟩) 1 1)) (w.alloc (.cells (actC q).toArray 31))):wpList Tryz.prog ops Q (o :: rest) a w:=by
 cases hie:Tryz.prog.info? 31 with
 | none=>have:=info31z;rw [hie] at this;cases this
 | some ie =>
   have b:=info31z;rw [hie] at b;simp only [Option.map_some,Option.some.injEq,Prod.mk.injEq] at b;obtain ⟨d,c⟩:=b;refine wpList_buildSlice hg 33 31 1 #[(0,x)] ho _ ie _ Tryz.underlying33 hie d (by rw [c];decide) (by rw [c];decide) ?_ h;rw [c];have e:(#[((0:Nat),x)].map fun (i,x)=>(i,a.eval x)).toList = [(0,Value.agg (actC q).toArray)]:=(by simp [hx]);rw [e];exact zte q _ rfl
set_option maxHeartbeats 8000000 in
theorem zjk {TA:zan} (hT:TreeOk TA 1000000) (w:World) (a:ActQ) (h1:SlR w 10 opC a.call.1.ops a.call.2.1) (h2:SlR w 1 strC a.call.1.keys a.call.2.2) (h3:(Lit.int .i64 a.w.frm).wf=true) (h4:(Lit.int .i64 a.id).wf=true) :
 Calls Tryz.prog 3 #[.agg (actC a).toArray] w fun e w'=>e=.returned (.bool true)/\Fr No w w':=by
 have g:=H_ (fun W (b:Nat) (hb:W.heap[b]?=some (.cells (actC a).toArray 31 (0,0))) (hW:Fr No w W)=>zdt W _ [a] (zvn (h1.fr0 hW) (h2.fr0 hW) h3 h4 (b:=b) hb));have u:Hid (∀ W,Calls Tryz.prog 12 #[.pointer none,.agg (wtC a.w).toArray] W fun e w'=>e=.returned (.tuple #[.int .i64 0,.int .i64 2])/\Fr No W w'):=H_ fun W=>zkm W a.w;have j:=H_ fun W=>zea hT W;clear h1 h2 h3 h4;generalize zcx [a]=E at *;have d:=H_ (zad w (.cells (actC a).toArray 31) _ rfl);have i:Hid (Fr No w (w.alloc (.cells (actC a).toArray 31))):=H_ ((Fr.refl No w).alloc _);go_enter Tryz.func3,Tryz.ntmps3;go_upto_region 1 with fail;generalize w.alloc (.cells (actC a).toArray 31)=C at *;have lb:=zaf d.out
 go_cut [13] (fun s13 wx=>s13=.bool (!E)/\Hid (Fr No C wx))
 case first =>
  go_wp2_with (first
   | (with_reducible show wpList _ _ _ ({ dst:=some 10,op:=_,type:=_,pos:=_,after:=_,guard:=_ } :: _) _ _
      refine zau rfl 31 _ rfl w.heap.size 0 rfl (actC a) (ActAt.of d.out).all row31 (info31l a) ?_)
   | (with_reducible show wpList _ _ _ ({ dst:=some 11,op:=_,type:=_,pos:=_,after:=_,guard:=_ } :: _) _ _
      refine zhb rfl _ rfl a rfl ?_)
   | (go_at_call 9;(with_reducible refine (g.out _ _ (zad _ _ _ rfl) (i.out.alloc _)).mono ?_);rintro e w1 ⟨rfl,x⟩))
  go_meet
  case rel=>exact ⟨rfl,H_ (((Fr.refl No C).alloc _).trans0 x)⟩
 case rest =>
 obtain ⟨rfl,n⟩:=hcut;have q:=H_ (n.out.heap d.out fun h=>h);have k:=H_ (i.out.trans0 n.out);have B:=H_ (ActAt.of q.out);have z:w.heap.size<wc.heap.size:=Nat.lt_of_lt_of_le lb n.out.size;clear n d i g lb;generalize wc=G at *
 cases E with
 | false =>
   go_wp2_with (go_at_call 10;refine (j.out _).mono ?_;rintro e o ⟨rfl,c⟩);go_ret;exact ⟨rfl,k.out.trans0 c⟩
 | true =>
   have m:=B.out.id
   go_wp2_with (first
    | (with_reducible show wpList _ _ _ ({ dst:=some 22,op:=_,type:=_,pos:=_,after:=_,guard:=_ } :: _) _ _
       refine zau rfl 29 _ rfl w.heap.size 13 rfl (wtC a.w) B.out.w row29 (info29l a.w) ?_)
    | (go_at_call 11;refine (zml _).mono ?_;rintro e o ⟨rfl,rfl⟩)
    | (go_at_call 12;(with_reducible refine (u.out _).mono ?_);rintro e o ⟨rfl,c⟩
       have v:o.cell? ⟨w.heap.size,19,none⟩=some (.int .i64 a.id):=c.cell0 m;have A:w.heap.size<o.heap.size:=Nat.lt_of_lt_of_le z c.size;have r:=H_ (k.out.trans0 c);clear c)
    | (go_at_call 13;refine (zkp _).mono ?_;rintro e H ⟨rfl,rfl⟩)
    | (go_at_call 14;refine (zkl _ _).mono ?_;unfold batV;rintro e w5 ⟨rfl,f⟩
       have D:w5.cell? ⟨w.heap.size,19,none⟩=some (.int .i64 a.id):=f.cell0 v;have F:w.heap.size<w5.heap.size:=Nat.lt_of_lt_of_le A f.size;have s:=H_ (r.out.trans0 f);clear f)
    | (go_at_call 15;refine (ziy _ _).mono ?_;rintro e I ⟨rfl,rfl⟩)
    | (go_at_call 16;refine (zmn _).mono ?_;rintro e J ⟨rfl,rfl⟩)
    | (go_at_call 17;refine (zil _).mono ?_;rintro e K ⟨rfl,l⟩;have t:=H_ l;clear l)
    | (go_at_call 10;refine (j.out _).mono ?_;rintro e L ⟨rfl,y⟩))
   go_ret;exact ⟨rfl,((s.out.alloc _).trans0 t.out).trans0 y⟩
end Go.Proofs.YtdgkdfmfoonbpaaGreat
