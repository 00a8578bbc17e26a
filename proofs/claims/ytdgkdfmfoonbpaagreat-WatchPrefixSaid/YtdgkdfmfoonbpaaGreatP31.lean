/- Own lemmas. -/
import Derived.Test.YtdgkdfmfoonbpaaGreatP27
import Derived.Test.YtdgkdfmfoonbpaaGreatP30
import Derived.Test.YtdgkdfmfoonbpaaGreatP14
import Derived.Test.YtdgkdfmfoonbpaaGreatP16
import Derived.Test.YtdgkdfmfoonbpaaGreatP26
import Derived.Test.YtdgkdfmfoonbpaaGreatP28
import Derived.Great.BuildSlice
import Derived.Lib.RuneCountTail
import Derived.Laws.Runes
import Derived.PlainAid
import Derived.Deep.DeepCutAuto
namespace Go.Proofs.YtdgkdfmfoonbpaaGreat
open Go Go.Proofs Go.RowKit
set_option maxRecDepth 100000
theorem zwp (x:Ev) (z:Value) (hz:z=.agg #[.int .i64 0,.string ByteArray.empty,.string ByteArray.empty,.int .i64 0,.int .i64 0,.int .i64 0,.int .i64 0,.string ByteArray.empty,.string ByteArray.empty,.int .i64 0,.int .i64 0,.int .i64 0,.int .i64 0]) :
 Instr.fill (fun i=>some (i * 13,13)) ((Array.range (1 * 13)).map (z.cells[· % z.cells.size]!)) [(0,Value.agg (evC x).toArray)]=some (evC x).toArray:=by
 subst hz;obtain ⟨a,⟨b,c,d,e,f,g⟩,⟨j,k,l,m,n,o⟩⟩:=x
 kernel_rfl
theorem zcy {ops:Array Oper} {rest:List Oper} {o:Oper} {a:Act} {w:World} {Q:Exit->Act->World->Prop} (hg:o.guard=none) (x:Operand) (ho:o.op=.buildSlice 41 1 #[(0,x)]) (q:Ev) (hx:a.eval x=.agg (evC q).toArray)
 (h:wpList Tryz.prog ops Q rest (a.put o.dst (.slice (some ⟨w.heap.size,0,none⟩) 1 1)) (w.alloc (.cells (evC q).toArray 72))):wpList Tryz.prog ops Q (o :: rest) a w:=by
 cases hie:Tryz.prog.info? 72 with
 | none=>have:=info72;rw [hie] at this;cases this
 | some ie =>
   have b:=info72;rw [hie] at b;simp only [Option.map_some,Option.some.injEq,Prod.mk.injEq] at b;obtain ⟨d,c,_⟩:=b;refine wpList_buildSlice hg 41 72 1 #[(0,x)] ho _ ie _ Tryz.underlying41 hie d (by rw [c];decide) (by rw [c];decide) ?_ h;rw [c];have e:(#[((0:Nat),x)].map fun (i,x)=>(i,a.eval x)).toList = [(0,Value.agg (evC q).toArray)]:=(by simp [hx]);rw [e];exact zwp q _ rfl
theorem info72l (x:Ev):(Tryz.prog.info? 72).map (·.size)=some (evC x).length:=by rw [zaa];kernel_rfl
theorem row72:(Tryz.prog.underlying 72).map TypeDesc.isRow=some true:=by kernel_rfl
theorem zfb (x:Ev):∀ u∈evC x,u.oneCell'=true:=by
 intro u a;simp [evC,kvC] at a;rcases a with h | h | h | h | h | h | h | h | h | h | h | h | h <;> (rw [h];rfl)
theorem zrn {rev:Int} {l:List Ev} {i:Nat} {x:Ev} (h:l[i]?=some x):upto rev (l.take (i+1))=if x.kv.mod<=rev then upto rev (l.take i)++[x] else upto rev (l.take i):=by
 unfold upto;rw [List.take_add_one,h,List.filter_append];by_cases hx:x.kv.mod<=rev <;> simp [hx]
theorem SlR.of_add {α:Type} {f:α->List Value} {w:World} {sz g o cap:Nat} {L:List α} (hf:∀ x,(f x).length=sz) (h:SlR w sz f (.slice (some ⟨g,o,none⟩) L.length cap) L) (i j:Nat) {x:α} (hx:L[i]?=some x) {u:Value} (hu:(f x)[j]?=some u):w.cell? ⟨g,o+i * sz+j,none⟩=some u :=
 h.rangeAt hf i hx j u hu
set_option maxHeartbeats 4000000 in
theorem zpp (w:World) (v:Value) (l:List Ev) (rev:Int) (hv:SlR w 13 evC v l) (hl:l.length<=400000000) :
 Calls Tryz.prog 25 #[v,.int .i64 rev] w fun e w'=>∃ v',e=.returned v'/\SlF w' 72 13 evC v' (upto rev l)/\Fr No w w'/\(∀ b,v'.ownBlock=some b->w.heap.size<=b):=by
 obtain ⟨a,cap,rfl,Q,J,D⟩:=hv.shape;obtain ⟨N,s,y,z,A⟩:=info_parts info72;have G:=H_ hv;have F:=H_ D;unfold maxLen at J;clear hv D;go_enter Tryz.func25,Tryz.ntmps25;go_wp2_with fail
 go_loopg [5,6] l.length (fun g s5 s6 wr=>∃ (i:Nat) (O:List Ev),s6=.int .i64 i/\i+g=l.length/\Hid (O=upto rev (l.take i))/\Hid (SlF wr 72 13 evC s5 O)/\Hid (Fr No w wr)/\Hid (∀ b,s5.ownBlock=some b->w.heap.size<=b))
 case atStart=>exact ⟨0,[],rfl,by omega,H_ (by simp [upto]),H_ (SlF.nil _ _ _ _),H_ (Fr.refl _ _),H_ (by simp [Value.ownBlock])⟩
 case round =>
  obtain ⟨i,O,rfl,R,j,o,m,n⟩:=hrel
  cases gk with
  | zero =>
    have t:¬ (i:Int)<(l.length:Int):=(by omega);have u:l.take i=l:=List.take_of_length_le (by omega);rw [u] at j;go_wp2;go_ret;exact ⟨_,rfl,by rw [<-j.out];exact o.out,m.out,n.out⟩
  | succ g =>
    have t:(i:Int)<(l.length:Int):=(by omega);have M:IntKind.i64.wrap ((i:Int)+1)=i+1:=(by rw [IntKind.wrap_i64];omega);obtain ⟨C,E,rfl⟩:=F.out (by omega);obtain ⟨x,f⟩:∃ x,l[i]?=some x:=⟨_,List.getElem?_eq_getElem (by omega)⟩;have d:=G.out.fr0 m.out;have I:wr.cell? ⟨C,E+i * 13+1+3,none⟩=some (.int .i64 x.kv.mod):=d.of_add zaa i 4 f rfl;have H:=H_ (d.rangeAt zaa i f);have S:=World.block_lt_of_cell? _ _ I;have c:=H_ (zrn (rev:=rev) f);have k:Hid (O.length<=400000000):=H_ (by rw [j.out];exact Nat.le_trans (List.length_filter_le _ _) (Nat.le_trans (List.length_take_le _ _) (by omega)));clear f d;by_cases hle:x.kv.mod<=rev
    · rw [if_pos hle] at c
      go_wp2_with (first
       | (with_reducible show wpList _ _ _ ({ dst:=some 25,op:=_,type:=_,pos:=_,after:=_,guard:=_ } :: _) _ _
          refine zam rfl 72 _ rfl C (E+i * 13) rfl (evC x) H.out row72 (info72l x) ?_)
       | (with_reducible show wpList _ _ _ ({ dst:=some 26,op:=_,type:=_,pos:=_,after:=_,guard:=_ } :: _) _ _
          refine zcy rfl _ rfl x rfl ?_)
       | (with_reducible show wpList _ _ _ ({ dst:=some 27,op:=_,type:=_,pos:=_,after:=_,guard:=_ } :: _) _ _
          refine zdc rfl _ _ 41 rfl 72 N _ 13 136 Tryz.underlying41 s y z A rfl (by decide) _ O rfl (o.out.alloc _) w n.out (m.out.alloc _) wr.heap.size 1 x rfl (zat wr (evC x) 72 (0,0)) rfl (zfb x) (by have:=k.out;unfold maxLen;omega) (by have:=k.out;omega) ?_;rintro P T B U r K q L))
      go_roundg g
      case rel=>exact ⟨i+1,O++[x],by go_num,by omega,H_ (by rw [c.out,j.out]),H_ (by simpa using r),H_ q,H_ (by intro x f;simp [Value.ownBlock] at f;omega)⟩
      case measure=>omega
    rw [if_neg hle] at c
    go_wp2;go_roundg g
    case rel=>exact ⟨i+1,O,by go_num,by omega,H_ (by rw [c.out,j.out]),o,m,n⟩
    case measure=>omega
open Go Go.Proofs Go.RowKit Go.PlainAid
theorem zna (w:World) (key frm end_:ByteArray):Calls Tryz.prog 50 #[.string key,.string frm,.string end_] w fun e w'=>e=.returned (.bool (inB key frm end_))/\w=w':=by
 unfold inB;cases h1:end_.toList.isEmpty
 · cases h2:(end_.toList == [0])
   · cases h3:Op.bytesLess key.toList frm.toList <;>
     · go_enter Tryz.func50,Tryz.ntmps50
       go_wp2;go_ret;exact ⟨by simp,rfl⟩
   cases h3:Op.bytesLess key.toList frm.toList <;>
   · go_enter Tryz.func50,Tryz.ntmps50
     go_wp2;go_ret;exact ⟨by simp,rfl⟩
 go_enter Tryz.func50,Tryz.ntmps50
 go_wp2;go_ret;exact ⟨by simp,rfl⟩
theorem zhj {P:Program} {ops:Array Oper} {rest:List Oper} {op:Oper} {a:Act} {w:World} {Q:Exit->Act->World->Prop} (hgd:op.guard=none) (hd:op.dst=none) (ty:TypeId) (x y:Operand) (ho:op.op=.store ty x y)
 (b o:Nat) (cs:List Value) (hx:a.eval x=.pointer (some ⟨b,o,none⟩)) (hy:a.eval y=.agg cs.toArray) (ht:w.there b o cs.length) (hi:(P.info? ty).map (·.size)=some cs.length) (h1:cs.all (·.oneCell')=true)
 (h:wpList P ops Q rest a (w.setCells b o cs)):wpList P ops Q (op :: rest) a w:=by
 have c:a.put op.dst undef=a:=by rw [hd];rfl
 refine wpList_store_mid hgd ty x y ho b o cs.toArray hx hy (by simpa using ht) (by simpa using hi) (by simpa using h1) ?_;rw [c];exact h
theorem built72 (k:Int) (kv:Kv):Tryz.prog.built 72 [(0,.int .i64 k),(1,.agg (kvC kv).toArray)]=some (evC ⟨k,kv,kv0⟩).toArray:=by
 obtain ⟨a,b,c,d,e,f⟩:=kv
 kernel_rfl
theorem zjp {ops:Array Oper} {rest:List Oper} {o:Oper} {a:Act} {w:World} {Q:Exit->Act->World->Prop} (hg:o.guard=none) (x y:Operand) (ho:o.op=.build 72 #[(0,x),(1,y)]) (k:Int) (kv:Kv) (hx:a.eval x=.int .i64 k) (hy:a.eval y=.agg (kvC kv).toArray)
 (h:wpList Tryz.prog ops Q rest (a.put o.dst (.agg (evC ⟨k,kv,kv0⟩).toArray)) w):wpList Tryz.prog ops Q (o :: rest) a w:=by
 have e:(#[((0:Nat),x),(1,y)].map fun (i,x)=>(i,a.eval x)).toList = [(0,.int .i64 k),(1,Value.agg (kvC kv).toArray)]:=by simp [hx,hy]
 refine wpList_build hg 72 #[(0,x),(1,y)] ho ?_ ?_
 · rw [e,built72];rfl
 rw [e,built72];exact h
theorem info70l (x:Kv):(Tryz.prog.info? 70).map (·.size)=some (kvC x).length:=by rw [zar];kernel_rfl
theorem row70:(Tryz.prog.underlying 70).map TypeDesc.isRow=some true:=by kernel_rfl
theorem zvd (x:Kv):(kvC x).all (·.oneCell')=true:=by
 obtain ⟨a,b,c,d,e,f⟩:=x
 rfl
structure EvAt (W:World) (b:Nat) (x:Ev):Prop where
 all:W.rangeAt b 0 (evC x)
 kv:W.rangeAt b 1 (kvC x.kv)
 prev:W.rangeAt b 7 (kvC x.prev)
 kind:W.cell? ⟨b,0,none⟩=some (.int .i64 x.kind)
 key:W.cell? ⟨b,1,none⟩=some (.string x.kv.key)
 mod:W.cell? ⟨b,4,none⟩=some (.int .i64 x.kv.mod)
theorem EvAt.of {W:World} {b:Nat} {x:Ev} {t:TypeId} (h:W.heap[b]?=some (.cells (evC x).toArray t (0,0))):EvAt W b x :=
 ⟨zbc h 0 13,zbc h 1 6,zbc h 7 6,cellAt h 0 rfl,cellAt h 1 rfl,cellAt h 4 rfl⟩
theorem zle {w:World} {b:Nat} {cs:List Value} {t:TypeId} (h:w.heap[b]?=some (.cells cs.toArray t (0,0))) (o n:Nat) (hn:o+n<=cs.length):w.there b o n:=by
 intro j a;unfold World.cell? World.frozen?;simp only [h,Option.isSome_none,Bool.false_eq_true,if_false];refine ⟨?_,by simp⟩;rw [List.getElem?_toArray,List.getElem?_eq_getElem (by omega)]
 rfl
theorem znb {w:World} {b o:Nat} {l1 l2:List Value} (h1:w.rangeAt b o l1) (h2:w.rangeAt b (o+l1.length) l2):w.rangeAt b o (l1++l2):=by
 intro j v a;by_cases hj:j<l1.length
 · exact h1 j v (by rwa [List.getElem?_append_left hj] at a)
 have:=h2 (j-l1.length) v (by rwa [List.getElem?_append_right (by omega)] at a)
 rwa [show o+l1.length+(j-l1.length)=o+j by omega] at this
theorem zsi {w:World} {b:Nat} {k:Int} {kv p:Kv} {t:TypeId} (h:w.heap[b]?=some (.cells (evC ⟨k,kv,kv0⟩).toArray t (0,0))):(w.setCells b 7 (kvC p)).rangeAt b 0 (evC ⟨k,kv,p⟩):=by
 have a:w.rangeAt b 0 (.int .i64 k :: kvC kv):=zbc h 0 7;exact znb (l1:=.int .i64 k :: kvC kv) (World.rangeAt_setCells_apart a b 7 (kvC p) (.inr (.inl (Nat.le_refl 7)))) (World.rangeAt_setCells_same w b 7 (kvC p) (zle h 7 6 (Nat.le_refl 13)))
theorem Fr.setCells {S:Nat->Prop} {a:World} {b:Nat} (hb:S b\/a.heap.size<=b) (vs:List Value):∀ {w:World} (o:Nat),Fr S a w->Fr S a (w.setCells b o vs):=by
 induction vs with
 | nil=>exact fun _ h=>h
 | cons v vs ih=>exact fun o h=>ih (o+1) (h.setCell (p:=⟨b,o,none⟩) hb v)
theorem zjq (b:Nat) (vs:List Value):∀ (w:World) (o:Nat),(w.setCells b o vs).heap.size=w.heap.size:=by
 induction vs with
 | nil=>intro w o;rfl
 | cons v vs ih=>intro w o;exact (ih _ _).trans (by simp [World.setCell])
theorem zln (w:World) (t:Wt):Calls Tryz.prog 24 #[.agg (wtC t).toArray] w fun e w'=>e=.returned (.agg (wtC t).toArray)/\Fr No w w':=by
 obtain ⟨a,b,c,d,f,g⟩:=t;unfold wtC;dsimp only;go_enter Tryz.func24,Tryz.ntmps24;go_wp2;exact bodyPost_ret (results_cell_row rfl _ _ (w.heap.size+1) 61 _ (0,0) _ rfl (zae _ _ _ (by simp)) Tryz.underlying61 rfl (by kernel_rfl)) rfl ⟨rfl,((Fr.refl No w).alloc _).alloc _⟩
def outW (t:Wt) (x:Ev):Bool:=decide (x.kv.mod<t.frm) || !inB x.kv.key t.key t.end_
def kindW (t:Wt) (x:Ev):Bool:=(decide (x.kind=1)&&t.np)||(decide (x.kind=2)&&t.nd)
theorem zrk (t:Wt) (x:Ev):wantB t x = !(outW t x||kindW t x):=by
 unfold wantB outW kindW;simp only [Bool.or_assoc]
set_option maxHeartbeats 8000000 in
theorem ziv (w:World) (t:Wt) (v:Value) (l:List Ev) (hv:SlR w 13 evC v l) (hl:l.length<=400000000) :
 Calls Tryz.prog 23 #[.agg (wtC t).toArray,v] w fun e w'=>∃ v',e=.returned v'/\SlF w' 72 13 evC v' (wantsW t l)/\Fr No w w'/\(∀ b,v'.ownBlock=some b->w.heap.size<=b):=by
 obtain ⟨a,cap,rfl,h1,h2,h3⟩:=hv.shape;obtain ⟨i0,X,Z,a0,a1⟩:=info_parts info72;have a4:=H_ (zae w (.cells (wtC t).toArray 61) _ rfl);have z:Hid (Fr No w (w.alloc (.cells (wtC t).toArray 61))):=H_ ((Fr.refl No w).alloc _);have HV:=H_ hv;have H3:=H_ h3;unfold maxLen at h2;clear hv h3;go_enter Tryz.func23,Tryz.ntmps23;go_upto_region 1 with fail;generalize w.alloc (.cells (wtC t).toArray 61)=I at *;go_wp2_with fail
 go_loopg [5,6] l.length (fun g s5 s6 wr=>∃ (i:Nat) (O:List Ev),s6=.int .i64 i/\i+g=l.length/\Hid (O=wantsW t (l.take i))/\Hid (SlF wr 72 13 evC s5 O)/\Hid (Fr No I wr)/\Hid (∀ b,s5.ownBlock=some b->I.heap.size<=b))
 case atStart=>exact ⟨0,[],rfl,by omega,H_ (by simp [wantsW]),H_ (SlF.nil _ _ _ _),H_ (Fr.refl _ _),H_ (by simp [Value.ownBlock])⟩
 case round =>
  obtain ⟨i,O,rfl,hi,u,H,r,P⟩:=hrel
  cases gk with
  | zero =>
    have ae:¬ (i:Int)<(l.length:Int):=(by omega);have ag:l.take i=l:=List.take_of_length_le (by omega);rw [ag] at u;go_wp2;go_ret;exact ⟨_,rfl,by rw [<-u.out];exact H.out,z.out.trans0 r.out,fun b hb=>Nat.le_trans z.out.size (P.out b hb)⟩
  | succ g =>
    have ae:(i:Int)<(l.length:Int):=(by omega);have aE:IntKind.i64.wrap ((i:Int)+1)=i+1:=(by rw [IntKind.wrap_i64];omega);obtain ⟨gb,og,rfl⟩:=H3.out (by omega);obtain ⟨x,hx⟩:∃ x,l[i]?=some x:=⟨_,List.getElem?_eq_getElem (by omega)⟩;have E:=HV.out.fr0 (z.out.trans0 r.out);have RG:=H_ (E.rangeAt zaa i hx);have lg:gb<wr.heap.size:=World.block_lt_of_cell? _ _ (E.cell0 zaa i hx rfl);have c:=H_ (zhm t hx);have F:=zrk t x;have o:Hid (O.length<=400000000):=H_ (by rw [u.out];exact Nat.le_trans (zcd _ _) (Nat.le_trans (List.length_take_le _ _) (by omega)));have n:=H_ (zae wr (.cells (evC x).toArray 72) _ rfl);have d:Hid (Fr No wr (wr.alloc (.cells (evC x).toArray 72))):=H_ ((Fr.refl No wr).alloc _);clear hx E
    go_upto_region 6 with (first
     | (with_reducible show wpList _ _ _ ({ dst:=some 18,op:=_,type:=_,pos:=_,after:=_,guard:=_ } :: _) _ _
        refine zam rfl 72 _ rfl gb (og+i * 13) rfl (evC x) RG.out row72 (info72l x) ?_)
     | (with_reducible show wpList _ _ _ ({ dst:=none,op:=_,type:=_,pos:=_,after:=_,guard:=_ } :: _) _ _
        refine zeg rfl rfl 72 _ _ rfl _ (evC x) rfl rfl (info72l x) (by rw [zaa];rfl) (zfb x) ?_))
    generalize V:wr.heap.size=J at *;generalize wr.alloc (.cells (evC x).toArray 72)=s at *;clear RG;have q:=H_ ((r.out.trans0 d.out).heap a4.out fun h=>h);have L:=H_ (EvAt.of n.out);have e0:=L.out.kind;have e1:=L.out.key;have e4:=L.out.mod;have t0:s.cell? ⟨w.heap.size,0,none⟩=some (.string t.key):=cellAt q.out 0 rfl;have t1:s.cell? ⟨w.heap.size,1,none⟩=some (.string t.end_):=cellAt q.out 1 rfl;have t2:s.cell? ⟨w.heap.size,2,none⟩=some (.int .i64 t.frm):=cellAt q.out 2 rfl;have t3:s.cell? ⟨w.heap.size,3,none⟩=some (.bool t.np):=cellAt q.out 3 rfl;have t4:s.cell? ⟨w.heap.size,4,none⟩=some (.bool t.nd):=cellAt q.out 4 rfl;have lb:=zad n.out;have lx:=zad q.out;have N:=H_ fun W=>zna W x.kv.key t.key t.end_
    go_cut [35] (fun s35 wx=>s35=.bool (outW t x)/\Hid (s=wx))
    case first =>
     as_aux_lemma =>
     by_cases hm:x.kv.mod<t.frm
     · go_wp2
       go_meet
       case rel=>exact ⟨by unfold outW;rw [decide_eq_true hm];rfl,H_ rfl⟩
     have K:outW t x = !inB x.kv.key t.key t.end_:=by unfold outW;rw [decide_eq_false hm];rfl
     have a8:=H_ K;clear K;go_wp2_with (go_at_call 50;(with_reducible refine (N.out _).mono ?_);rintro e w5 ⟨rfl,rfl⟩);go_meet
     case rel=>exact ⟨by rw [a8.out],H_ rfl⟩
    case rest =>
    obtain ⟨rfl,T⟩:=hcut;obtain rfl:=T.out;clear T N
    cases K:outW t x with
    | true =>
      have Y:wantB t x=false:=(by rw [F,K];rfl);rw [Y,if_neg (by decide)] at c;go_wp2_with fail;go_roundg g
      case rel=>exact ⟨i+1,O,by go_num,by omega,H_ (by rw [c.out,u.out]),H_ (H.out.fr0 d.out),H_ (r.out.trans0 d.out),P⟩
      case measure=>omega
    | false =>
      go_upto_region 7 with fail
      go_cut [51] (fun s51 wx=>s51=.bool (kindW t x)/\Hid (s=wx))
      case first =>
       as_aux_lemma =>
       by_cases k1:x.kind=1
       · have k:kindW t x=t.np:=by unfold kindW;rw [decide_eq_true k1,decide_eq_false (show ¬ x.kind=2 by omega)];simp
         have G:=H_ k;rw [k1] at e0;clear k
         cases hnp:t.np with
         | true =>
           rw [hnp] at t3;go_wp2;go_meet
           case rel=>exact ⟨by rw [G.out,hnp],H_ rfl⟩
         | false =>
           rw [hnp] at t3;go_wp2;go_meet
           case rel=>exact ⟨by rw [G.out,hnp],H_ rfl⟩
       by_cases k2:x.kind=2
       · have k:kindW t x=t.nd:=by unfold kindW;rw [decide_eq_false k1,decide_eq_true k2];simp
         have G:=H_ k;rw [k2] at e0;clear k;go_wp2;go_meet
         case rel=>exact ⟨by rw [G.out],H_ rfl⟩
       have k:kindW t x=false:=by unfold kindW;rw [decide_eq_false k1,decide_eq_false k2];simp
       have G:=H_ k;clear k;go_wp2;go_meet
       case rel=>exact ⟨by rw [G.out],H_ rfl⟩
      case rest =>
      obtain ⟨rfl,T⟩:=hcut;obtain rfl:=T.out;clear T
      cases k:kindW t x with
      | true =>
        have Y:wantB t x=false:=(by rw [F,K,k];rfl);rw [Y,if_neg (by decide)] at c;go_wp2_with fail;go_roundg g
        case rel=>exact ⟨i+1,O,by go_num,by omega,H_ (by rw [c.out,u.out]),H_ (H.out.fr0 d.out),H_ (r.out.trans0 d.out),P⟩
        case measure=>omega
      | false =>
        have Y:wantB t x=true:=(by rw [F,K,k];rfl);rw [Y,if_pos rfl] at c;clear t0 t1 t2 t3 t4 e1 e4;have f:=H_ (zae s (.cells (evC ⟨x.kind,x.kv,kv0⟩).toArray 72) _ rfl);have j:Hid (Fr No s (s.alloc (.cells (evC ⟨x.kind,x.kv,kv0⟩).toArray 72))):=H_ ((Fr.refl No s).alloc _)
        go_upto_region 9 with (first
         | (with_reducible show wpList _ _ _ ({ dst:=some 55,op:=_,type:=_,pos:=_,after:=_,guard:=_ } :: _) _ _
            refine zam rfl 70 _ rfl J 1 rfl (kvC x.kv) L.out.kv row70 (info70l x.kv) ?_)
         | (with_reducible show wpList _ _ _ ({ dst:=some 56,op:=_,type:=_,pos:=_,after:=_,guard:=_ } :: _) _ _
            refine zjp rfl _ _ rfl x.kind x.kv rfl rfl ?_)
         | (with_reducible show wpList _ _ _ ({ dst:=none,op:=_,type:=_,pos:=_,after:=_,guard:=_ } :: _) _ _
            refine zeg rfl rfl 72 _ _ rfl _ (evC ⟨x.kind,x.kv,kv0⟩) rfl rfl (info72l _) (by rw [zaa];rfl) (zfb _) ?_))
        generalize aC:s.heap.size=b2 at *;generalize s.alloc (.cells (evC ⟨x.kind,x.kv,kv0⟩).toArray 72)=m at *;have A:=H_ (j.out.heap q.out fun h=>h);have EB:=H_ (EvAt.of (j.out.heap n.out fun h=>h));have t5:m.cell? ⟨w.heap.size,5,none⟩=some (.bool t.prev):=cellAt A.out 5 rfl;have aj:=zad A.out;have a2:=zad f.out;have ai:J<m.heap.size:=(by have:=j.out.size;omega);have aD:J<b2:=(by omega);have HG:=H_ (r.out.trans0 (d.out.trans0 j.out));have a7:Hid (∀ b,u5.ownBlock=some b->b<J):=H_ fun b hb=>by rw [<-V];exact H.out.lt b hb
        have M:Hid (I.heap.size<=J):=H_ (by rw [<-V];exact r.out.size);have Q:=H_ (H.out.fr0 (d.out.trans0 j.out));clear L e0 lb lx q A n H r
        cases hp:t.prev with
        | false =>
          have hh:handE t x=⟨x.kind,x.kv,kv0⟩:=(by unfold handE;rw [hp];rfl);rw [hh] at c;rw [hp] at t5
          go_wp2_with (first
           | (with_reducible show wpList _ _ _ ({ dst:=some 63,op:=_,type:=_,pos:=_,after:=_,guard:=_ } :: _) _ _
              refine zam rfl 72 _ rfl b2 0 rfl (evC ⟨x.kind,x.kv,kv0⟩) (EvAt.of f.out).all row72 (info72l _) ?_)
           | (with_reducible show wpList _ _ _ ({ dst:=some 64,op:=_,type:=_,pos:=_,after:=_,guard:=_ } :: _) _ _
              refine zcy rfl _ rfl ⟨x.kind,x.kv,kv0⟩ rfl ?_)
           | (with_reducible show wpList _ _ _ ({ dst:=some 65,op:=_,type:=_,pos:=_,after:=_,guard:=_ } :: _) _ _
              refine zdc rfl _ _ 41 rfl 72 i0 _ 13 136 Tryz.underlying41 X Z a0 a1 rfl (by decide) _ O rfl (Q.out.alloc _) I P.out (HG.out.alloc _) m.heap.size 1 ⟨x.kind,x.kv,kv0⟩ rfl (zat m (evC ⟨x.kind,x.kv,kv0⟩) 72 (0,0)) rfl (zfb _) (by have:=o.out;unfold maxLen;omega) (by have:=o.out;omega) ?_;rintro g1 o1 U w3 C ab B af))
          go_roundg g
          case rel=>exact ⟨i+1,O++[⟨x.kind,x.kv,kv0⟩],by go_num,by omega,H_ (by rw [c.out,u.out]),H_ (by simpa using C),H_ B,H_ (by intro y hy;simp [Value.ownBlock] at hy;omega)⟩
          case measure=>omega
        | true =>
          have hh:handE t x=x:=(by unfold handE;rw [hp];rfl);rw [hh] at c;rw [hp] at t5;have R:=H_ (zle f.out 7 6 (Nat.le_refl 13))
          go_upto_region 11 with (first
           | (with_reducible show wpList _ _ _ ({ dst:=some 60,op:=_,type:=_,pos:=_,after:=_,guard:=_ } :: _) _ _
              refine zam rfl 70 _ rfl J 7 rfl (kvC x.prev) EB.out.prev row70 (info70l x.prev) ?_)
           | (with_reducible show wpList _ _ _ ({ dst:=none,op:=_,type:=_,pos:=_,after:=_,guard:=_ } :: _) _ _
              refine zhj rfl rfl 70 _ _ rfl b2 7 (kvC x.prev) rfl rfl R.out (info70l x.prev) (zvd x.prev) ?_))
          have D:Fr (fun b=>b=b2) m (m.setCells b2 7 (kvC x.prev)):=Fr.setCells (S:=fun b=>b=b2) (.inl rfl) _ _ (Fr.refl _ m);have a9:=H_ (zsi (p:=x.prev) f.out);have a6:=H_ (Q.out.fr D fun b hb e=>by have e':b=b2:=e;have:=a7.out b hb;omega);have a5:Hid (Fr No I (m.setCells b2 7 (kvC x.prev))):=H_ (HG.out.trans D fun b hb e=>by have e':b=b2:=e;have:=M.out;omega);have aF:b2<(m.setCells b2 7 (kvC x.prev)).heap.size:=(by rw [zjq];exact a2);clear f R EB t5 aj a2 ai D;generalize m.setCells b2 7 (kvC x.prev)=W3 at *
          go_wp2_with (first
           | (with_reducible show wpList _ _ _ ({ dst:=some 63,op:=_,type:=_,pos:=_,after:=_,guard:=_ } :: _) _ _
              refine zam rfl 72 _ rfl b2 0 rfl (evC x) a9.out row72 (info72l _) ?_)
           | (with_reducible show wpList _ _ _ ({ dst:=some 64,op:=_,type:=_,pos:=_,after:=_,guard:=_ } :: _) _ _
              refine zcy rfl _ rfl x rfl ?_)
           | (with_reducible show wpList _ _ _ ({ dst:=some 65,op:=_,type:=_,pos:=_,after:=_,guard:=_ } :: _) _ _
              refine zdc rfl _ _ 41 rfl 72 i0 _ 13 136 Tryz.underlying41 X Z a0 a1 rfl (by decide) _ O rfl (a6.out.alloc _) I P.out (a5.out.alloc _) W3.heap.size 1 x rfl (zat W3 (evC x) 72 (0,0)) rfl (zfb _) (by have:=o.out;unfold maxLen;omega) (by have:=o.out;omega) ?_;rintro g1 o1 U w3 C ab B af))
          go_roundg g
          case rel=>exact ⟨i+1,O++[x],by go_num,by omega,H_ (by rw [c.out,u.out]),H_ (by simpa using C),H_ B,H_ (by intro y hy;simp [Value.ownBlock] at hy;omega)⟩
          case measure=>omega
theorem Told.new:Told newD []:=⟨fun r h1 _ h3=>by have:r<=0:=h3;omega,fun e he=>by simp at he,List.Pairwise.nil⟩
theorem Told.cut {D:Doc} {all:List Ev} (h:Told D all) {R:Int} (h1:D.mark<=R) (_h2:R<=D.rev):Told (D.cut R) all where
 he:=fun r a1 a2 a3=>by
  have b2:R<=r:=a2;have b3:r<=D.rev:=a3;rw [<-h.he r a1 (by omega) b3]
  show ((D.events.filter fun e=>decide (R<=e.kv.mod)&&decide (e.kv.mod<=D.rev)).filter fun e=>decide (e.kv.mod=r))=_
  rw [List.filter_filter];refine List.filter_congr fun e _=>?_;by_cases hr:e.kv.mod=r
  · have c1:decide (R<=e.kv.mod)=true:=decide_eq_true (by omega)
    have c2:decide (e.kv.mod<=D.rev)=true:=decide_eq_true (by omega);rw [c1,c2];simp
  rw [decide_eq_false hr]
  simp
 lo:=h.lo
 up:=h.up
theorem Told.adds {D:Doc} {all:List Ev} (h:Told D all) (hlo:∀ e∈D.events,e.kv.mod<=D.rev) (hm0:0<=D.mark) (hm1:D.mark<=D.rev) {E:List Ev} (hE:E≠[]) (hm:∀ e∈E,e.kv.mod=D.rev+1) :
 (D.adds E).rev=D.rev+1/\zax (D.adds E) (D.rev+1) (D.rev+1)=0/\evsAt (D.adds E) (D.rev+1)=E/\Told (D.adds E) (all++E):=by
 obtain ⟨l,n,m⟩:=Doc.adds_parts D E;have i:(D.adds E).rev=D.rev+1:=by rw [Doc.adds_rev D E _ hm,if_neg hE]
 have f:zax (D.adds E) (D.rev+1) (D.rev+1)=0:=zfm (by omega) (by rw [l];omega) (by rw [i];omega);have c:(D.events.filter fun e=>decide (e.kv.mod=D.rev+1)) = []:=List.filter_eq_nil_iff.2 fun e he=>by have:=hlo e he;simp;omega
 have g:(E.filter fun e=>decide (e.kv.mod=D.rev+1))=E:=List.filter_eq_self.2 fun e he=>by simp [hm e he]
 refine ⟨i,f,?_,fun r a1 a2 a3=>?_,fun e he=>?_,?_⟩
 · unfold evsAt
   rw [if_pos f,m,List.filter_append,c,g,List.nil_append]
 · rw [m,List.filter_append,List.filter_append]
   rw [l] at a2;rw [i] at a3;by_cases hrr:r<=D.rev
   · rw [h.he r a1 a2 hrr]
   have k:r=D.rev+1:=by omega
   subst k;have d:(all.filter fun e=>decide (e.kv.mod=D.rev+1)) = []:=List.filter_eq_nil_iff.2 fun e he=>by have:=h.lo e he;simp;omega
   rw [c,d]
 · rw [i]
   rcases List.mem_append.1 he with j | j
   · have:=h.lo e j;omega
   rw [hm e j];omega
 unfold ModUp
 rw [List.pairwise_append];refine ⟨h.up,?_,fun a ha b hb=>?_⟩
 · exact List.Pairwise.imp_of_mem (R:=fun _ _=>True) (fun {a b} ha hb _=>by rw [hm a ha,hm b hb];exact Int.le_refl _) (List.pairwise_of_forall fun _ _=>trivial)
 have:=h.lo a ha
 rw [hm b hb];omega
def evsD (D D':Doc) (all:List Ev):List Ev:=if D.rev<D'.rev then all++evsAt D' D'.rev else all
theorem Told.does {k:Nat} {S:St} {D:Doc} (h:Good k S D) (hk:k<=70) {q:CalQ} (hq:fewCal q=true) {all:List Ev} (ht:Told D all) :
 Told (doD S D q) (evsD D (doD S D q) all)/\(D.rev<(doD S D q).rev->(doD S D q).rev=D.rev+1/\zax (doD S D q) (doD S D q).rev (doD S D q).rev=0/\∀ e∈evsAt (doD S D q) (doD S D q).rev,e.kv.mod=D.rev+1)/\D.rev<=(doD S D q).rev:=by
 obtain ⟨r,u,s,v,w⟩:=zfz hq;have d:=h.cpl.m0;have g:∀ e∈D.events,e.kv.mod<=D.rev:=fun e f=>(h.doc.lo e f).2.2
 have b:∀ D':Doc,D'.rev=D.rev->Told D' all->Told D' (evsD D D' all)/\(D.rev<D'.rev->D'.rev=D.rev+1/\zax D' D'.rev D'.rev=0/\∀ e∈evsAt D' D'.rev,e.kv.mod=D.rev+1)/\D.rev<=D'.rev:=fun D' hr h1=>by
  unfold evsD;rw [if_neg (by omega)];exact ⟨h1,fun h2=>by omega,by omega⟩
 have adds:∀ E:List Ev,(∀ e∈E,e.kv.mod=D.rev+1)->Told (D.adds E) (evsD D (D.adds E) all)/\(D.rev<(D.adds E).rev->(D.adds E).rev=D.rev+1/\zax (D.adds E) (D.adds E).rev (D.adds E).rev=0/\∀ e∈evsAt (D.adds E) (D.adds E).rev,e.kv.mod=D.rev+1)/\D.rev<=(D.adds E).rev:=fun E hE=>by
  by_cases hn:E = []
  · subst hn
    exact b _ rfl ht
  obtain ⟨i,j,l,m⟩:=ht.adds g d.1 d.2 hn hE
  unfold evsD;rw [i,if_pos (by omega),l];exact ⟨m,fun _=>⟨rfl,j,hE⟩,by omega⟩
 unfold doD;by_cases h4:kindN q.1.kind=4
 · rw [if_pos h4];exact b _ rfl ht
 rw [if_neg h4]
 by_cases h5:kindN q.1.kind=5
 · rw [if_pos h5]
   split
   · rename_i hc
     rw [h.compactDoc] at hc;unfold zin at hc
     split at hc
     · cases hc
     split at hc
     · cases hc
     exact b _ rfl (ht.cut (by omega) (by omega))
   exact b _ rfl ht
 rw [if_neg h5]
 by_cases h6:kindN q.1.kind=6
 · rw [if_pos h6];exact b _ rfl ht
 rw [if_neg h6]
 by_cases h7:kindN q.1.kind=7
 · rw [if_pos h7]
   obtain ⟨a,_⟩:=h.drops hk q.2.2 s q.2.2.length (Nat.le_refl _);have f:dropTo (D.rev+1) S q.2.2 q.2.2.length=q.2.2.foldl (dropR (D.rev+1)) (S,[]):=(by unfold dropTo;rw [List.take_length]);rw [f] at a;have:=adds _ a.mods;unfold dropD
   first | exact this | (rw [h.rev];exact this)
 rw [if_neg h7]
 by_cases ha:applyE S q.2.1=0
 · rw [if_pos ha]
   have c:∀ o∈q.2.1,o.rg.key.size<=1099511627776:=fun o ho=>by have:=(r o ho).1;omega
   obtain ⟨n,t⟩:=zbu ha;obtain ⟨⟨a,_⟩,_⟩:=h.runs hk n c q.2.1.length (Nat.le_refl _);rw [List.take_length] at a;have:=adds _ a.mods;unfold applyD
   first | exact this | (rw [h.rev];exact this)
 rw [if_neg ha];exact b _ rfl ht
structure SeenR (w:World) (x:Nat) (av gv:Value) (all got:List Ev) (rev:Int) (ended:Bool):Prop where
 obj:w.heap[x]?=some (.cells #[av,gv,.int .i64 rev,.bool ended,.bool false] 56 (0,0))
 sa:SlF w 72 13 evC av all
 sg:SlF w 72 13 evC gv got
 d1:av.ownBlock≠some x
 d2:gv.ownBlock≠some x
 d3:∀ b,av.ownBlock=some b->gv.ownBlock≠some b
def seenF (x:Nat) (av gv:Value) (b:Nat):Prop:=b=x\/av.ownBlock=some b\/gv.ownBlock=some b
def SeenAt (w:World) (x:Nat) (all got:List Ev) (rev:Int) (ended:Bool) (X:Nat->Prop):Prop:=∃ av gv,SeenR w x av gv all got rev ended/\∀ b,X b↔seenF x av gv b
section
variable {w w':World} {x:Nat} {av gv:Value} {all got:List Ev} {rev:Int} {ended:Bool}
theorem SeenR.lt (a:SeenR w x av gv all got rev ended):∀ b,seenF x av gv b->b<w.heap.size:=by
 rintro b (rfl | h | h)
 · exact zad a.obj
 · exact a.sa.lt b h
 exact a.sg.lt b h
theorem SeenR.fr {Y:Nat->Prop} (a:SeenR w x av gv all got rev ended) (hf:Fr Y w w') (hn:∀ b,seenF x av gv b->¬ Y b):SeenR w' x av gv all got rev ended :=
 { a with obj:=hf.heap a.obj (hn x (.inl rfl)),sa:=a.sa.fr hf fun b hb=>hn b (.inr (.inl hb)),sg:=a.sg.fr hf fun b hb=>hn b (.inr (.inr hb)) }
theorem SeenR.fr0 (a:SeenR w x av gv all got rev ended) (hf:Fr No w w'):SeenR w' x av gv all got rev ended:=a.fr hf fun _ _ h=>h
theorem SeenAt.lt {X:Nat->Prop} (a:SeenAt w x all got rev ended X):∀ b,X b->b<w.heap.size:=by
 obtain ⟨d,e,a,c⟩:=a;exact fun b hb=>a.lt b ((c b).1 hb)
theorem SeenAt.fr {X Y:Nat->Prop} (a:SeenAt w x all got rev ended X) (hf:Fr Y w w') (hn:∀ b,X b->¬ Y b):SeenAt w' x all got rev ended X:=by
 obtain ⟨d,e,a,c⟩:=a;exact ⟨d,e,a.fr hf fun b hb=>hn b ((c b).2 hb),c⟩
theorem SeenAt.fr0 {X:Nat->Prop} (a:SeenAt w x all got rev ended X) (hf:Fr No w w'):SeenAt w' x all got rev ended X:=a.fr hf fun _ _ h=>h
end
theorem SeenR.put {w:World} {x:Nat} {av gv:Value} {all got:List Ev} {rev:Int} {ended:Bool} (a:SeenR w x av gv all got rev ended) (j:Nat) (u:Value) {rev':Int} {ended':Bool}
 (h:(#[av,gv,.int .i64 rev,.bool ended,.bool false]:Array Value).setIfInBounds j u=#[av,gv,.int .i64 rev',.bool ended',.bool false]):SeenR (w.setCell ⟨x,j,none⟩ u) x av gv all got rev' ended'/\Fr (fun b=>b=x) w (w.setCell ⟨x,j,none⟩ u):=by
 have c:Fr (fun b=>b=x) w (w.setCell ⟨x,j,none⟩ u):=Fr.setCell (p:=⟨x,j,none⟩) (Fr.refl (fun b=>b=x) w) (.inl rfl) u;refine ⟨⟨?_,a.sa.fr c fun b hb e=>a.d1 (by rw [hb,e]),a.sg.fr c fun b hb e=>a.d2 (by rw [hb,e]),a.d1,a.d2,a.d3⟩,c⟩;rw [zab a.obj j u,h]
def SeenTo (TA:zai) (w w':World) (h s x k:Nat) (S:St) (D:Doc) (H:Hb) (all got:List Ev) (rev:Int) (ended:Bool) (B X B' X':Nat->Prop):Prop :=
 Both TA w' h s k k S D H B'/\SeenAt w' x all got rev ended X'/\Fr (fun b=>B b\/X b) w w'/\(∀ b,B' b->B b\/w.heap.size<=b)/\(∀ b,X' b->X b\/w.heap.size<=b)/\(∀ b,X' b->¬ B' b)
theorem Both.store {TA:zai} {w:World} {h s k n:Nat} {S:St} {D:Doc} {H:Hb} {B:Nat->Prop} (a:Both TA w h s k n S D H B):∃ G,zal TA w s S G:=by
 obtain ⟨_,F,G,_,b,_⟩:=a;exact ⟨G,b⟩
theorem Both.evs {TA:zai} (hT:TreeOk TA 1000000) {w:World} {h s k n:Nat} {S:St} {D:Doc} {H:Hb} {B:Nat->Prop} (a:Both TA w h s k n S D H B) (hk:k<=70) (r:Int) :
 Calls Tryz.prog 42 #[.pointer (some ⟨s,0,none⟩),.int .i64 r,.int .i64 r] w fun e w'=>∃ v,e=.returned (.tuple #[v,.int .i64 (zax D r r)])/\SlF w' 72 13 evC v (evsAt D r)/\Fr No w w'/\(∀ b,v.ownBlock=some b->w.heap.size<=b):=by
 obtain ⟨g,i,f,j⟩:=a.p.sizes hk;obtain ⟨G,d⟩:=a.store;have c:=zcx hT w s S G d (by omega) f r r;rw [zko a.p.good r,(a.p.good.eventsDoc r r).1] at c;exact c
set_option maxHeartbeats 8000000 in
theorem zpq {TA:zai} (hT:TreeOk TA 1000000) {w0 w:World} {h s x k:Nat} {S:St} {D:Doc} {H:Hb} {B X:Nat->Prop} {q:ActQ} {all got:List Ev} {rev:Int} {ended:Bool} (hF:ActF TA w0 w h s k S D H B q) (hb:Both TA w h s k k S D H B) (hk:k<=69) (hq:fewCal q.call=true)
 (hx:SeenAt w x all got rev ended X) (hd:∀ b,X b->¬ B b) (ht:Told D all) (hlen:all.length<=300000000) :
 Calls Tryz.prog 22 #[.pointer (some ⟨x,0,none⟩),.pointer (some ⟨s,0,none⟩),.pointer (some ⟨h,0,none⟩),.agg (actC q).toArray] w fun e w'=>e=.returned (.tuple #[])/\∃ B' X',
  SeenTo TA w w' h s x (k+1) (if kindN q.kind<=2 then doT S q.call else S) (if kindN q.kind<=2 then doD S D q.call else D) (if kindN q.kind=3 then feedH D H else H) (if kindN q.kind<=2 then evsD D (doD S D q.call) all else all) got rev ended B X B' X':=by
 have d:=H_ (zae w (.cells (actC q).toArray 31) _ rfl);have G:Hid (Fr No w (w.alloc (.cells (actC q).toArray 31))):=H_ ((Fr.refl No w).alloc _);have u:=H_ fun W=>zgt W q;have bg:=zfk q.kind;have Z:=H_ hF;have F:=H_ hb;have r:=H_ hx;have HD:=H_ hd;have HT:=H_ ht;have HQ:=H_ hq;clear hF hb hx hd ht hq;have o:Hid (∀ w',Fr No w w'->SeenTo TA w w' h s x (k+1) S D H all got rev ended B X B X):=H_ fun w' hf=>⟨(F.out.fr0 hT hf).mono (by omega) (by omega),r.out.fr0 hf,hf.mono fun _ _ h=>h.elim,fun _ h=>.inl h,fun _ h=>.inl h,HD.out⟩;generalize kindN q.kind=kk at *;by_cases k3:kk=3
 · subst k3
   have aF:¬ (3:Int)<=2:=(by decide);simp only [if_neg aF,if_pos];go_enter Tryz.func22,Tryz.ntmps22;go_upto_region 1 with fail;generalize w.alloc (.cells (actC q).toArray 31)=W1 at *;have lb:=zad d.out
   go_wp2_with (first
    | (with_reducible show wpList _ _ _ ({ dst:=some 11,op:=_,type:=_,pos:=_,after:=_,guard:=_ } :: _) _ _
       refine zam rfl 31 _ rfl w.heap.size 0 rfl (actC q) (ActAt.of d.out).all row31 (info31l q) ?_)
    | (go_at_call 20;(with_reducible refine (u.out _).mono ?_);rintro e w2 ⟨rfl,g⟩;have c:=H_ (G.out.trans0 g);clear g)
    | (go_at_call 13;(with_reducible refine (Z.out.feed _ c.out).mono ?_);rintro e w3 ⟨rfl,B3,f⟩))
   have hz:=c.out.size
   first | exact bodyPost_ret (results_none rfl _ _ _) rfl ⟨rfl,B3,X,f.1,(r.out.fr0 c.out).fr f.2.1 HD.out,(c.out.mono fun _ _ h=>h.elim).trans f.2.1 fun b _ hb=>.inl hb,fun b hb=>(f.2.2.1 b hb).imp id fun h=>by omega,fun b hb=>.inl hb,fun b hb hx=>(f.2.2.1 b hx).elim (HD.out b hb) fun h=>by have:=r.out.lt b hb;omega⟩ | exact bodyPost_end (results_none rfl _ _ _) rfl ⟨rfl,B3,X,f.1,(r.out.fr0 c.out).fr f.2.1 HD.out,(c.out.mono fun _ _ h=>h.elim).trans f.2.1 fun b _ hb=>.inl hb,fun b hb=>(f.2.2.1 b hb).imp id fun h=>by omega,fun b hb=>.inl hb,fun b hb hx=>(f.2.2.1 b hx).elim (HD.out b hb) fun h=>by have:=r.out.lt b hb;omega⟩
 by_cases k2:kk<=2
 · simp only [if_neg k3,if_pos k2]
   obtain ⟨t1,t2,t3⟩:=Told.does F.out.p.good (by omega) HQ.out HT.out;have r1:=F.out.p.good.rev;have g2:=F.out.p.good.does (by omega) HQ.out;have r2:=g2.rev;have el:=zgb g2 (doD S D q.call).rev;have ev:=g2.ok.ev;have aj:evsD D (doD S D q.call) all=if D.rev<(doD S D q.call).rev then all++evsAt (doD S D q.call) (doD S D q.call).rev else all:=rfl;have a3:=H_ fun W n (b:Both TA W h s n n S D H B)=>b.revC;have I:=H_ fun W n B' (b:Both TA W h s n n (doT S q.call) (doD S D q.call) H B')=>b.revC;have U:=H_ fun W B' (b:Both TA W h s (k+1) (k+1) (doT S q.call) (doD S D q.call) H B')=>b.evs hT (by omega) (doD S D q.call).rev;have ad:=H_ Z.out.does;rw [r1] at a3;rw [r2] at I;generalize doT S q.call=S' at *;generalize doD S D q.call=M at *;rw [aj];generalize doE S q.call=de at *
   generalize V:(if D.rev<M.rev then all++evsAt M M.rev else all)=aU at *;have i:=H_ V;clear aj t1 r1 r2 g2 Z HQ o V;have aM:¬ kk > 2:=(by omega);have T2:=H_ t2;clear t2;obtain ⟨i0,aE,aJ,aK,aL⟩:=info_parts info72;go_enter Tryz.func22,Tryz.ntmps22;go_upto_region 1 with fail;generalize w.alloc (.cells (actC q).toArray 31)=W1 at *;have lb:=zad d.out
   go_upto_region 3 with (first
    | (with_reducible show wpList _ _ _ ({ dst:=some 11,op:=_,type:=_,pos:=_,after:=_,guard:=_ } :: _) _ _
       refine zam rfl 31 _ rfl w.heap.size 0 rfl (actC q) (ActAt.of d.out).all row31 (info31l q) ?_)
    | (go_at_call 20;(with_reducible refine (u.out _).mono ?_);rintro e w2 ⟨rfl,g⟩))
   have l:=H_ (g.heap d.out fun h=>h);have c:=H_ (G.out.trans0 g);have ap:=zad l.out;clear g d G lb
   go_upto_region 4 with (first
    | (with_reducible show wpList _ _ _ ({ dst:=some 16,op:=_,type:=_,pos:=_,after:=_,guard:=_ } :: _) _ _
       refine zam rfl 31 _ rfl w.heap.size 0 rfl (actC q) (ActAt.of l.out).all row31 (info31l q) ?_)
    | (go_at_call 20;(with_reducible refine (u.out _).mono ?_);rintro e w3 ⟨rfl,y⟩))
   have a0:=H_ (y.heap l.out fun h=>h);have m:=H_ (c.out.trans0 y);have aN:=zad a0.out;clear y l c ap u
   go_upto_region 6 with (first
    | (go_at_call 40;(with_reducible refine (a3.out _ _ (F.out.fr0 hT m.out)).mono ?_);rintro e bn ⟨rfl,rfl⟩)
    | (with_reducible show wpList _ _ _ ({ dst:=some 23,op:=_,type:=_,pos:=_,after:=_,guard:=_ } :: _) _ _
       refine zam rfl 27 _ rfl w.heap.size 1 rfl (calC q.call) (ActAt.of a0.out).call row27 (info27l q.call) ?_)
    | (go_at_call 27;(with_reducible refine (ad.out w3 m.out).mono ?_);rintro e w4 ⟨rfl,B4,v⟩))
   have j:Hid (Both TA w4 h s (k+1) (k+1) S' M H B4):=H_ v.1;have Q:=H_ ((r.out.fr0 m.out).fr v.2.1 HD.out);have O:Hid (Fr (fun b=>B b\/X b) w w4):=H_ ((m.out.mono fun _ _ h=>h.elim).trans v.2.1 fun b _ hb=>.inl hb);have a2:Hid (∀ b,B4 b->B b\/w.heap.size<=b):=H_ fun b hb=>(v.2.2.1 b hb).imp (fun h=>h) fun h=>by have:=m.out.size;omega
   have N:Hid (∀ b,X b->¬ B4 b):=H_ fun b hb hx=>(v.2.2.1 b hx).elim (HD.out b hb) fun h=>by have:=(r.out.fr0 m.out).lt b hb;omega
   clear v m a0 aN ad a3;by_cases hup:D.rev<M.rev
   · rw [if_pos hup] at i
     have ao:M.rev > D.rev:=hup;obtain ⟨e1,e2,e3⟩:=T2.out hup;rw [e2] at U;generalize evsAt M M.rev=E at *;generalize M.rev=r' at *;clear e1 e2 e3 T2 hup;obtain ⟨av,gv,a7,ai⟩:=Q.out;obtain ⟨aa,ac,ha,bc,aC,_⟩:=a7.sa.shape;subst ha;have af:=H_ a7;have J:=H_ ai;unfold maxLen at aC;clear a7 ai Q
     go_upto_region 8 with (first
      | (go_at_call 40;(with_reducible refine (I.out _ _ _ j.out).mono ?_);rintro e aQ ⟨rfl,rfl⟩)
      | (go_at_call 42;(with_reducible refine (U.out _ _ j.out).mono ?_);rintro e w5 ⟨ba,rfl,a8,a5,aG⟩;obtain ⟨ea,ec,rfl,bd,be,_⟩:=a8.shape))
     have a:=H_ (af.out.fr0 a5);have az:=H_ a8;have ae:=H_ a5;have x0:w5.cell? ⟨x,0,none⟩=some (.slice aa all.length ac):=cellAt a.out.obj 0 rfl;have lx:=zad a.out.obj;clear a8 a5 af;go_upto_region 9 with (at_builtin;refine zdp rfl _ _ 41 rfl 72 i0 _ 13 136 Tryz.underlying41 aE aJ aK aL rfl (by decide) zaa (.slice aa all.length ac) (.slice ea E.length ec) all E (fun x _=>zgc x) rfl rfl a.out.sa az.out (by unfold maxLen;omega) (by omega) ?_;intro z C A Y am R t;have y0:=t.cell x0 a.out.d1;have z0:Y.frozen? ⟨x,0,none⟩=false:=by { have hh:=t.heap a.out.obj a.out.d1;unfold World.frozen?;rw [hh];simp };have aO:=zad (t.heap a.out.obj a.out.d1));have K:=t.heap a.out.obj a.out.d1
     have L:(Y.setCell ⟨x,0,none⟩ (.slice z C A)).heap[x]?=some (.cells #[.slice z C A,gv,.int .i64 rev,.bool ended,.bool false] 56 (0,0)):=by
      rw [zab K 0 _];simp
     have T:Fr (fun b=>b=x) Y (Y.setCell ⟨x,0,none⟩ (.slice z C A)):=Fr.setCell (p:=⟨x,0,none⟩) (Fr.refl (fun b=>b=x) Y) (.inl rfl) _;have a6:∀ b,(Value.slice z C A).ownBlock=some b->b≠x:=fun b hb e=>(R b hb).elim (fun h=>a.out.d1 (by rw [h,e])) fun h=>by omega
     have an:=am.fr T fun b hb e=>a6 b hb e;have ak:=(a.out.sg.fr t fun b hb e=>a.out.d3 b e hb).fr T fun b hb e=>a.out.d2 (by rw [hb,e]);have al:∀ b,(Value.slice z C A).ownBlock=some b->gv.ownBlock≠some b:=fun b hb hg=>(R b hb).elim (fun h=>a.out.d3 b h hg) fun h=>by have:=a.out.sg.lt b hg;omega
     have P:Hid (SeenR (Y.setCell ⟨x,0,none⟩ (.slice z C A)) x (.slice z C A) gv (all++E) got rev ended):=H_ ⟨L,an,ak,fun e=>a6 x e rfl,a.out.d2,al⟩;have a4:∀ b,(Value.slice aa all.length ac).ownBlock=some b->X b:=fun b hb=>(J.out b).2 (.inr (.inl hb));have aw:Hid (Fr X w5 (Y.setCell ⟨x,0,none⟩ (.slice z C A))):=H_ ((t.mono fun b _ hb=>a4 b hb).trans T fun b _ hb=>(J.out b).2 (.inl hb))
     have ax:Hid (∀ b,seenF x (.slice z C A) gv b->X b\/w5.heap.size<=b):=H_ fun b hb=>by
      rcases hb with h | h | h
      · exact .inl ((J.out b).2 (.inl h))
      · exact (R b h).imp (a4 b) fun h=>h
      exact .inl ((J.out b).2 (.inr (.inr h)))
     clear K L T a6 an ak al a4 am R t y0 z0 aO x0 lx aG;generalize Y.setCell ⟨x,0,none⟩ (.slice z C A)=W7 at *;have v4:W7.cell? ⟨x,4,none⟩=some (.bool false):=cellAt P.out.obj 4 rfl;have f4:W7.frozen? ⟨x,4,none⟩=false:=(by unfold World.frozen?;rw [P.out.obj];simp);have bl:=zad P.out.obj;go_wp2;obtain ⟨aH,aD⟩:=P.out.put 4 (.bool false) (rev':=rev) (ended':=ended) rfl;have aI:X x:=(J.out x).2 (.inl rfl);have bi:=ae.out.size;have ag:Fr X w4 (W7.setCell ⟨x,4,none⟩ (.bool false)):=((ae.out.mono fun _ _ h=>h.elim).trans aw.out fun _ _ h=>h).trans aD fun b _ e=>by have e':b=x:=e;rw [e'];exact aI
     have ah:∀ b,seenF x (.slice z C A) gv b->X b\/w4.heap.size<=b:=fun b hb=>(ax.out b hb).imp (fun h=>h) fun h=>by omega
     have bh:=O.out.size;exact bodyPost_end (results_none rfl _ _ _) rfl ⟨rfl,B4,seenF x (.slice z C A) gv,j.out.fr hT ag fun b hb hx=>N.out b hx hb,(by rw [<-i.out];exact ⟨_,_,aH,fun b=>Iff.rfl⟩),O.out.trans ag fun b _ hb=>.inr hb,a2.out,fun b hb=>(ah b hb).imp (fun h=>h) fun h=>by omega,fun b hb hx=>(ah b hb).elim (fun h=>N.out b h hx) fun h=>by have:=j.out.lt hT b hx;omega⟩
   rw [if_neg hup] at i
   have ao:¬ M.rev > D.rev:=hup;go_wp2_with (go_at_call 40;(with_reducible refine (I.out _ _ _ j.out).mono ?_);rintro e aQ ⟨rfl,rfl⟩)
   first | exact bodyPost_ret (results_none rfl _ _ _) rfl ⟨rfl,B4,X,j.out,(by rw [<-i.out];exact Q.out),O.out,a2.out,fun _ h=>.inl h,N.out⟩ | exact bodyPost_end (results_none rfl _ _ _) rfl ⟨rfl,B4,X,j.out,(by rw [<-i.out];exact Q.out),O.out,a2.out,fun _ h=>.inl h,N.out⟩
 simp only [if_neg k3,if_neg k2]
 have aM:kk > 2:=(by omega);go_enter Tryz.func22,Tryz.ntmps22;go_upto_region 1 with fail;generalize w.alloc (.cells (actC q).toArray 31)=W1 at *;have lb:=zad d.out
 go_upto_region 3 with (first
  | (with_reducible show wpList _ _ _ ({ dst:=some 11,op:=_,type:=_,pos:=_,after:=_,guard:=_ } :: _) _ _
     refine zam rfl 31 _ rfl w.heap.size 0 rfl (actC q) (ActAt.of d.out).all row31 (info31l q) ?_)
  | (go_at_call 20;(with_reducible refine (u.out _).mono ?_);rintro e w2 ⟨rfl,g⟩))
 have l:=H_ (g.heap d.out fun h=>h);have c:=H_ (G.out.trans0 g);have ap:=zad l.out;clear g d G lb
 go_wp2_with (first
  | (with_reducible show wpList _ _ _ ({ dst:=some 16,op:=_,type:=_,pos:=_,after:=_,guard:=_ } :: _) _ _
     refine zam rfl 31 _ rfl w.heap.size 0 rfl (actC q) (ActAt.of l.out).all row31 (info31l q) ?_)
  | (go_at_call 20;(with_reducible refine (u.out _).mono ?_);rintro e w3 ⟨rfl,y⟩))
 first | exact bodyPost_ret (results_none rfl _ _ _) rfl ⟨rfl,B,X,o.out _ (c.out.trans0 y)⟩ | exact bodyPost_end (results_none rfl _ _ _) rfl ⟨rfl,B,X,o.out _ (c.out.trans0 y)⟩
end Go.Proofs.YtdgkdfmfoonbpaaGreat