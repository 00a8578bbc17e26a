/- Own lemmas. -/
import Derived.Test.YtdgkdfmfoonbpaaGreatQ38
namespace Go.Proofs.YtdgkdfmfoonbpaaGreat
open Go Go.Proofs Go.RowKit
set_option maxRecDepth 100000
set_option maxHeartbeats 16000000
theorem zhw {P:Program} {ops:Array Oper} {rest:List Oper} {op:Oper} {a:Act} {w:World} {Q:Exit->Act->World->Prop} (hgd:op.guard=none) (hd:op.dst=none) (ty:TypeId) (x y:Operand) (ho:op.op=.store ty x y)
 (b o:Nat) (cs:List Value) (hx:a.eval x=.pointer (some ⟨b,o,none⟩)) (hy:a.eval y=.agg cs.toArray) (ht:w.there b o cs.length) (hi:(P.info? ty).map (·.size)=some cs.length) (h1:cs.all (·.oneCell')=true)
 (h:wpList P ops Q rest a (w.setCells b o cs)):wpList P ops Q (op :: rest) a w:=by
 have c:a.put op.dst undef=a:=by rw [hd];rfl
 refine wpList_store_mid hgd ty x y ho b o cs.toArray hx hy (by simpa using ht) (by simpa using hi) (by simpa using h1) ?_;rw [c];exact h
theorem built72 (k:Int) (kv:Kv):Tryz.prog.built 72 [(0,.int .i64 k),(1,.agg (kvC kv).toArray)]=some (evC ⟨k,kv,kv0⟩).toArray:=by
 obtain ⟨a,b,c,d,e,f⟩:=kv
 kernel_rfl
theorem zkk {ops:Array Oper} {rest:List Oper} {o:Oper} {a:Act} {w:World} {Q:Exit->Act->World->Prop} (hg:o.guard=none) (x y:Operand) (ho:o.op=.build 72 #[(0,x),(1,y)]) (k:Int) (kv:Kv) (hx:a.eval x=.int .i64 k) (hy:a.eval y=.agg (kvC kv).toArray)
 (h:wpList Tryz.prog ops Q rest (a.put o.dst (.agg (evC ⟨k,kv,kv0⟩).toArray)) w):wpList Tryz.prog ops Q (o :: rest) a w:=by
 have e:(#[((0:Nat),x),(1,y)].map fun (i,x)=>(i,a.eval x)).toList = [(0,.int .i64 k),(1,Value.agg (kvC kv).toArray)]:=by simp [hx,hy]
 refine wpList_build hg 72 #[(0,x),(1,y)] ho ?_ ?_
 · rw [e,built72];rfl
 rw [e,built72];exact h
theorem info70l (x:Kv):(Tryz.prog.info? 70).map (·.size)=some (kvC x).length:=by rw [zah];kernel_rfl
theorem row70:(Tryz.prog.underlying 70).map TypeDesc.isRow=some true:=by kernel_rfl
theorem zyw (x:Kv):(kvC x).all (·.oneCell')=true:=by
 obtain ⟨a,b,c,d,e,f⟩:=x
 rfl
structure EvAt (W:World) (b:Nat) (x:Ev):Prop where
 all:W.rangeAt b 0 (evC x)
 kv:W.rangeAt b 1 (kvC x.kv)
 prev:W.rangeAt b 7 (kvC x.prev)
 kind:W.cell? ⟨b,0,none⟩=some (.int .i64 x.kind)
 key:W.cell? ⟨b,1,none⟩=some (.string x.kv.key)
 mod:W.cell? ⟨b,4,none⟩=some (.int .i64 x.kv.mod)
theorem EvAt.of {W:World} {b:Nat} {x:Ev} {t:TypeId} (h:W.heap[b]?=some (.cells (evC x).toArray t (0,0))):EvAt W b x :=
 ⟨zce h 0 13,zce h 1 6,zce h 7 6,cellAt h 0 rfl,cellAt h 1 rfl,cellAt h 4 rfl⟩
theorem zmj {w:World} {b:Nat} {cs:List Value} {t:TypeId} (h:w.heap[b]?=some (.cells cs.toArray t (0,0))) (o n:Nat) (hn:o+n<=cs.length):w.there b o n:=by
 intro j a;unfold World.cell? World.frozen?;simp only [h,Option.isSome_none,Bool.false_eq_true,if_false];refine ⟨?_,by simp⟩;rw [List.getElem?_toArray,List.getElem?_eq_getElem (by omega)]
 rfl
theorem zox {w:World} {b o:Nat} {l1 l2:List Value} (h1:w.rangeAt b o l1) (h2:w.rangeAt b (o+l1.length) l2):w.rangeAt b o (l1++l2):=by
 intro j v a;by_cases hj:j<l1.length
 · exact h1 j v (by rwa [List.getElem?_append_left hj] at a)
 have:=h2 (j-l1.length) v (by rwa [List.getElem?_append_right (by omega)] at a)
 rwa [show o+l1.length+(j-l1.length)=o+j by omega] at this
theorem zvr {w:World} {b:Nat} {k:Int} {kv p:Kv} {t:TypeId} (h:w.heap[b]?=some (.cells (evC ⟨k,kv,kv0⟩).toArray t (0,0))):(w.setCells b 7 (kvC p)).rangeAt b 0 (evC ⟨k,kv,p⟩):=by
 have a:w.rangeAt b 0 (.int .i64 k :: kvC kv):=zce h 0 7;exact zox (l1:=.int .i64 k :: kvC kv) (World.rangeAt_setCells_apart a b 7 (kvC p) (.inr (.inl (Nat.le_refl 7)))) (World.rangeAt_setCells_same w b 7 (kvC p) (zmj h 7 6 (Nat.le_refl 13)))
theorem Fr.setCells {S:Nat->Prop} {a:World} {b:Nat} (hb:S b\/a.heap.size<=b) (vs:List Value):∀ {w:World} (o:Nat),Fr S a w->Fr S a (w.setCells b o vs):=by
 induction vs with
 | nil=>exact fun _ h=>h
 | cons v vs ih=>exact fun o h=>ih (o+1) (h.setCell (p:=⟨b,o,none⟩) hb v)
theorem zkn (b:Nat) (vs:List Value):∀ (w:World) (o:Nat),(w.setCells b o vs).heap.size=w.heap.size:=by
 induction vs with
 | nil=>intro w o;rfl
 | cons v vs ih=>intro w o;exact (ih _ _).trans (by simp [World.setCell])
theorem zmu (w:World) (t:Wt):Calls Tryz.prog 24 #[.agg (wtC t).toArray] w fun e w'=>e=.returned (.agg (wtC t).toArray)/\Fr No w w':=by
 obtain ⟨a,b,c,d,f,g⟩:=t;unfold wtC;dsimp only;go_enter Tryz.func24,Tryz.ntmps24;go_wp2;exact bodyPost_ret (results_cell_row rfl _ _ (w.heap.size+1) 61 _ (0,0) _ rfl (zad _ _ _ (by simp)) Tryz.underlying61 rfl (by kernel_rfl)) rfl ⟨rfl,((Fr.refl No w).alloc _).alloc _⟩
def outW (t:Wt) (x:Ev):Bool:=decide (x.kv.mod<t.frm) || !inB x.kv.key t.key t.end_
def kindW (t:Wt) (x:Ev):Bool:=(decide (x.kind=1)&&t.np)||(decide (x.kind=2)&&t.nd)
theorem zun (t:Wt) (x:Ev):wantB t x = !(outW t x||kindW t x):=by
 unfold wantB outW kindW;simp only [Bool.or_assoc]
theorem zgc (w:World) (t:Wt) (v:Value) (l:List Ev) (hv:SlR w 13 evC v l) (hl:l.length<=400000000) :
 Calls Tryz.prog 23 #[.agg (wtC t).toArray,v] w fun e w'=>∃ v',e=.returned v'/\SlF w' 72 13 evC v' (wantsW t l)/\Fr No w w'/\(∀ b,v'.ownBlock=some b->w.heap.size<=b):=by
 obtain ⟨a,cap,rfl,h1,h2,h3⟩:=hv.shape;obtain ⟨i0,X,Z,a0,a1⟩:=info_parts info72;have a4:=H_ (zad w (.cells (wtC t).toArray 61) _ rfl);have z:Hid (Fr No w (w.alloc (.cells (wtC t).toArray 61))):=H_ ((Fr.refl No w).alloc _);have HV:=H_ hv;have H3:=H_ h3;unfold maxLen at h2;clear hv h3;go_enter Tryz.func23,Tryz.ntmps23;go_upto_region 1 with fail;generalize w.alloc (.cells (wtC t).toArray 61)=I at *;go_wp2_with fail
 go_loopg [5,6] l.length (fun g s5 s6 wr=>∃ (i:Nat) (O:List Ev),s6=.int .i64 i/\i+g=l.length/\Hid (O=wantsW t (l.take i))/\Hid (SlF wr 72 13 evC s5 O)/\Hid (Fr No I wr)/\Hid (∀ b,s5.ownBlock=some b->I.heap.size<=b))
 case atStart=>exact ⟨0,[],rfl,by omega,H_ (by simp [wantsW]),H_ (SlF.nil _ _ _ _),H_ (Fr.refl _ _),H_ (by simp [Value.ownBlock])⟩
 case round =>
  obtain ⟨i,O,rfl,hi,u,H,r,P⟩:=hrel
  cases gk with
  | zero =>
    have ae:¬ (i:Int)<(l.length:Int):=(by omega);have ag:l.take i=l:=List.take_of_length_le (by omega);rw [ag] at u;go_wp2;go_ret;exact ⟨_,rfl,by rw [<-u.out];exact H.out,z.out.trans0 r.out,fun b hb=>nT_ z.out.size (P.out b hb)⟩
  | succ g =>
    have ae:(i:Int)<(l.length:Int):=(by omega);have aE:IntKind.i64.wrap ((i:Int)+1)=i+1:=(by rw [IntKind.wrap_i64];omega);obtain ⟨gb,og,rfl⟩:=H3.out (by omega);obtain ⟨x,hx⟩:∃ x,l[i]?=some x:=⟨_,gG_ (by omega)⟩;have E:=HV.out.fr0 (z.out.trans0 r.out);have RG:=H_ (E.rangeAt zaa i hx);have lg:gb<wr.heap.size:=gB_ _ _ (E.cell0 zaa i hx rfl);have c:=H_ (zia t hx);have F:=zun t x;have o:Hid (O.length<=400000000):=H_ (by rw [u.out];exact nT_ (zcf _ _) (nT_ (List.length_take_le _ _) (by omega)));have n:=H_ (zad wr (.cells (evC x).toArray 72) _ rfl);have d:Hid (Fr No wr (wr.alloc (.cells (evC x).toArray 72))):=H_ ((Fr.refl No wr).alloc _);clear hx E
    go_upto_region 6 with (first
     | (with_reducible show wpList _ _ _ ({ dst:=some 18,op:=_,type:=_,pos:=_,after:=_,guard:=_ } :: _) _ _
        refine zax rfl 72 _ rfl gb (og+i * 13) rfl (evC x) RG.out row72 (info72l x) ?_)
     | (with_reducible show wpList _ _ _ ({ dst:=none,op:=_,type:=_,pos:=_,after:=_,guard:=_ } :: _) _ _
        refine zbl rfl rfl 72 _ _ rfl _ (evC x) rfl rfl (info72l x) (by rw [zaa];rfl) (zhu x) ?_))
    generalize V:wr.heap.size=J at *;generalize wr.alloc (.cells (evC x).toArray 72)=s at *;clear RG;have q:=H_ ((r.out.trans0 d.out).heap a4.out fun h=>h);have L:=H_ (EvAt.of n.out);have e0:=L.out.kind;have e1:=L.out.key;have e4:=L.out.mod;have t0:s.cell? ⟨w.heap.size,0,none⟩=some (.string t.key):=cellAt q.out 0 rfl;have t1:s.cell? ⟨w.heap.size,1,none⟩=some (.string t.end_):=cellAt q.out 1 rfl;have t2:s.cell? ⟨w.heap.size,2,none⟩=some (.int .i64 t.frm):=cellAt q.out 2 rfl;have t3:s.cell? ⟨w.heap.size,3,none⟩=some (.bool t.np):=cellAt q.out 3 rfl;have t4:s.cell? ⟨w.heap.size,4,none⟩=some (.bool t.nd):=cellAt q.out 4 rfl;have lb:=zab n.out;have lx:=zab q.out;have N:=H_ fun W=>zow W x.kv.key t.key t.end_
    go_cut [35] (fun s35 wx=>s35=.bool (outW t x)/\Hid (s=wx))
    case first =>
     as_aux_lemma =>
     by_cases hm:x.kv.mod<t.frm
     · go_wp2
       go_meet
       case rel=>exact ⟨by unfold outW;rw [dT_ hm];rfl,H_ rfl⟩
     have K:outW t x = !inB x.kv.key t.key t.end_:=by unfold outW;rw [dF_ hm];rfl
     have a8:=H_ K;clear K;go_wp2_with (go_at_call 50;(with_reducible refine (N.out _).mono ?_);rintro e w5 ⟨rfl,rfl⟩);go_meet
     case rel=>exact ⟨by rw [a8.out],H_ rfl⟩
    case rest =>
    obtain ⟨rfl,T⟩:=hcut;obtain rfl:=T.out;clear T N
    cases K:outW t x with
    | true =>
      have Y:wantB t x=false:=(by rw [F,K];rfl);rw [Y,if_neg (by decide)] at c;go_wp2_with fail;go_roundg g
      case rel=>exact ⟨i+1,O,by go_num,by omega,H_ (by rw [c.out,u.out]),H_ (H.out.fr0 d.out),H_ (r.out.trans0 d.out),P⟩
      case measure=>omega
    | false =>
      go_upto_region 7 with fail
      go_cut [51] (fun s51 wx=>s51=.bool (kindW t x)/\Hid (s=wx))
      case first =>
       as_aux_lemma =>
       by_cases k1:x.kind=1
       · have k:kindW t x=t.np:=by unfold kindW;rw [dT_ k1,dF_ (show ¬ x.kind=2 by omega)];simp
         have G:=H_ k;rw [k1] at e0;clear k
         cases hnp:t.np with
         | true =>
           rw [hnp] at t3;go_wp2;go_meet
           case rel=>exact ⟨by rw [G.out,hnp],H_ rfl⟩
         | false =>
           rw [hnp] at t3;go_wp2;go_meet
           case rel=>exact ⟨by rw [G.out,hnp],H_ rfl⟩
       by_cases k2:x.kind=2
       · have k:kindW t x=t.nd:=by unfold kindW;rw [dF_ k1,dT_ k2];simp
         have G:=H_ k;rw [k2] at e0;clear k;go_wp2;go_meet
         case rel=>exact ⟨by rw [G.out],H_ rfl⟩
       have k:kindW t x=false:=by unfold kindW;rw [dF_ k1,dF_ k2];simp
       have G:=H_ k;clear k;go_wp2;go_meet
       case rel=>exact ⟨by rw [G.out],H_ rfl⟩
      case rest =>
      obtain ⟨rfl,T⟩:=hcut;obtain rfl:=T.out;clear T
      cases k:kindW t x with
      | true =>
        have Y:wantB t x=false:=(by rw [F,K,k];rfl);rw [Y,if_neg (by decide)] at c;go_wp2_with fail;go_roundg g
        case rel=>exact ⟨i+1,O,by go_num,by omega,H_ (by rw [c.out,u.out]),H_ (H.out.fr0 d.out),H_ (r.out.trans0 d.out),P⟩
        case measure=>omega
      | false =>
        have Y:wantB t x=true:=(by rw [F,K,k];rfl);rw [Y,if_pos rfl] at c;clear t0 t1 t2 t3 t4 e1 e4;have f:=H_ (zad s (.cells (evC ⟨x.kind,x.kv,kv0⟩).toArray 72) _ rfl);have j:Hid (Fr No s (s.alloc (.cells (evC ⟨x.kind,x.kv,kv0⟩).toArray 72))):=H_ ((Fr.refl No s).alloc _)
        go_upto_region 9 with (first
         | (with_reducible show wpList _ _ _ ({ dst:=some 55,op:=_,type:=_,pos:=_,after:=_,guard:=_ } :: _) _ _
            refine zax rfl 70 _ rfl J 1 rfl (kvC x.kv) L.out.kv row70 (info70l x.kv) ?_)
         | (with_reducible show wpList _ _ _ ({ dst:=some 56,op:=_,type:=_,pos:=_,after:=_,guard:=_ } :: _) _ _
            refine zkk rfl _ _ rfl x.kind x.kv rfl rfl ?_)
         | (with_reducible show wpList _ _ _ ({ dst:=none,op:=_,type:=_,pos:=_,after:=_,guard:=_ } :: _) _ _
            refine zbl rfl rfl 72 _ _ rfl _ (evC ⟨x.kind,x.kv,kv0⟩) rfl rfl (info72l _) (by rw [zaa];rfl) (zhu _) ?_))
        generalize aC:s.heap.size=b2 at *;generalize s.alloc (.cells (evC ⟨x.kind,x.kv,kv0⟩).toArray 72)=m at *;have A:=H_ (j.out.heap q.out fun h=>h);have EB:=H_ (EvAt.of (j.out.heap n.out fun h=>h));have t5:m.cell? ⟨w.heap.size,5,none⟩=some (.bool t.prev):=cellAt A.out 5 rfl;have aj:=zab A.out;have a2:=zab f.out;have ai:J<m.heap.size:=(by have:=j.out.size;omega);have aD:J<b2:=(by omega);have HG:=H_ (r.out.trans0 (d.out.trans0 j.out));have a7:Hid (∀ b,u5.ownBlock=some b->b<J):=H_ fun b hb=>by rw [<-V];exact H.out.lt b hb
        have M:Hid (I.heap.size<=J):=H_ (by rw [<-V];exact r.out.size);have Q:=H_ (H.out.fr0 (d.out.trans0 j.out));clear L e0 lb lx q A n H r
        cases hp:t.prev with
        | false =>
          have hh:handE t x=⟨x.kind,x.kv,kv0⟩:=(by unfold handE;rw [hp];rfl);rw [hh] at c;rw [hp] at t5
          go_wp2_with (first
           | (with_reducible show wpList _ _ _ ({ dst:=some 63,op:=_,type:=_,pos:=_,after:=_,guard:=_ } :: _) _ _
              refine zax rfl 72 _ rfl b2 0 rfl (evC ⟨x.kind,x.kv,kv0⟩) (EvAt.of f.out).all row72 (info72l _) ?_)
           | (with_reducible show wpList _ _ _ ({ dst:=some 64,op:=_,type:=_,pos:=_,after:=_,guard:=_ } :: _) _ _
              refine zga rfl _ rfl ⟨x.kind,x.kv,kv0⟩ rfl ?_)
           | (with_reducible show wpList _ _ _ ({ dst:=some 65,op:=_,type:=_,pos:=_,after:=_,guard:=_ } :: _) _ _
              refine zbd rfl _ _ 41 rfl 72 i0 _ 13 136 Tryz.underlying41 X Z a0 a1 rfl (by decide) _ O rfl (Q.out.alloc _) I P.out (HG.out.alloc _) m.heap.size 1 ⟨x.kind,x.kv,kv0⟩ rfl (zav m (evC ⟨x.kind,x.kv,kv0⟩) 72 (0,0)) rfl (zhu _) (by have:=o.out;unfold maxLen;omega) (by have:=o.out;omega) ?_;rintro g1 o1 U w3 C ab B af))
          go_roundg g
          case rel=>exact ⟨i+1,O++[⟨x.kind,x.kv,kv0⟩],by go_num,by omega,H_ (by rw [c.out,u.out]),H_ (by simpa using C),H_ B,H_ (by intro y hy;simp [Value.ownBlock] at hy;omega)⟩
          case measure=>omega
        | true =>
          have hh:handE t x=x:=(by unfold handE;rw [hp];rfl);rw [hh] at c;rw [hp] at t5;have R:=H_ (zmj f.out 7 6 (Nat.le_refl 13))
          go_upto_region 11 with (first
           | (with_reducible show wpList _ _ _ ({ dst:=some 60,op:=_,type:=_,pos:=_,after:=_,guard:=_ } :: _) _ _
              refine zax rfl 70 _ rfl J 7 rfl (kvC x.prev) EB.out.prev row70 (info70l x.prev) ?_)
           | (with_reducible show wpList _ _ _ ({ dst:=none,op:=_,type:=_,pos:=_,after:=_,guard:=_ } :: _) _ _
              refine zhw rfl rfl 70 _ _ rfl b2 7 (kvC x.prev) rfl rfl R.out (info70l x.prev) (zyw x.prev) ?_))
          have D:Fr (fun b=>b=b2) m (m.setCells b2 7 (kvC x.prev)):=Fr.setCells (S:=fun b=>b=b2) (.inl rfl) _ _ (Fr.refl _ m);have a9:=H_ (zvr (p:=x.prev) f.out);have a6:=H_ (Q.out.fr D fun b hb e=>by have e':b=b2:=e;have:=a7.out b hb;omega);have a5:Hid (Fr No I (m.setCells b2 7 (kvC x.prev))):=H_ (HG.out.trans D fun b hb e=>by have e':b=b2:=e;have:=M.out;omega);have aF:b2<(m.setCells b2 7 (kvC x.prev)).heap.size:=(by rw [zkn];exact a2);clear f R EB t5 aj a2 ai D;generalize m.setCells b2 7 (kvC x.prev)=W3 at *
          go_wp2_with (first
           | (with_reducible show wpList _ _ _ ({ dst:=some 63,op:=_,type:=_,pos:=_,after:=_,guard:=_ } :: _) _ _
              refine zax rfl 72 _ rfl b2 0 rfl (evC x) a9.out row72 (info72l _) ?_)
           | (with_reducible show wpList _ _ _ ({ dst:=some 64,op:=_,type:=_,pos:=_,after:=_,guard:=_ } :: _) _ _
              refine zga rfl _ rfl x rfl ?_)
           | (with_reducible show wpList _ _ _ ({ dst:=some 65,op:=_,type:=_,pos:=_,after:=_,guard:=_ } :: _) _ _
              refine zbd rfl _ _ 41 rfl 72 i0 _ 13 136 Tryz.underlying41 X Z a0 a1 rfl (by decide) _ O rfl (a6.out.alloc _) I P.out (a5.out.alloc _) W3.heap.size 1 x rfl (zav W3 (evC x) 72 (0,0)) rfl (zhu _) (by have:=o.out;unfold maxLen;omega) (by have:=o.out;omega) ?_;rintro g1 o1 U w3 C ab B af))
          go_roundg g
          case rel=>exact ⟨i+1,O++[x],by go_num,by omega,H_ (by rw [c.out,u.out]),H_ (by simpa using C),H_ B,H_ (by intro y hy;simp [Value.ownBlock] at hy;omega)⟩
          case measure=>omega
theorem zjb (D:Doc) (r:Int):(if zbb D r r=0 then sinceL D r r else [])=evsAt D r:=by
 unfold evsAt;by_cases h:zbb D r r=0
 · rw [if_pos h,if_pos h]
   unfold sinceL;refine List.filter_congr fun e _=>?_;unfold sinceB;rw [Bool.eq_iff_iff];simp;omega
 rw [if_neg h,if_neg h]
theorem zuz {α:Type} {f:α->List Value} {P:Program} {ops:Array Oper} {o:Oper} {a:Act} {w:World} {K:Act->World->Prop} {Q:Exit->Act->World->Prop} {E:Prop} (hgd:o.guard=none) (s x:Operand) (t:TypeId)
 (ho:o.op=.call { callee:=.builtin .append,args:=#[s,x],argTypes:=#[t,t] })
 (e:TypeId) (i:TypeInfo) (z:Value) (sz bytes:Nat) (ht:P.underlying t=some (.slice e)) (hi:P.info? e=some i) (hz:i.zero=some z) (hsize:i.size=sz) (hby:i.bytes=bytes) (hzs:z.cells.size=sz) (hsz:0<sz)
 (hf:∀ x,(f x).length=sz) (v xv:Value) (L M:List α) (h1:∀ x∈M,∀ u∈f x,u.oneCell'=true) (hs:a.eval s=v) (hx:a.eval x=xv) (hv:SlF w e sz f v L) (hxv:SlF w e sz f xv M)
 (h63:L.length+M.length<=maxLen) (hbytes:(L.length+M.length) * bytes<=140737488355328)
 (h:∀ (b:Option Addr) (k cap:Nat) (w':World),SlF w' e sz f (.slice b k cap) (L++M)->(∀ j,(Value.slice b k cap).ownBlock=some j->v.ownBlock=some j\/w.heap.size<=j)->Fr (fun b=>v.ownBlock=some b) w w'->K (a.put o.dst (.slice b k cap)) w') :
 if Region.wanted o (yielded ops a.tmps)=true then Oper.wp P o a w K Q else E:=by
 have m:Region.wanted o (yielded ops a.tmps)=true:=by simp [Region.wanted,hgd]
 rw [if_pos m];subst hsize;subst hby;obtain ⟨v',w',l,c,d,g⟩:=zfc (P:=P) (f:=f) w t o.type e i z ht hi hz hzs hsz hf v xv L M h1 hv hxv h63 hbytes;obtain ⟨b,cap,rfl,_⟩:=c.shape;unfold Oper.wp execOp;simp only [ho,resolve,invoke,builtin,Sem.run_bind,Sem.run_pure,Result.andThen_ok,List.map_toArray,List.map_cons,List.map_nil,hs,hx,l];exact h b _ cap w' c g d
theorem SlF.ne_type {α:Type} {w:World} {e sz:Nat} {f:α->List Value} {v:Value} {L:List α} (h:SlF w e sz f v L) {b:Nat} {cs:Array Value} {t:TypeId} {fr:Nat×Nat} (hb:w.heap[b]?=some (.cells cs t fr)) (ht:t≠e):v.ownBlock≠some b:=by
 intro a;obtain ⟨_,h | ⟨g,o,c,d,j,i,_⟩⟩:=h
 · rw [h.1] at a
   simp [Value.ownBlock] at a
 rw [j] at a
 have e:g=b:=(by simpa [Value.ownBlock] using a);subst e;rw [i] at hb;simp only [Option.some.injEq,Obj.cells.injEq] at hb;exact ht hb.2.1.symm
theorem SlF.typed {α:Type} {w:World} {e sz:Nat} {f:α->List Value} {v:Value} {L:List α} (h:SlF w e sz f v L) {b:Nat} (hv:v.ownBlock=some b):∃ cur,w.heap[b]?=some (.cells cur e (0,0)):=by
 obtain ⟨_,h | ⟨g,o,c,cur,d,a,_⟩⟩:=h
 · rw [h.1] at hv
   simp [Value.ownBlock] at hv
 rw [d] at hv
 have e:g=b:=(by simpa [Value.ownBlock] using hv);subst e;exact ⟨cur,a⟩
theorem zzal (D:Doc) (r:Int) {L:List (Int×Sm)} {i:Nat} {p:Int×Sm} (hp:L[i]?=some p) (hs:lookS D r p.2=p.2):midH D r L (i+1)=midH D r L i:=by
 have a:=zrj (D:=D) (r:=r) (L:=L) (i:=i);rw [hp] at a;obtain ⟨h,e⟩:=gS_ a;rw [<-zrg D r hp,hs];have:(p.1,p.2)=(midH D r L i)[i]:=e.symm;rw [this,List.set_getElem_self]
theorem zou {w:World} {x:Nat} {H:Hb} {G:Nat->Prop} (h:RhAt w x H G) (hB:HbB H) (hlen:H.L.length<=100000) (D:Doc) (a1 a2:Option Addr) (n1 k1 k2:Nat) (hD:SlR w 13 evC (.slice a2 D.events.length k2) D.events)
 (hDG:0<D.events.length->∀ b,(Value.slice a2 D.events.length k2).ownBlock=some b->¬ G b) (hl:D.events.length<=100000000) (hf0:0<=H.fed) (hr:D.rev<=4000000) :
 Calls Tryz.prog 31 #[.pointer (some ⟨x,0,none⟩),docV D (.slice a1 n1 k1) (.slice a2 D.events.length k2)] w fun e w'=>e=.returned (.tuple #[])/\RhTo w w' x (feedH D H) G:=by
 have bR:=fun W (hW:Fr G w W) r=>zfg W D a1 a2 n1 k1 k2 (hD.frp hW hDG) hl r r;have cm:=H_ bR;have bN:=zad w (Obj.cells #[.int .i64 D.rev,.int .i64 D.mark,.slice a1 n1 k1,.slice a2 D.events.length k2] 76 (0,0)) _ rfl;have cj:=H_ bN;have cs:Hid (RhTo w (w.alloc (Obj.cells #[.int .i64 D.rev,.int .i64 D.mark,.slice a1 n1 k1,.slice a2 D.events.length k2] 76)) x H G):=H_ (by obtain ⟨v,P,a⟩:=h;exact a.to ((Fr.refl No w).alloc _));have aI:Hid (∀ b,G b->b<w.heap.size):=H_ h.lt;have ci:=H_ hB;have dA:x<w.heap.size:=by obtain ⟨v,P,a⟩:=h;exact a.lt x a.own.1
 clear bR hD hDG bN h hB;unfold docV at *;go_enter Tryz.func31,Tryz.ntmps31;go_upto_region 1 with fail
 go_loopg [4] (D.rev-H.fed).toNat (fun gg _ wr=>∃ (c:Hb),gg=(D.rev-c.fed).toNat/\0<=c.fed/\c.L.length<=100000/\Hid (HbB c)/\Hid (RhTo w wr x c G)/\Hid (feedH D c=feedH D H)/\Hid (wr.heap[w.heap.size]?=some (.cells #[.int .i64 D.rev,.int .i64 D.mark,.slice a1 n1 k1,.slice a2 D.events.length k2] 76 (0,0))))
 case atStart=>exact ⟨H,rfl,hf0,hlen,ci,cs,H_ rfl,cj⟩
 case round =>
  obtain ⟨c,ds,dr,cE,bf,bd,bi,HB⟩:=hrel;obtain ⟨⟨v,P,U⟩,hF⟩:=bd.out;have c0:wr.drew.cell? ⟨x,0,none⟩=some (.int .i64 c.fed):=cellAt U.obj 0 rfl;have lx:x<wr.drew.heap.size:=zab U.obj;have d0:wr.drew.cell? ⟨w.heap.size,0,none⟩=some (.int .i64 D.rev):=cellAt HB.out 0 rfl;have ld:w.heap.size<wr.drew.heap.size:=zab HB.out;have HR:=H_ U;have HF:=H_ hF;clear U hF;go_upto_region 1 with fail;refine zak (C:=fun W=>W=wr.drew) (by kernel_rfl) (by kernel_rfl) rfl ?_
  repeat (refine (wpQuiet_step (fun K hK=>?_):_)
          go_simp
          first
           | (refine hK _ ?_;clear hK K)
           | (apply Exists.intro
              refine ⟨fun W hW=>?_,hK _ ?_⟩
              (first
                | exact rfl
                | (subst hW;go_simp;exact rfl))
              clear hK K))
  refine (wpQuiet_nil ?_:_);intro w9 X;subst X;clear c0 d0 lx ld bd;have l:Hid (RhR wr.drew x v P c (growG G w wr.drew)):=H_ (HR.out.fr0 (Fr.refl No wr).drew:RhR wr.drew x v P c (growG G w wr));have aE:Hid (Fr G w wr.drew):=H_ HF.out.drew;have be:Hid (wr.drew.heap[w.heap.size]?=some (.cells #[.int .i64 D.rev,.int .i64 D.mark,.slice a1 n1 k1,.slice a2 D.events.length k2] 76 (0,0))):=HB;clear HR HF HB
  cases gk with
  | zero =>
    have cM:¬ c.fed<D.rev:=(by omega);go_wp2;refine bodyPost_end (results_none rfl _ _ _) rfl ⟨rfl,?_⟩;rw [<-bi.out,zke D c (by omega)];exact ⟨⟨v,P,l.out⟩,aE.out⟩
  | succ q =>
    have cM:c.fed<D.rev:=(by omega);generalize wr.drew=W0 at *;have c0:W0.cell? ⟨x,0,none⟩=some (.int .i64 c.fed):=cellAt l.out.obj 0 rfl;have f0:W0.frozen? ⟨x,0,none⟩=false:=(by unfold World.frozen?;rw [l.out.obj];rfl);have lx:=zab l.out.obj;have dy:IntKind.i64.wrap (c.fed+1)=c.fed+1:=(by rw [IntKind.wrap_i64];omega);go_upto_region 3 with fail;have u:Fr (fun y=>y=x) W0 (W0.setCell ⟨x,0,none⟩ (.int .i64 (c.fed+1))):=(Fr.refl (fun y=>y=x) W0).setCell (p:=⟨x,0,none⟩) (.inl rfl) _
    have bJ:RhTo W0 (W0.setCell ⟨x,0,none⟩ (.int .i64 (c.fed+1))) x ⟨c.fed+1,c.last,c.L⟩ (growG G w W0) :=
     l.out.make (u.mono fun y _ e=>by rw [e];exact l.out.own.1) (zac l.out.obj 0 _) (l.out.sl.fr u fun y n e=>l.out.own.2.1 (by rw [n];exact congrArg some e)) l.out.own.2.1 (fun b hb=>.inl (l.out.own.2.2 b hb)) l.out.map fun q hq=>⟨(l.out.buf q hq).1.fr u fun y n e=>((l.out.buf q hq).2 y n).2.1 e,fun y n=>⟨.inl ((l.out.buf q hq).2 y n).1,((l.out.buf q hq).2 y n).2⟩⟩
    have bH:(W0.setCell ⟨x,0,none⟩ (.int .i64 (c.fed+1))).heap[w.heap.size]?=some (.cells #[.int .i64 D.rev,.int .i64 D.mark,.slice a1 n1 k1,.slice a2 D.events.length k2] 76 (0,0)):=u.heap be.out fun e=>by omega
    have bs:Hid (RhTo w (W0.setCell ⟨x,0,none⟩ (.int .i64 (c.fed+1))) x ⟨c.fed+1,c.last,c.L⟩ G):=H_ (RhTo.trans ⟨⟨v,P,l.out⟩,aE.out⟩ bJ);have s:=H_ bH;generalize W0.setCell ⟨x,0,none⟩ (.int .i64 (c.fed+1))=W1 at *;clear c0 f0 lx u bJ bH l aE be;obtain ⟨⟨v1,P1,an⟩,aL⟩:=bs.out;have lx:=zab an.obj;have ld:=zab s.out;have q0:W1.cell? ⟨x,0,none⟩=some (.int .i64 (c.fed+1))/\W1.cell? ⟨w.heap.size,0,none⟩=some (.int .i64 D.rev)/\W1.cell? ⟨w.heap.size,1,none⟩=some (.int .i64 D.mark)/\W1.cell? ⟨w.heap.size,2,none⟩=some (.slice a1 n1 k1)/\W1.cell? ⟨w.heap.size,3,none⟩=some (.slice a2 D.events.length k2):=⟨cellAt an.obj 0 rfl,cellAt s.out 0 rfl,cellAt s.out 1 rfl,cellAt s.out 2 rfl,cellAt s.out 3 rfl⟩
    have q1:W1.drew.cell? ⟨x,0,none⟩=some (.int .i64 (c.fed+1))/\W1.drew.cell? ⟨w.heap.size,0,none⟩=some (.int .i64 D.rev)/\W1.drew.cell? ⟨w.heap.size,1,none⟩=some (.int .i64 D.mark)/\W1.drew.cell? ⟨w.heap.size,2,none⟩=some (.slice a1 n1 k1)/\W1.drew.cell? ⟨w.heap.size,3,none⟩=some (.slice a2 D.events.length k2):=q0;have ev:=cm.out W1.drew aL.drew (c.fed+1);rw [zjb] at ev
    have cK:(evsAt D (c.fed+1)).length<=400000000:=by
     unfold evsAt
     split
     · exact nT_ (List.length_filter_le _ _) (by omega)
     simp
    generalize bQ:zbb D (c.fed+1) (c.fed+1)=en at *;generalize hE:evsAt D (c.fed+1)=E at *;have EV:=H_ ev;have ck:=H_ bQ;have cl:=H_ hE;have bo:=H_ an;have aF:=H_ aL;clear ev bQ hE an aL
    go_region_held3 (fun W=>W.cell? ⟨x,0,none⟩=some (.int .i64 (c.fed+1))/\W.cell? ⟨w.heap.size,0,none⟩=some (.int .i64 D.rev)/\W.cell? ⟨w.heap.size,1,none⟩=some (.int .i64 D.mark)/\W.cell? ⟨w.heap.size,2,none⟩=some (.slice a1 n1 k1)/\W.cell? ⟨w.heap.size,3,none⟩=some (.slice a2 D.events.length k2))
     (first | with_reducible exact q0 | with_reducible exact q1 | with_reducible exact q2 | fail)
     (first | (go_at_call 61;(with_reducible refine EV.out.mono ?_);rintro e w1 ⟨la,lc,rfl,ar,V⟩;have q2:=(⟨V.cell0 q1.1,V.cell0 q1.2.1,V.cell0 q1.2.2.1,V.cell0 q1.2.2.2.1,V.cell0 q1.2.2.2.2⟩:w1.cell? ⟨x,0,none⟩=some (.int .i64 (c.fed+1))/\w1.cell? ⟨w.heap.size,0,none⟩=some (.int .i64 D.rev)/\w1.cell? ⟨w.heap.size,1,none⟩=some (.int .i64 D.mark)/\w1.cell? ⟨w.heap.size,2,none⟩=some (.slice a1 n1 k1)/\w1.cell? ⟨w.heap.size,3,none⟩=some (.slice a2 D.events.length k2))) | fail)
    have a3:Hid (Fr No W1 w1):=H_ ((Fr.refl No W1).drew.trans0 V);have bt:=H_ ar;clear ar V q0 q1 q2 lx ld EV;have bg:=H_ (a3.out.heap s.out fun h=>h);have F:Hid (RhR w1 x v1 P1 ⟨c.fed+1,c.last,c.L⟩ (growG G w w1)):=H_ ((bo.out.fr0 a3.out).more (fun b hb=>hb.imp (fun h=>h) fun h=>⟨h.1,nL_ h.2 a3.out.size⟩) fun b hb=>hb.elim (fun h=>by have:=aI.out b h;have:=aF.out.size;have:=a3.out.size;omega) fun h=>h.2);have cn:Hid (Fr G w w1):=H_ (aF.out.trans a3.out fun _ _ h=>h.elim);obtain ⟨va,f,rfl,ar,dv,aX⟩:=F.out.sl.shape;have cN:P1.length=c.L.length:=F.out.len;have aV:=F.out;rw [cN] at aV ar aX;clear F;have F:=H_ aV;clear aV;have ct:=H_ aX;clear bo aF a3 s bs aX;generalize cF:w1=W2 at *;clear cF;go_upto_region 5 with fail
    go_loopg [6] c.L.length (fun g s6 wx=>∃ (i:Nat),s6=.int .i64 i/\i+g=c.L.length/\Hid (∃ P2,RhR wx x (.slice va c.L.length f) P2 ⟨c.fed+1,c.last,midH D (c.fed+1) c.L i⟩ (growG G w wx))/\Hid (Fr (fun y=>(Value.slice va c.L.length f).ownBlock=some y) W2 wx))
    case atStart=>exact ⟨0,rfl,by omega,H_ (by rw [zng];exact ⟨P1,F.out⟩),H_ (Fr.refl _ W2)⟩
    case round =>
     obtain ⟨i,rfl,dt,cq,aa⟩:=hrel;obtain ⟨P2,U⟩:=cq.out
     have am:Fr G w wr:=cn.out.trans aa.out fun y n e=>by
      rcases F.out.own.2.2 y e with h | h
      · exact h
      omega
     have c2:wr.cell? ⟨x,2,none⟩=some (.slice va c.L.length f):=cellAt U.obj 2 rfl;have lx:=zab U.obj
     cases gk with
     | zero =>
       have cL:¬ (i:Int)<(c.L.length:Int):=(by omega);have ak:=H_ U;have aj:=H_ am;clear U am;go_wp2;go_roundg q
       case rel =>
        have hm:=zrk D (c.fed+1) c.L (i:=i) (by omega);have bK:=ak.out;rw [hm] at bK;refine ⟨feed1 D c,?_,?_,?_,H_ (bf.out.feed1 D),H_ ⟨⟨_,_,bK⟩,aj.out⟩,H_ (by rw [<-zkd D c (by omega)];exact bi.out),H_ (aa.out.heap bg.out fun e=>F.out.sl.ne_type bg.out (by decide) e)⟩
        · show q=(D.rev-(c.fed+1)).toNat
          omega
        · show 0<=c.fed+1
          omega
        show (c.L.map _).length<=100000
        rw [List.length_map];exact cE
       case measure=>omega
     | succ g =>
       have cL:(i:Int)<(c.L.length:Int):=(by omega);have aR:P2.length=c.L.length:=(by rw [U.len];exact zrh ..);obtain ⟨d,k,rfl⟩:=ct.out (by omega);obtain ⟨p,hx⟩:∃ p,P2[i]?=some p:=⟨_,gG_ (by omega)⟩
       have aM:c.L[i]?=some p.1:=by
        have h1:(P2.map (·.1))[i]?=some p.1:=(by rw [List.getElem?_map,hx];rfl);rw [U.map,zrj] at h1;exact h1
       have R:=U.sl;rw [<-aR] at R;have m:=R.toR zaj;have r0:wr.cell? ⟨d,k+i * 9,none⟩=some (.int .i64 p.1.1):=m.cell0 zaj i hx rfl;have r1:wr.cell? ⟨d,k+i * 9+1,none⟩=some (.string p.1.2.w.key):=m.of_add zaj i 1 hx rfl;have r2:wr.cell? ⟨d,k+i * 9+2,none⟩=some (.string p.1.2.w.end_):=m.of_add zaj i 2 hx rfl;have r3:wr.cell? ⟨d,k+i * 9+3,none⟩=some (.int .i64 p.1.2.w.frm):=m.of_add zaj i 3 hx rfl;have r4:wr.cell? ⟨d,k+i * 9+4,none⟩=some (.bool p.1.2.w.np):=m.of_add zaj i 4 hx rfl;have r5:wr.cell? ⟨d,k+i * 9+5,none⟩=some (.bool p.1.2.w.nd):=m.of_add zaj i 5 hx rfl;have r6:wr.cell? ⟨d,k+i * 9+6,none⟩=some (.bool p.1.2.w.prev):=m.of_add zaj i 6 hx rfl;have r7:wr.cell? ⟨d,k+i * 9+7,none⟩=some p.2:=m.of_add zaj i 7 hx rfl
       have r8:wr.cell? ⟨d,k+i * 9+8,none⟩=some (.int .i64 p.1.2.place):=m.of_add zaj i 8 hx rfl;have lf:=gB_ _ _ r0;obtain ⟨bb,bc,aO,dp,dq,cH⟩:=(U.buf p (gM_ hx)).1.shape;rw [aO] at r7;have cI:p.1.2.buf.length<=64:=bf.out _ (gM_ aM);have HX:=H_ hx;have bm:=H_ aM;have ak:=H_ U;have aj:=H_ am;have aC:=H_ aO;clear hx aM R m U am cH aO;go_upto_region 7 with fail;obtain ⟨b,bM⟩:∃ b,b=wr.heap.size:=⟨_,rfl⟩;have aB:=H_ bM;have bq:Hid (d<wr.heap.size):=H_ lf;clear bM
       go_cut [7] (fun s7 wx=>s7=.pointer (some ⟨b,0,none⟩)/\Hid (wx.heap[b]?=some (.cells (rsC p).toArray 130 (0,0)))/\Hid (Fr No wr wx))
       case first =>
        go_wp2;go_meet
        case rel=>exact ⟨by rw [aB.out],H_ (by unfold rsC smC;rw [aC.out,aB.out];exact zad wr _ _ rfl),H_ ((Fr.refl No wr).alloc _)⟩
       case rest =>
       obtain ⟨rfl,B,ai⟩:=hcut;generalize cO:wc=W3 at *;clear cO r0 r1 r2 r3 r4 r5 r6 r7 r8 lf c2 lx;have k1:W3.cell? ⟨b,1,none⟩=some (.string p.1.2.w.key):=cellAt B.out 1 rfl;have k2:W3.cell? ⟨b,2,none⟩=some (.string p.1.2.w.end_):=cellAt B.out 2 rfl;have k3:W3.cell? ⟨b,3,none⟩=some (.int .i64 p.1.2.w.frm):=cellAt B.out 3 rfl;have k4:W3.cell? ⟨b,4,none⟩=some (.bool p.1.2.w.np):=cellAt B.out 4 rfl;have k5:W3.cell? ⟨b,5,none⟩=some (.bool p.1.2.w.nd):=cellAt B.out 5 rfl;have k6:W3.cell? ⟨b,6,none⟩=some (.bool p.1.2.w.prev):=cellAt B.out 6 rfl;have lb:=zab B.out
       have aY:SlF wr 72 13 evC (.slice la E.length lc) E:=bt.out.fr aa.out fun y n e=>by
        obtain ⟨dj,h1⟩:=bt.out.typed n;exact F.out.sl.ne_type h1 (by decide) e
       have bT:=aY.fr0 ai.out;have M:=zgc W3 p.1.2.w (.slice la E.length lc) E (bT.toR zaa) cK;have aD:=H_ M;unfold wtC at M;have di:=H_ aY;clear aY bT
       apply_assumption
       go_upto_region 9 with (go_at_call 23;(with_reducible refine M.mono ?_);rintro e w4 ⟨vy,rfl,aZ,aP,c3⟩);have a0:Hid (Fr No wr w4):=H_ (ai.out.trans0 aP);have N:=H_ (aP.heap B.out fun h=>h);have bu:=H_ aZ;have dh:Hid (∀ y,vy.ownBlock=some y->wr.heap.size<=y):=H_ fun y n=>by have:=c3 y n;have:=ai.out.size;omega
       obtain ⟨ya,yc,rfl,dB,dC,cP⟩:=aZ.shape;have z:=H_ (ak.out.fr0 a0.out);clear aZ aP c3 cP k1 k2 k3 k4 k5 k6 lb M aD B ai ak;generalize cG:w4=I at *;clear cG;have n2:I.drew.cell? ⟨b,2+5,none⟩=some (.slice bb p.1.2.buf.length bc):=(by rw [<-aC.out];exact cellAt N.out 7 rfl);have n3:I.drew.cell? ⟨b,8,none⟩=some (.int .i64 p.1.2.place):=cellAt N.out 8 rfl;have lb:b<I.drew.heap.size:=zab N.out;have c0:I.drew.cell? ⟨x,0,none⟩=some (.int .i64 (c.fed+1)):=cellAt z.out.obj 0 rfl;have lx:x<I.drew.heap.size:=zab z.out.obj;have dw:=zcf p.1.2.w E;generalize c9:wantsW p.1.2.w E=WL at *;have bx:=H_ c9;clear c9;have dz:IntKind.i64.wrap ((p.1.2.buf.length:Int)+(WL.length:Int))=(p.1.2.buf.length:Int)+WL.length:=(by rw [IntKind.wrap_i64];omega)
       go_cut [77] (fun s77 wx=>s77=.bool (decide (p.1.2.place=c.fed+1/\en=0/\p.1.2.buf.length+WL.length<=64))/\Hid (I.drew=wx))
       case first =>
        rcases (show (p.1.2.place=c.fed+1/\en=0)\/(p.1.2.place=c.fed+1/\¬ en=0)\/¬ p.1.2.place=c.fed+1 by omega) with ⟨J,t⟩ | ⟨J,t⟩ | J
        · have cJ:(en==0)=true:=by simpa using t
          have a8:=H_ t;clear t;refine zak (C:=fun W=>W=I.drew) (by kernel_rfl) (by kernel_rfl) rfl ?_
          repeat (refine (wpQuiet_step (fun K hK=>?_):_)
                  go_simp
                  first
                   | (refine hK _ ?_;clear hK K)
                   | (apply Exists.intro
                      refine ⟨fun W hW=>?_,hK _ ?_⟩
                      (first
                        | exact rfl
                        | (subst hW;go_simp;exact rfl))
                      clear hK K))
          refine (wpQuiet_nil ?_:_);intro w9 X;subst X;go_wp2;go_meet
          case rel=>exact ⟨by congr 1;rw [Bool.eq_iff_iff];simp [J,a8.out] <;> omega,H_ rfl⟩
        · have cJ:(en==0)=false:=by simpa using t
          have a8:=H_ t;clear t;refine zak (C:=fun W=>W=I.drew) (by kernel_rfl) (by kernel_rfl) rfl ?_
          repeat (refine (wpQuiet_step (fun K hK=>?_):_)
                  go_simp
                  first
                   | (refine hK _ ?_;clear hK K)
                   | (apply Exists.intro
                      refine ⟨fun W hW=>?_,hK _ ?_⟩
                      (first
                        | exact rfl
                        | (subst hW;go_simp;exact rfl))
                      clear hK K))
          refine (wpQuiet_nil ?_:_);intro w9 X;subst X;go_wp2;go_meet
          case rel=>exact ⟨by congr 1;rw [Bool.eq_iff_iff];simp [J,a8.out],H_ rfl⟩
        refine zak (C:=fun W=>W=I.drew) (by kernel_rfl) (by kernel_rfl) rfl ?_
        repeat (refine (wpQuiet_step (fun K hK=>?_):_)
                go_simp
                first
                 | (refine hK _ ?_;clear hK K)
                 | (apply Exists.intro
                    refine ⟨fun W hW=>?_,hK _ ?_⟩
                    (first
                      | exact rfl
                      | (subst hW;go_simp;exact rfl))
                    clear hK K))
        refine (wpQuiet_nil ?_:_);intro w9 X;subst X;go_wp2;go_meet
        case rel=>exact ⟨by congr 1;rw [Bool.eq_iff_iff];simp [J],H_ rfl⟩
       case rest =>
       obtain ⟨rfl,HX⟩:=hcut;have ca:=HX.out;rw [<-ca];clear HX ca;have aS:=zwi ck.out cl.out p.1.2;rw [bx.out] at aS;have bl:=H_ aS;clear aS
       apply_assumption
       by_cases hc:p.1.2.place=c.fed+1/\en=0/\p.1.2.buf.length+WL.length<=64
       · obtain ⟨i0,bW,b0,b3,b4⟩:=info_parts info72
         obtain ⟨J,t,bO⟩:=hc;have av:Hid (SlF I.drew 72 13 evC (.slice bb p.1.2.buf.length bc) p.1.2.buf):=H_ (by rw [<-aC.out];exact (z.out.buf p (gM_ HX.out)).1);have bP:decide (p.1.2.place=c.fed+1/\en=0/\p.1.2.buf.length+WL.length<=64)=true:=dT_ ⟨J,t,bO⟩;have a8:=H_ t;clear t;have bh:=H_ J;clear J;rw [bP];have o:=H_ (z.out.fr0 (Fr.refl No I).drew);have a9:Hid (Fr No wr I.drew):=H_ a0.out.drew;have a7:Hid (I.drew.heap[b]?=some (.cells (rsC p).toArray 130 (0,0))):=N;have bv:Hid (SlF I.drew 72 13 evC (.slice ya WL.length yc) WL):=H_ (bx.out▸bu.out.drew);clear z a0 N bu;generalize I.drew=W5 at *
         go_upto_region 12 with (at_builtin;refine zbv rfl _ _ 41 rfl 72 i0 _ 13 136 Tryz.underlying41 bW b0 b3 b4 rfl (by decide) zaa (.slice none 0 0) (.slice bb p.1.2.buf.length bc) [] p.1.2.buf (fun x _=>zdy x) rfl rfl (SlF.nil _ _ _ _) av.out (by unfold maxLen;simp only [List.length_nil];omega) (by simp only [List.length_nil];omega) ?_;intro b5 c5 O w5 aW bZ bS);have A:Fr No W5 w5:=bS.mono fun y _ e=>by simp [Value.ownBlock] at e
         have ab:Hid (∀ y,(Value.slice b5 c5 O).ownBlock=some y->W5.heap.size<=y):=H_ fun y n=>(bZ y n).elim (fun e=>by simp [Value.ownBlock] at e) fun e=>e;have af:=o.out.fr0 A;rw [List.nil_append] at aW;have cr:=H_ aW;have dg:=H_ (a9.out.trans0 A);have bw:=H_ (bv.out.fr0 A);have au:=H_ (A.heap a7.out fun h=>h);have aw:=H_ A;clear n2 n3 lb c0 lx aW bZ bS A bP av;have R:=af.sl;have aA:c.L.length=P2.length:=aR.symm;rw [aA] at R;have fz:=fun j=>R.free j;have m:=R.toR zaj;have r0:w5.cell? ⟨d,k+i * 9,none⟩=some (.int .i64 p.1.1):=m.cell0 zaj i HX.out rfl;have r7:w5.cell? ⟨d,k+i * 9+7,none⟩=some p.2:=m.of_add zaj i 7 HX.out rfl;have r8:w5.cell? ⟨d,k+i * 9+8,none⟩=some (.int .i64 p.1.2.place):=m.of_add zaj i 8 HX.out rfl
         have lf:=gB_ _ _ r0;have c2:w5.cell? ⟨x,2,none⟩=some (.slice (some ⟨d,k,none⟩) c.L.length f):=cellAt af.obj 2 rfl;have lx:=zab af.obj;have f7:=fz (k+i * 9+7);have f8:=fz (k+i * 9+8);have n3:w5.cell? ⟨b,8,none⟩=some (.int .i64 p.1.2.place):=cellAt au.out 8 rfl;have lb:=zab au.out
         have bU:(Value.slice b5 c5 O).ownBlock≠some d:=fun e=>by
          have h1:=ab.out d e;have h2:=o.out.lt d (o.out.own.2.2 d rfl);omega
         have cb:(Value.slice b5 c5 O).ownBlock≠some x:=fun e=>by
          have h1:=ab.out x e;have h2:=zab o.out.obj;omega
         have bL:(Value.slice b5 c5 O).ownBlock≠some b:=fun e=>by
          have h1:=ab.out b e;have h2:=zab a7.out;omega
         have cp:=H_ af;clear R m fz af r0;clear r8 f8 n3 lb;have bV:d≠x:=fun e=>o.out.own.2.1 (by rw [e];rfl);have bE:w5.drew.cell? ⟨x,2,none⟩=some (.slice (some ⟨d,k,none⟩) c.L.length f):=c2;have aH:=H_ bV;have bk:=H_ bU;have cu:=H_ cb;have df:=H_ bL;have F7:=H_ f7;have R7:=H_ r7;have C2:=H_ c2;have cS:x<w5.drew.heap.size:=lx;have cR:d<w5.drew.heap.size:=lf;clear bV bU cb bL f7 r7 c2 lx lf aA aR
         go_region_held3 (fun W=>W.cell? ⟨x,2,none⟩=some (.slice (some ⟨d,k,none⟩) c.L.length f))
          (first | with_reducible exact bE | with_reducible exact e2 | with_reducible exact e3 _ | fail)
          (first | (refine zuz rfl _ _ 41 rfl 72 i0 _ 13 136 Tryz.underlying41 bW b0 b3 b4 rfl (by decide) zaa (.slice b5 c5 O) (.slice ya WL.length yc) p.1.2.buf WL (fun x _=>zdy x) rfl rfl cr.out.drew bw.out.drew (by unfold maxLen;omega) (by omega) ?_
                    intro b6 c6 Q w6 c8 c1 ag;have e2:w6.cell? ⟨x,2,none⟩=some (.slice (some ⟨d,k,none⟩) c.L.length f):=ag.cell C2.out cu.out;have e3:∀ v,(w6.setCell ⟨d,k+i * 9+7,none⟩ v).cell? ⟨x,2,none⟩=some (.slice (some ⟨d,k,none⟩) c.L.length f):=fun v=>((Fr.refl (fun y=>y=d) w6).setCell (p:=⟨d,k+i * 9+7,none⟩) (.inl rfl) v).cell e2 fun e=>aH.out e.symm;have e7:=ag.cell R7.out bk.out;have g7:=ag.free R7.out F7.out bk.out;have br:=H_ c8;have bn:=H_ c1;have bj:=H_ ag;clear c8 c1 ag) | fail)
         all_goals
          go_upto_region 13 with fail;have Y:Fr No W5 w6:=aw.out.drew.trans bj.out fun y n e=>by have:=ab.out y e;omega
          have ah:c.L.length=P2.length:=(by rw [o.out.len];exact (zrh ..).symm);have Z:=o.out;rw [ah] at Z;obtain ⟨aN,cD⟩:=Z.look (i:=i) (p:=p) Y HX.out (pl:=p.1.2.place+1) br.out fun y n=>(bn.out y n).elim (ab.out y) fun h=>nT_ aw.out.size h;have u:=(Z.sl.fr0 Y).set zaj i 7 (by omega) p ((p.1.1,⟨p.1.2.w,p.1.2.buf++WL,p.1.2.place⟩),.slice b6 c6 Q) (.slice b6 c6 Q) HX.out rfl;have bX:(P2.set i ((p.1.1,⟨p.1.2.w,p.1.2.buf++WL,p.1.2.place⟩),.slice b6 c6 Q)).length=P2.length:=List.length_set ..;rw [<-bX] at u;have f8:=u.free (k+i * 9+8);have r8:=(u.toR zaj).of_add zaj i 8 (gT_ (by omega)) rfl
          have ao:Fr (fun y=>y=d) W5 (w6.setCell ⟨d,k+i * 9+7,none⟩ (.slice b6 c6 Q)):=(Y.mono (T:=fun y=>y=d) fun _ _ h=>h.elim).setCell (p:=⟨d,k+i * 9+7,none⟩) (.inl rfl) _
          have aQ:b≠d:=fun e=>by
           have h1:=bq.out;have h2:=aB.out;omega
          rw [<-ah] at aN;have bp:=H_ aN;have aU:=ao.heap o.out.obj fun e=>aH.out e.symm;have aT:=ao.heap a7.out aQ;have ax:=H_ ao;clear aN cD u bX Z Y ah ao e2 e3 e7 g7 bE cS cR cp br bn bj;generalize w6.setCell ⟨d,k+i * 9+7,none⟩ (.slice b6 c6 Q)=S at *;have hq:S.drew.cell? ⟨x,2,none⟩=some (.slice (some ⟨d,k,none⟩) c.L.length f)/\S.drew.cell? ⟨b,8,none⟩=some (.int .i64 p.1.2.place):=⟨cellAt aU 2 rfl,cellAt aT 8 rfl⟩;have cU:S.drew.cell? ⟨d,k+i * 9+8,none⟩=some (.int .i64 p.1.2.place):=r8;have cA:S.drew.frozen? ⟨d,k+i * 9+8,none⟩=false:=f8;have l1:x<S.drew.heap.size:=zab aU;have l2:b<S.drew.heap.size:=zab aT;have l3:d<S.drew.heap.size:=gB_ _ _ r8
          have ap:Fr (fun y=>y=d) S.drew (S.drew.setCell ⟨d,k+i * 9+8,none⟩ (.int .i64 (p.1.2.place+1))):=(Fr.refl (fun y=>y=d) S.drew).setCell (p:=⟨d,k+i * 9+8,none⟩) (.inl rfl) _;have c4:(S.setCell ⟨d,k+i * 9+8,none⟩ (.int .i64 (p.1.2.place+1))).drew.cell? ⟨x,2,none⟩=some (.slice (some ⟨d,k,none⟩) c.L.length f)/\(S.setCell ⟨d,k+i * 9+8,none⟩ (.int .i64 (p.1.2.place+1))).drew.cell? ⟨b,8,none⟩=some (.int .i64 p.1.2.place):=⟨ap.cell hq.1 fun e=>aH.out e.symm,ap.cell hq.2 aQ⟩;have dx:IntKind.i64.wrap (p.1.2.place+1)=p.1.2.place+1:=(by rw [IntKind.wrap_i64];have:=bh.out;omega);have aG:Hid (Fr (fun y=>y=d) W5 (S.drew.setCell ⟨d,k+i * 9+8,none⟩ (.int .i64 (p.1.2.place+1)))):=H_ (ax.out.drew.trans ap fun _ _ h=>h);clear aU aT r8 f8 ap ax aQ
          go_region_held3 (fun W=>W.cell? ⟨x,2,none⟩=some (.slice (some ⟨d,k,none⟩) c.L.length f)/\W.cell? ⟨b,8,none⟩=some (.int .i64 p.1.2.place))
           (first | with_reducible exact hq | with_reducible exact c4 | fail)
           (fail)
          have az:S.drew.setCell ⟨d,k+i * 9+8,none⟩ (.int .i64 (p.1.2.place+1))=(S.setCell ⟨d,k+i * 9+8,none⟩ (.int .i64 (p.1.2.place+1))).drew:=rfl;rw [az] at bp aG;clear az hq c4 cU cA l1 l2 l3;generalize (S.setCell ⟨d,k+i * 9+8,none⟩ (.int .i64 (p.1.2.place+1))).drew=W9 at *;go_wp2;go_roundg g
          case rel =>
           have c7:=bp.out;have bY:=zrg D (c.fed+1) bm.out;rw [bl.out,if_pos ⟨bh.out,a8.out,bO⟩] at bY;rw [bY] at c7;have b0:=aj.out.size;have b3:=a9.out.size;have b4:=aG.out.size;refine ⟨i+1,by go_num,by omega,H_ ⟨_,c7.more (fun y n=>?_) fun y n=>?_⟩,H_ ((aa.out.trans a9.out fun _ _ h=>h.elim).trans aG.out fun y _ e=>by rw [show y=d from e];rfl)⟩
           · rcases n with (n | n) | n
             · exact .inl n
             · exact .inr ⟨n.1,by omega⟩
             exact .inr ⟨by omega,n.2⟩
           rcases n with n | n
           · have:=aI.out y n
             omega
           exact n.2
          case measure=>omega
       have bI:RhR I.drew x (.slice (some ⟨d,k,none⟩) c.L.length f) P2 ⟨c.fed+1,c.last,midH D (c.fed+1) c.L (i+1)⟩ (growG G w I.drew):=by
        rw [zzal D (c.fed+1) bm.out (by rw [bl.out,if_neg hc])];exact (z.out.more (fun b hb=>hb.imp (fun h=>h) fun h=>⟨h.1,nL_ h.2 a0.out.size⟩) fun b hb=>hb.elim (fun h=>by have:=aI.out b h;have:=aj.out.size;have:=a0.out.size;omega) fun h=>h.2).fr0 (Fr.refl No I).drew
       have co:=H_ bI;have a9:Hid (Fr (fun y=>(Value.slice (some ⟨d,k,none⟩) c.L.length f).ownBlock=some y) W2 I.drew):=H_ (aa.out.trans a0.out.drew fun _ _ h=>h.elim);clear bI n2 n3 c0 lb lx;go_wp2;go_roundg g
       case rel=>exact ⟨i+1,by go_num,by omega,H_ ⟨P2,co.out⟩,a9⟩
       case measure=>omega
end Go.Proofs.YtdgkdfmfoonbpaaGreat