/- Own lemmas. -/
import Derived.Test.YthljnnjpmdgkoaaGreatI14
import Derived.Test.YthljnnjpmdgkoaaGreatI31
import Derived.Deep.DeepCutAuto
namespace Go.Proofs.YthljnnjpmdgkoaaGreat
open Go Go.Proofs Go.RowKit
set_option maxRecDepth 100000
theorem zxx (S:St) (x:Kv) (hnew:(getT S.T x.key).2=false):putS S x = { S with T:=insT S.T x.key S.next,next:=S.next+1,past:=fun i=>if i=S.next then some (putH newH x) else S.past i }:=by
 unfold putS madeS idS;simp only [hnew,Bool.false_eq_true,if_false,if_true,Option.getD_some]
 congr 1
 funext i
 split <;> rfl
set_option maxHeartbeats 4000000 in
theorem zlg {TA:zao} {N:Nat} (hT:TreeOk TA N) {n:Nat} (hn:n<=1099511627) (w:World) (s:Nat) (S:St) (F:Nat->Prop) (hS:zaj TA w s S F) (hok:StOk n S) (x:Kv)
 (hroom:S.T.length<N) (hnew:(getT S.T x.key).2=false) (hm1:1<=x.mod) (hm2:x.mod<=top) :
 Calls Tryz.prog 64 #[.pointer (some ⟨s,0,none⟩),kvV x] w fun e w'=>(∃ v,e=.returned v)/\∃ F',zaj TA w' s (putS S x) F'/\Fr F w w'/\(∀ b,F' b->F b\/w.heap.size<=b):=by
 have aw:=H_ (zxx S x hnew);obtain ⟨t,p,ev,hp,FT,FH,a,hF⟩:=hS;obtain ⟨x1,x2,x3,D,x5,x6⟩:=x;have c2:=a.obj.cell 2 rfl;have f2:=a.obj.free 2;have l1:=a.obj.lt;have bz:=hok.pos;have bB:=hok.next;have a1:=hok.ids;have HA:=H_ a;have aq:=H_ hF;have ar:=H_ a1;unfold kvV;dsimp only at *;clear a hF a1 hnew;have y:=zad w (Obj.cells #[.string x1,.string x2,.int .i64 x3,.int .i64 D,.int .i64 x5,.int .i64 x6] 99) _ rfl;have d:Fr No w (w.alloc (Obj.cells #[.string x1,.string x2,.int .i64 x3,.int .i64 D,.int .i64 x5,.int .i64 x6] 99)):=(Fr.refl No w).alloc _;have av:=H_ y;have ao:=H_ d;clear y d;go_enter Tryz.func64,Tryz.ntmps64;go_upto_region 2 with fail;have y:=av.out;have d:=ao.out;clear av ao;have bn:=d.cell0 c2;have br:=d.free0 c2 f2;have l0:=zab y
 generalize w.alloc (Obj.cells #[.string x1,.string x2,.int .i64 x3,.int .i64 D,.int .i64 x5,.int .i64 x6] 99)=X at *;have bC:s<X.heap.size:=by omega
 go_upto_region 3 with fail;have ho:=(HA.out.fr hT d fun _ _ s=>s).obj.set 2 (.int .i64 (S.next+1));have M:Fr (fun b=>b=s) X (X.setCell ⟨s,2,none⟩ (.int .i64 (S.next+1))):=(Fr.refl _ X).setAt 2 _;have z:=(HA.out.fr hT d fun _ _ s=>s).setObj hT M (S.next+1) S.rev S.mark ho;have Q:(X.setCell ⟨s,2,none⟩ (.int .i64 (S.next+1))).heap[w.heap.size]?=_:=M.heap y (by omega);have aa:Fr (fun b=>b=s) w (X.setCell ⟨s,2,none⟩ (.int .i64 (S.next+1))):=d.mono (fun _ _ h=>h.elim) |>.trans M fun _ _ h=>h;have b7:=aa.size;have Z:w.heap.size+1<=(X.setCell ⟨s,2,none⟩ (.int .i64 (S.next+1))).heap.size:=zab Q;generalize X.setCell ⟨s,2,none⟩ (.int .i64 (S.next+1))=W1 at *;have e0:=z.obj.cell 0 rfl;have k0:W1.cell? ⟨w.heap.size,0,none⟩=some (.string x1):=cellAt Q 0 rfl
 have nT:¬ FT s:=z.ds.1;have nB:¬ FT w.heap.size:=fun h=>by have:=hT.lt HA.out.tree _ h;omega
 go_region_held (fun W=>W.cell? ⟨s,0,none⟩=some (.pointer (some ⟨t,0,none⟩))/\W.cell? ⟨w.heap.size,0,none⟩=some (.string x1))
  (first | exact ⟨e0,k0⟩ | exact ⟨I.cell e0 nT,I.cell k0 nB⟩)
  (first | (go_at_call 116;refine (hT.set x1 S.next (hT.fr z.tree (Fr.refl No W1).drew (fun _ _ s=>s)) hroom).mono ?_;rintro e w2 ⟨⟨v,rfl⟩,F2,aH,I,ag⟩))
 have o:Fr FT W1 w2:=((Fr.refl FT W1).drew).trans I fun _ _ h=>h;have u:=z.setTree hT o aH ag;have ae:=o.heap Q nB;have ay:Fr (storeF s p ev FT FH) w w2:=(aa.mono fun b _ h=>.inl h).trans o fun b _ h=>.inr (.inr (.inl h))
 have a2:∀ b,storeF s p ev F2 FH b->storeF s p ev FT FH b\/w.heap.size<b:=by
  rintro b (h | h | h | h | h)
  · exact .inl (.inl h)
  · exact .inl (.inr (.inl h))
  · rcases ag b h with h | h
    · exact .inl (.inr (.inr (.inl h)))
    right;have:=Z;simp at h;omega
  · exact .inl (.inr (.inr (.inr (.inl h))))
  exact .inl (.inr (.inr (.inr (.inr h))))
 have aI:(Lit.int .i64 S.next).wf=true:=wf64 (by omega) (by omega);have m1:=u.obj.cell 1 rfl;have bK:¬ s=p:=fun e=>u.map.apart u.obj e.symm;have bH:=u.obj.lt;have bg:=zab ae;have a5:=H_ u;have aV:=H_ ae;have ap:=H_ ay;have aX:=H_ a2;clear u ae ay a2 o I aH ag z Q aa M ho y d e0 k0 nT nB b7 Z;have bw:∀ w,(Instr.makeMap 169 none).run Tryz.prog w=.ok (.map (some w.heap.size)) (w.alloc (.map #[] 0)):=fun w=>run_makeMap 169 w;go_upto_region 5 with (go_at_call 117;refine (zia _).mono ?_;rintro e k ⟨g,rfl,V,ab,a7,R⟩);have bi:=a7.size;have b8:=ab.lt;have J:Fr No w2 ((k.alloc (Obj.map #[] 0)).alloc (Obj.cells #[Value.pointer (some ⟨g,0,none⟩),Value.map (some k.heap.size)] 171)):=(a7.alloc _).alloc _
 have A:Has ((k.alloc (Obj.map #[] 0)).alloc (Obj.cells #[Value.pointer (some ⟨g,0,none⟩),Value.map (some k.heap.size)] 171)) (k.heap.size+1) [.pointer (some ⟨g,0,none⟩),.map (some k.heap.size)]:=⟨171,zad _ _ _ (by simp)⟩;have aA:KeyAt ((k.alloc (Obj.map #[] 0)).alloc (Obj.cells #[Value.pointer (some ⟨g,0,none⟩),Value.map (some k.heap.size)] 171)) g [] 0 V:=ab.fr (((Fr.refl No k).alloc _).alloc _) fun _ _ s=>s;have aD:MapAt ((k.alloc (Obj.map #[] 0)).alloc (Obj.cells #[Value.pointer (some ⟨g,0,none⟩),Value.map (some k.heap.size)] 171)) k.heap.size (fun _=>none):=(MapAt.made k).alloc _;have q:=J.heap aV.out id;generalize (k.alloc (Obj.map #[] 0)).alloc (Obj.cells #[Value.pointer (some ⟨g,0,none⟩),Value.map (some k.heap.size)] 171)=Y at *;generalize bu:k.heap.size=m at *;have aC:∀ b,V b->b<m:=b8
 have e0:=A.cell 0 rfl;have e1:=A.cell 1 rfl;have k3:Y.cell? ⟨w.heap.size,3,none⟩=some (.int .i64 D):=cellAt q 3 rfl;have aJ:¬ V w.heap.size:=fun h=>by have:=R _ h;omega
 have U:¬ V (m+1):=fun h=>by have:=aC _ h;omega
 have ai:¬ V m:=fun h=>by have:=aC _ h;omega
 have bF:=A.lt;have bD:=zab q
 go_region_held (fun W=>W.cell? ⟨m+1,0,none⟩=some (.pointer (some ⟨g,0,none⟩))/\W.cell? ⟨w.heap.size,3,none⟩=some (.int .i64 D))
  (first | exact ⟨e0,k3⟩ | exact ⟨L.cell e0 U,L.cell k3 aJ⟩)
  (first | (go_at_call 118;refine (zqi _ g [] 0 D V (aA.fr (Fr.refl No Y).drew (fun _ _ s=>s)) ⟨by simp,by simp⟩ hm1 hm2 hm1).mono ?_;rintro e w5 ⟨rfl,a4,aB,L,aF⟩))
 have c:Fr V Y w5:=((Fr.refl V Y).drew).trans L fun _ _ h=>h;have ad:=c.heap q aJ;have bp:=c.cell e1 U;obtain ⟨b0,b1,b2,b3,b4,b5⟩:=cells6 ad;have bG:m+1<w5.heap.size:=by have:=c.size;omega
 have bE:w.heap.size<w5.heap.size:=zab ad;have ba:MapAt w5.drew m fun _=>none:=aD.fr c.drew ai;have bb:(Lit.int .i64 D).wf=true:=wf64 (by omega) (by unfold top at hm2;omega);have a0:Fr No w2 w5:=J.trans c fun j hj h=>by have:=R _ h;omega
 have aG:=A.fr c U;have aU:=H_ a0;have au:=H_ aB;have E:=H_ aF;have aZ:=H_ aG;have aY:=H_ R;have bt:=J.size;clear L c aB aF ad aA aD J A aG q a0 R ab a7;go_wp2_with fail;refine wp_region_still_tail 7 (by kernel_rfl) (by kernel_rfl) ?_;simp only [List.take_succ_cons,List.take_zero,List.drop_succ_cons,List.drop_zero];change wpStill _ _ w5.drew _ _ _
 repeat (refine wpStill_step (fun K hK=>?_);go_simp;(try go_bits);refine hK _ ?_;clear hK K)
 refine wpStill_nil ?_;change wpList _ _ _ _ _ w5.drew;refine zfo rfl _ _ _ 169 rfl 3 99 Tryz.underlying169 Tryz.underlying3 m _ rfl ba D rfl bb (kvV ⟨x1,x2,x3,D,x5,x6⟩) rfl ?_;intro w6 aE a8 bj
 have f:Fr No w2 w6:=aU.out.drew.trans a8 fun j hj h=>by
  have h':j=m:=h;omega
 have c1:w6.cell? ⟨s,1,none⟩=some (.map (some p)):=f.cell0 m1;have bI:s<w6.heap.size:=by have:=f.size;omega
 have a6:=a5.out.fr hT f fun _ _ s=>s;have af:=a6.map;have aT:=H_ a6;have aW:=H_ aE;have an:=H_ a8;have am:=H_ f;clear aE a8 f a6;go_wp2_with (refine zfo rfl _ _ _ 105 rfl 3 167 Tryz.underlying105 Tryz.underlying3 p _ rfl af S.next rfl aI (.pointer (some ⟨m+1,0,none⟩)) rfl ?_;intro w7 b9 a9 bk);refine bodyPost_end (results_none rfl _ _ _) rfl ?_;have bv:=au.out.lt;have lp:=a5.out.map.lt
 have ah:∀ b,(b=m+1\/b=m\/a4 b)->w2.heap.size<=b:=by
  rintro b (rfl | rfl | h)
  · omega
  · omega
  rcases E.out b h with h | h
  · exact aY.out b h
  have h':Y.heap.size<=b:=h
  omega
 have O:HistAt w6 (m+1) (putH newH ⟨x1,x2,x3,D,x5,x6⟩) (fun b=>b=m+1\/b=m\/a4 b):=by
  refine ⟨g,m,a4,⟨?_,?_,?_,?_,?_⟩,fun _=>Iff.rfl⟩
  · exact (aZ.out.fr (Fr.refl No w5).drew id).fr an.out fun e=>by
     have e':m+1=m:=e;omega
  · refine au.out.fr ((Fr.refl (fun x=>x=m) w5).drew.trans an.out fun _ _ e=>e) fun b G e=>?_
    have e':b=m:=e;subst e';rcases E.out _ G with l | l
    · exact ai l
    have h6:Y.heap.size<=b:=l
    omega
  · refine cast (congrArg (MapAt w6 m) ?_) aW.out
    funext r
    unfold putH newH;dsimp only;by_cases hr:r=D <;> simp [hr]
  · intro G
    rcases E.out _ G with l | l
    · exact U l
    have h6:Y.heap.size<=m+1:=l
    omega
  intro G
  rcases E.out _ G with l | l
  · exact ai l
  have h6:Y.heap.size<=m:=l
  omega
 have P:=O.fr a9 fun b G e=>by
  have h1:=ah b G;have e':b=p:=e;omega
 have az:=aT.out.addHist hT (id:=S.next) (B:=w2.heap.size) (by
  cases hc:S.past S.next with
  | none=>rfl
  | some H=>have:=ar.out _ _ hc;omega) a9 b9 (a5.out.lt hT) P ah
 have bx:=ap.out.size;refine ⟨⟨_,rfl⟩,_,⟨t,p,ev,_,F2,_,by rw [aw.out];exact az,fun _=>Iff.rfl⟩,?_,?_⟩
 · refine ((ap.out.trans0 am.out).trans a9 fun b _ e=>.inr (.inl e)).mono fun b _ e=>(aq.out b).2 e
 have C:∀ b,storeF s p ev F2 FH b->F b\/w.heap.size<=b:=fun b G=>by
  rcases aX.out b G with l | l
  · exact .inl ((aq.out b).2 l)
  exact .inr (by omega)
 rintro b (e | e | e | e | ⟨i,e⟩)
 · exact C b (.inl e)
 · exact C b (.inr (.inl e))
 · exact C b (.inr (.inr (.inl e)))
 · exact C b (.inr (.inr (.inr (.inl e))))
 by_cases hi:i=S.next
 · rw [if_pos hi] at e
   have:=ah b e;exact .inr (by omega)
 rw [if_neg hi] at e
 exact C b (.inr (.inr (.inr (.inr ⟨i,e⟩))))
theorem zus (a b:ByteArray):(a.toList=b.toList)=(keq a b=true):=by
 rw [zas,ByteArray.toList_eq,ByteArray.toList_eq];obtain ⟨⟨x⟩⟩:=a;obtain ⟨⟨y⟩⟩:=b;simp
theorem zjy {α:Type} (x y:Kv) (p q:α):(if x.key.toList=y.key.toList then if x.value.toList=y.value.toList then if x.create=y.create then if x.mod=y.mod then if x.version=y.version then if x.lease=y.lease then p else q else q else q else q else q else q)=if sameB x y=true then p else q:=by
 unfold sameB;simp only [zus];by_cases h1:keq x.key y.key=true <;> by_cases h2:keq x.value y.value=true <;> by_cases h3:x.create=y.create <;> by_cases h4:x.mod=y.mod <;> by_cases h5:x.version=y.version <;> by_cases h6:x.lease=y.lease <;> simp [h1,h2,h3,h4,h5,h6]
theorem zov (w:World) (x y:Kv):(Go.binOp .neq 99 (kvV x) (kvV y)).run Tryz.prog w=.ok (.bool (!sameB x y)) w:=by
 unfold kvV
 go_simp
 rw [zjy];cases sameB x y <;> rfl
theorem zhm (w:World) (x y:Ev):(Go.binOp .eql 101 (evV x) (evV y)).run Tryz.prog w=.ok (.bool (sameE x y)) w:=by
 unfold evV
 go_simp
 rw [zjy x.prev y.prev,zjy x.kv y.kv];unfold sameE;by_cases h:x.kind=y.kind
 · rw [if_pos h,h,beq_self_eq_true]
   cases sameB x.kv y.kv <;> cases sameB x.prev y.prev <;> rfl
 rw [if_neg h,beq_eq_false_iff_ne.2 h]
 rfl
theorem zav (w:World) (a b:Operand) (x y:Kv):(eqGuard .neq 99 a b (kvV x) (kvV y)).run Tryz.prog w=.ok () w:=by
 unfold kvV
 go_simp
theorem zbt (w:World) (a b:Operand) (x y:Ev):(eqGuard .eql 101 a b (evV x) (evV y)).run Tryz.prog w=.ok () w:=by
 unfold evV
 go_simp
theorem zaw {P:Program} {w:World} {ops:Array Oper} {rest:List Oper} {o:Oper} {a:Act} {Q:Exit->Act->World->Prop} (bop:BinOp) (t:TypeId) (x y:Operand) (t2:TypeId) (hop:o.op=Op.binOp bop t x y t2) (hg:Region.wanted o (yielded ops a.tmps)=true)
 (u v r:Value) (hgu:(eqGuard bop t x y u v).run P w=.ok () w) (hr:(Go.binOp bop t u v).run P w=.ok r w) (hx:a.eval x=u) (hy:a.eval y=v) (hK:wpList P ops Q rest (a.put o.dst r) w):wpList P ops Q (o :: rest) a w:=by
 refine wpList_step fun K' hK'=>?_;rw [if_pos hg];unfold Oper.wp;simp [execOp,hop,hx,hy,hgu,hr,Result.andThen];exact hK' _ _ hK
end Go.Proofs.YthljnnjpmdgkoaaGreat