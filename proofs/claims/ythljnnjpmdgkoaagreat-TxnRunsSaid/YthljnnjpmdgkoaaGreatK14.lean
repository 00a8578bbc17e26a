/- Own lemmas. -/
import Derived.Test.YthljnnjpmdgkoaaGreatK13
import Derived.Test.YthljnnjpmdgkoaaGreatK09
import Derived.Deep.RegionHeld
import Derived.Deep.DeepCutAuto
import Derived.Test.YthljnnjpmdgkoaaGreatProg
import Derived.Laws.RangeString
import Derived.Lib.Bytealg
import Derived.Lib.RuneCount
namespace Go.Proofs.YthljnnjpmdgkoaaGreat
open Go Go.Proofs Go.RowKit
set_option maxRecDepth 100000
theorem zjp {TA:zaq} {N:Nat} (_:TreeOk TA N) {n:Nat} (hn:n<=1099511627) (w:World) (s:Nat) (S:St) (F:Nat->Prop) (hS:zak TA w s S F) (hok:StOk n S) (at_ rev:Int) (H:Hist) (hH:S.past at_=some H) :
 Calls Tryz.prog 62 #[.pointer (some ⟨s,0,none⟩),.int .i64 at_,.int .i64 rev] w fun e w'=>e=.returned (zct (hadH H rev))/\Fr No w w':=by
 obtain ⟨t,p,ev,hp,FT,FH,a,hF⟩:=hS;obtain ⟨h,hh,g,m,FK,b,aE⟩:=a.hist _ _ hH;have o:=(hok.hist _ _ hH).1;have ah:=hok.ids _ _ hH;have aH:=hok.next;have a9:(Lit.int .i64 at_).wf=true:=wf64 (by omega) (by omega);have j:=o.wf rev;have u:=o.fits hn;have M:=fun W hk=>zru W g H.gens H.last rev FK hk u;have L:((hp at_).map fun h=>Value.pointer (some ⟨h,0,none⟩)).getD (.pointer none)=.pointer (some ⟨h,0,none⟩):=by rw [hh];rfl
 have T:((H.kvs (atK H.gens rev).1.2.1).map kvV).getD (kvV kv0)=kvV (hadH H rev).1:=by unfold hadH;cases H.kvs (atK H.gens rev).1.2.1 <;> rfl
 have c1:=a.obj.cell 1 rfl;have h0:=b.obj.cell 0 rfl;have h1:=b.obj.cell 1 rfl;have l1:=a.obj.lt;have l2:=b.obj.lt;have l3:=b.map.lt;have HM:=H_ a.map;have HK:=H_ b.key;have HN:=H_ b.map;have B:=H_ T;have a0:=H_ L
 have a4:=H_ M;have K:(hadH H rev).2=(atK H.gens rev).2:=rfl;have a2:=H_ K;generalize hadH H rev=r at *;generalize hs:atK H.gens rev=q at *;clear a b T L M K u hH;obtain ⟨⟨q1,l,q3⟩,q4⟩:=q;obtain ⟨⟨C,J,D,E,I,G⟩,rb⟩:=r;go_enter Tryz.func62,Tryz.ntmps62
 go_wp2_with (first
  | (at_lookup;refine zgm rfl _ _ 105 rfl 3 167 Tryz.underlying105 Tryz.underlying3 p _ rfl (HM.out.alloc _) at_ rfl a9 _ (zero142 _) _ a0.out ?_)
  | (at_lookup;refine zgm rfl _ _ 169 rfl 3 99 Tryz.underlying169 Tryz.underlying3 m _ rfl (by first | exact Q.out.alloc _ | exact Q.out) l rfl j _ (zero57 _) _ B.out ?_)
  | (go_at_call 115;refine (a4.out _ (HK.out.fr ((Fr.refl No w).alloc _) (fun _ _ s=>s))).mono ?_;rintro e w1 ⟨rfl,y⟩
     have x:Fr No w w1:=((Fr.refl No w).alloc _).trans0 y;have aa:=x.cell0 h1;have aG:w.heap.size+1<=w1.heap.size:=(by have:=y.size;simpa using this);have Q:=H_ (HN.out.fr x id);have k6:w1.heap[w.heap.size]?=some (.cells #[.string ByteArray.empty,.string ByteArray.empty,.int .i64 0,.int .i64 0,.int .i64 0,.int .i64 0] 99 (0,0)):=y.heap (zad _ _ _ rfl) id;unfold ziv seenV))
 have Y:=zad w1 (Obj.cells #[Value.int .i64 q1,Value.int .i64 l,Value.int .i64 q3] 190) _ rfl;generalize hX:w1.alloc (Obj.cells #[Value.int .i64 q1,Value.int .i64 l,Value.int .i64 q3] 190)=X at Y;have c:Fr No w X:=by rw [<-hX];exact x.alloc _
 have f:X.heap[w.heap.size]?=some (.cells #[.string ByteArray.empty,.string ByteArray.empty,.int .i64 0,.int .i64 0,.int .i64 0,.int .i64 0] 99 (0,0)):=by rw [<-hX];exact zaj k6 _
 have n1:X.cell? ⟨w1.heap.size,1,none⟩=some (.int .i64 l):=cellAt Y 1 rfl;have e1:=c.cell0 h1;have z:=MapAt.look (P:=Tryz.prog) (t:=169) (HN.out.fr (c.drew) id) Tryz.underlying169 Tryz.underlying3 j (zero57 _);rw [B.out] at z;unfold kvV at z;have av:w.heap.size<X.heap.size:=zaa f;have ak:w1.heap.size<X.heap.size:=zaa Y;have ax:h<X.heap.size:=by have:=c.size;omega
 have a8:X.drew.cell? ⟨w1.heap.size,1,none⟩=some (.int .i64 l):=n1;have a7:X.drew.cell? ⟨h,1,none⟩=some (.map (some m)):=e1;have aL:X.drew.heap[w.heap.size]?=some (.cells #[.string ByteArray.empty,.string ByteArray.empty,.int .i64 0,.int .i64 0,.int .i64 0,.int .i64 0] 99 (0,0)):=f;have aA:Fr No w X.drew:=c.drew;obtain ⟨k0,k1,k2,k3,k4,k5⟩:=cells6 f;have kf:∀ i,X.frozen? ⟨w.heap.size,i,none⟩=false:=fun i=>by simp [World.frozen?,f]
 have U:w1.heap.size≠w.heap.size:=by omega
 have R:h≠w.heap.size:=by omega
 have HS:∀ W,Fr (fun b=>b=w.heap.size) X W->W.cell? ⟨h,1,none⟩=some (.map (some m))/\W.cell? ⟨w1.heap.size,1,none⟩=some (.int .i64 l) ∧
  (Instr.lookup 169 (.map (some m)) (.int .i64 l) false).run Tryz.prog W=.ok (.agg #[.string C,.string J,.int .i64 D,.int .i64 E,.int .i64 I,.int .i64 G]) W:=by
  intro W hW;refine ⟨hW.cell e1 R,hW.cell n1 U,?_⟩;have:=MapAt.look (P:=Tryz.prog) (t:=169) ((HN.out.fr c id).fr hW (by omega)) Tryz.underlying169 Tryz.underlying3 j (zero57 _);rw [B.out] at this;exact this
 have A:=H_ HS;clear HS hX aa z a8 a7 Y n1
 go_region_held (fun W=>W.cell? ⟨h,1,none⟩=some (.map (some m))/\W.cell? ⟨w1.heap.size,1,none⟩=some (.int .i64 l) ∧
  (Instr.lookup 169 (.map (some m)) (.int .i64 l) false).run Tryz.prog W=.ok (.agg #[.string C,.string J,.int .i64 D,.int .i64 E,.int .i64 I,.int .i64 G]) W)
  (first | (refine A.out _ (Fr.drew ?_);with_reducible exact Fr.refl _ X) | (refine A.out _ (Fr.drew ?_);(iterate 6 (with_reducible refine Fr.setAt ?_ _ _));with_reducible exact Fr.refl _ X)) (fail)
 have z1:=zab f 0 (.string C);have z2:=zab z1 1 (.string J);have z3:=zab z2 2 (.int .i64 D);have z4:=zab z3 3 (.int .i64 E);have z5:=zab z4 4 (.int .i64 I);have V:=zab z5 5 (.int .i64 G)
 have d:Fr (fun b=>b=w.heap.size) X ((((((X.setCell ⟨w.heap.size,0,none⟩ (.string C)).setCell ⟨w.heap.size,1,none⟩ (.string J)).setCell ⟨w.heap.size,2,none⟩ (.int .i64 D)).setCell ⟨w.heap.size,3,none⟩ (.int .i64 E)).setCell ⟨w.heap.size,4,none⟩ (.int .i64 I)).setCell ⟨w.heap.size,5,none⟩ (.int .i64 G)) :=
  (((((((Fr.refl _ X).setAt 0 _).setAt 1 _).setAt 2 _).setAt 3 _).setAt 4 _).setAt 5 _)
 generalize ((((((X.setCell ⟨w.heap.size,0,none⟩ (.string C)).setCell ⟨w.heap.size,1,none⟩ (.string J)).setCell ⟨w.heap.size,2,none⟩ (.int .i64 D)).setCell ⟨w.heap.size,3,none⟩ (.int .i64 E)).setCell ⟨w.heap.size,4,none⟩ (.int .i64 I)).setCell ⟨w.heap.size,5,none⟩ (.int .i64 G))=Z at V d ⊢
 simp at V;obtain ⟨y0,y1,y2,y3,y4,y5⟩:=cells6 V
 have O:Fr No w Z.drew:=by
  have a6:Fr No w Z:=⟨d.os.trans c.os,d.tape.trans c.tape,d.output.trans c.output,Nat.le_trans c.size d.size,fun k hk _=>(d.block k (Nat.lt_of_lt_of_le hk c.size) (by omega)).trans (c.block k hk id)⟩;exact a6.drew
 clear z1 z2 z3 z4 z5 V d k0 k1 k2 k3 k4 k5 kf A;go_wp2;have ab:rb=q4:=a2.out;subst ab;refine bodyPost_ret (v:=zct (⟨C,J,D,E,I,G⟩,rb)) (w:=Z.drew) (by rw [results_cell_tmp rfl];go_simp;rfl) rfl ⟨rfl,O⟩
def livesS (S:St) (key:ByteArray) (rev:Int):Kv×Bool :=
 if (getT S.T key).2 then match S.past (getT S.T key).1 with
  | some H=>hadH H rev
  | none=>(kv0,false)
 else (kv0,false)
theorem zfq {w X:World} {b:Nat} {a0 a1 a2 a3 a4 a5:Value} (hk:X.heap[b]?=some (.cells #[a0,a1,a2,a3,a4,a5] 99 (0,0))) (r:Kv) :
 ∃ Z,((((((X.setCell ⟨b,0,none⟩ (.string r.key)).setCell ⟨b,1,none⟩ (.string r.value)).setCell ⟨b,2,none⟩ (.int .i64 r.create)).setCell ⟨b,3,none⟩ (.int .i64 r.mod)).setCell ⟨b,4,none⟩ (.int .i64 r.version)).setCell ⟨b,5,none⟩ (.int .i64 r.lease))=Z ∧
  Z.heap[b]?=some (.cells #[.string r.key,.string r.value,.int .i64 r.create,.int .i64 r.mod,.int .i64 r.version,.int .i64 r.lease] 99 (0,0))/\(Fr No w X->w.heap.size<=b->Fr No w Z):=by
 have f:=zab hk 0 (.string r.key);have d:=zab f 1 (.string r.value);have c:=zab d 2 (.int .i64 r.create);have i:=zab c 3 (.int .i64 r.mod);have g:=zab i 4 (.int .i64 r.version);have k:=zab g 5 (.int .i64 r.lease);have a:=(((((((Fr.refl (fun x=>x=b) X).setAt 0 (.string r.key)).setAt 1 (.string r.value)).setAt 2 (.int .i64 r.create)).setAt 3 (.int .i64 r.mod)).setAt 4 (.int .i64 r.version)).setAt 5 (.int .i64 r.lease));clear f d c i g;generalize ((((((X.setCell ⟨b,0,none⟩ (.string r.key)).setCell ⟨b,1,none⟩ (.string r.value)).setCell ⟨b,2,none⟩ (.int .i64 r.create)).setCell ⟨b,3,none⟩ (.int .i64 r.mod)).setCell ⟨b,4,none⟩ (.int .i64 r.version)).setCell ⟨b,5,none⟩ (.int .i64 r.lease))=Z at *;refine ⟨Z,rfl,?_,fun hf hb=>hf.trans a fun j hj e=>?_⟩
 · rw [k];simp
 have l:j=b:=e
 omega
theorem zji {TA:zaq} {N:Nat} (hT:TreeOk TA N) {n:Nat} (hn:n<=1099511627) (w:World) (s:Nat) (S:St) (F:Nat->Prop) (hS:zak TA w s S F) (hok:StOk n S) (key:ByteArray) (rev:Int) :
 Calls Tryz.prog 66 #[.pointer (some ⟨s,0,none⟩),.string key,.int .i64 rev] w fun e w'=>e=.returned (zct (livesS S key rev))/\Fr No w w':=by
 have f:=fun W hW at_ H u=>zjp hT hn W s S F hW hok at_ rev H u;have y:=H_ hS;obtain ⟨t,p,ev,hp,V,FH,a,hF⟩:=hS;have c0:=a.obj.cell 0 rfl;have l1:=a.obj.lt;have d:=fun W hW=>hT.get (w:=W) (t:=t) (T:=S.T) (F:=V) key hW;have I:=H_ a.tree;have L:=H_ d;have Y:=H_ f;have O:livesS S key rev=livesS S key rev:=rfl
 have x:(getT S.T key).2=true->∃ H,S.past (getT S.T key).1=some H:=by
  unfold getT
  cases hf:S.T.find? (fun p=>keq p.1 key) with
  | none=>intro h;cases h
  | some q=>intro _;exact hok.id q (List.mem_of_find?_eq_some hf)
 unfold livesS at O ⊢
 generalize getT S.T key=g at *;obtain ⟨g1,P⟩:=g;have HI:=H_ x;clear a d f x O;cases P
 · go_enter Tryz.func66,Tryz.ntmps66
   go_wp2_with (first
    | (go_at_call 121;refine (L.out _ (hT.fr I.out ((Fr.refl No w).alloc _) (fun _ _ s=>s))).mono ?_;rintro e w1 ⟨rfl,b⟩
       have c:Fr No w w1:=((Fr.refl No w).alloc _).trans0 b;have l:w1.heap[w.heap.size]?=some (.cells #[.string ByteArray.empty,.string ByteArray.empty,.int .i64 0,.int .i64 0,.int .i64 0,.int .i64 0] 99 (0,0)):=b.heap (zad _ _ _ rfl) id;obtain ⟨k0,k1,k2,R,k4,k5⟩:=cells6 l;have X:∀ i,w1.frozen? ⟨w.heap.size,i,none⟩=false:=fun i=>by simp [World.frozen?,l]
       unfold zcw))
   obtain ⟨Z,k,o,j⟩:=zfq (w:=w) l ⟨⟨#[]⟩,⟨#[]⟩,0,0,0,0⟩;dsimp only at k o;rw [k];obtain ⟨Q,y1,y2,U,y4,y5⟩:=cells6 o;clear k;refine bodyPost_ret (v:=zct (kv0,false)) (w:=Z) (by rw [results_cell_tmp rfl];go_simp;rfl) rfl ⟨rfl,j c (Nat.le_refl _)⟩
 obtain ⟨H,u⟩:=HI.out rfl
 simp only [if_true,u];generalize J:hadH H rev=r at *;obtain ⟨⟨D,M,E,G,C,K⟩,rb⟩:=r;have HR:=H_ J;have HP:=H_ u;clear J u;go_enter Tryz.func66,Tryz.ntmps66
 go_wp2_with (first
  | (go_at_call 121;refine (L.out _ (hT.fr I.out ((Fr.refl No w).alloc _) (fun _ _ s=>s))).mono ?_;rintro e w1 ⟨rfl,b⟩
     have c:Fr No w w1:=((Fr.refl No w).alloc _).trans0 b;have z:w1.heap[w.heap.size]?=some (.cells #[.string ByteArray.empty,.string ByteArray.empty,.int .i64 0,.int .i64 0,.int .i64 0,.int .i64 0] 99 (0,0)):=b.heap (zad _ _ _ rfl) id;unfold zcw)
  | (go_at_call 62;refine (Y.out _ (y.out.fr0 hT c) g1 H HP.out).mono ?_;rintro e A ⟨rfl,m⟩
     rw [HR.out];have B:Fr No w A:=c.trans0 m;have l:A.heap[w.heap.size]?=some (.cells #[.string ByteArray.empty,.string ByteArray.empty,.int .i64 0,.int .i64 0,.int .i64 0,.int .i64 0] 99 (0,0)):=m.heap z id;obtain ⟨k0,k1,k2,R,k4,k5⟩:=cells6 l;have X:∀ i,A.frozen? ⟨w.heap.size,i,none⟩=false:=fun i=>by simp [World.frozen?,l]
     unfold zct kvV))
 obtain ⟨Z,k,o,j⟩:=zfq (w:=w) l ⟨D,M,E,G,C,K⟩;dsimp only at k o;rw [k];obtain ⟨Q,y1,y2,U,y4,y5⟩:=cells6 o;clear k;refine bodyPost_ret (v:=zct (⟨D,M,E,G,C,K⟩,rb)) (w:=Z) (by rw [results_cell_tmp rfl];go_simp;rfl) rfl ⟨rfl,j B (Nat.le_refl _)⟩
def putH (H:Hist) (x:Kv):Hist:={ gens:=putK H.gens x.mod,last:=x.mod,kvs:=fun r=>if r=x.mod then some x else H.kvs r }
def newH:Hist:={ gens:=[],last:=0,kvs:=fun _=>none }
def idS (S:St) (key:ByteArray):Int:=if (getT S.T key).2 then (getT S.T key).1 else S.next
def madeS (S:St) (key:ByteArray):St :=
 if (getT S.T key).2 then S else { S with T:=insT S.T key S.next,past:=fun i=>if i=S.next then some newH else S.past i,next:=S.next+1 }
def putS (S:St) (x:Kv):St :=
 { madeS S x.key with past:=fun i=>if i=idS S x.key then some (putH (((madeS S x.key).past (idS S x.key)).getD newH) x) else (madeS S x.key).past i }
theorem zkx {W:World} {h g m:Nat} {FK:Nat->Prop} (ho:Has W h [.pointer (some ⟨g,0,none⟩),.map (some m)]) (hk:KeyAt W g [] 0 FK) (hm:MapAt W m fun _=>none) (d1:¬ FK h) (d2:¬ FK m) :
 HistAt W h newH (fun b=>b=h\/b=m\/FK b):=⟨g,m,FK,⟨ho,hk,hm,d1,d2⟩,fun _=>Iff.rfl⟩
theorem zrg {TA:zaq} {N:Nat} (hT:TreeOk TA N) {w2 W4:World} {s t p:Nat} {ev:Value} {hp:Int->Option Nat} {FT:Nat->Prop} {FH:Int->Nat->Prop} {S:St} (a:StoreR TA w2 s t p ev hp FT FH S) (id:Int)
 (hid:S.past id=none) (hwf:(Lit.int .i64 id).wf=true) (hf:Fr No w2 W4) {h:Nat} {F':Nat->Prop} (hh:HistAt W4 h newH F') (hn:∀ b,F' b->w2.heap.size<=b) :
 StoreR TA (mapUpW Tryz.prog 105 p id (.pointer (some ⟨h,0,none⟩)) W4) s t p ev (fun i=>if i=id then some h else hp i) FT (fun i=>if i=id then F' else FH i) { S with past:=fun i=>if i=id then some newH else S.past i } ∧
  Fr (fun b=>b=p) W4 (mapUpW Tryz.prog 105 p id (.pointer (some ⟨h,0,none⟩)) W4):=by
 obtain ⟨_,d,c,_⟩:=(a.map.fr hf (fun s=>s)).up (P:=Tryz.prog) (t:=105) (k:=3) Tryz.underlying105 Tryz.underlying3 hwf (.pointer (some ⟨h,0,none⟩));refine ⟨(a.fr hT hf fun _ _ s=>s).addHist hT hid c d (B:=w2.heap.size) (a.lt hT) (hh.fr c fun b hb e=>?_) hn,c⟩;have g:=hn b hb;have j:=a.map.lt;have f:b=p:=e;omega
set_option maxHeartbeats 4000000 in
theorem zul {TA:zaq} {N:Nat} (hT:TreeOk TA N) {n:Nat} (hn:n<=1099511627) (w:World) (s:Nat) (S:St) (F:Nat->Prop) (hS:zak TA w s S F) (hok:StOk n S) (x:Kv)
 (hroom:(getT S.T x.key).2=false->S.T.length<N) (hm1:1<=x.mod) (hm2:x.mod<=top) (hlast:∀ H,S.past (getT S.T x.key).1=some H->(getT S.T x.key).2=true->H.last<x.mod) :
 Calls Tryz.prog 122 #[.pointer (some ⟨s,0,none⟩),kvV x] w fun e w'=>(∃ v,e=.returned v)/\∃ F',zak TA w' s (putS S x) F'/\Fr F w w'/\(∀ b,F' b->F b\/w.heap.size<=b):=by
 obtain ⟨t,p,ev,hp,FT,FH,a,hF⟩:=hS;obtain ⟨c,x2,x3,I,x5,x6⟩:=x;have c0:=a.obj.cell 0 rfl;have l1:=a.obj.lt;have ar:=fun W hW=>hT.get (w:=W) (t:=t) (T:=S.T) (F:=FT) c hW;have HG:=H_ ar;have Z:=H_ a;have aH:=H_ hF;unfold kvV;dsimp only at *;clear ar a hF;go_enter Tryz.func122,Tryz.ntmps122;go_wp2_with fail;have hk:=zad w (Obj.cells #[.string c,.string x2,.int .i64 x3,.int .i64 I,.int .i64 x5,.int .i64 x6] 99) _ rfl;have X:Fr No w (w.alloc (Obj.cells #[.string c,.string x2,.int .i64 x3,.int .i64 I,.int .i64 x5,.int .i64 x6] 99)):=(Fr.refl No w).alloc _;generalize w.alloc (Obj.cells #[.string c,.string x2,.int .i64 x3,.int .i64 I,.int .i64 x5,.int .i64 x6] 99)=W0 at hk X ⊢
 have k0:W0.cell? ⟨w.heap.size,0,none⟩=some (.string c):=cellAt hk 0 rfl;have e0:=X.cell0 c0
 go_region_held (fun W=>W.cell? ⟨s,0,none⟩=some (.pointer (some ⟨t,0,none⟩))/\W.cell? ⟨w.heap.size,0,none⟩=some (.string c))
  (first | exact ⟨e0,k0⟩ | exact ⟨U.cell0 e0,U.cell0 k0⟩)
  (first | (go_at_call 121;refine (HG.out _ (hT.fr Z.out.tree X.drew (fun _ _ s=>s))).mono ?_;rintro e w1 ⟨rfl,U⟩;unfold zcw))
 have A:Fr No w w1:=X.drew.trans0 U;have af:=U.heap (b:=w.heap.size) hk id;have aL:w.heap.size+1<=w1.heap.size:=by have:=zaa af;omega
 clear hk X k0 e0 U;go_upto_if 18 with fail
 go_cut [4,5] (fun s4 _ wx=>s4=.int .i64 (idS S c)/\Hid (wx.heap[w.heap.size]?=some (.cells #[.string c,.string x2,.int .i64 x3,.int .i64 I,.int .i64 x5,.int .i64 x6] 99 (0,0))) ∧
  ∃ a8 a0 G,Hid (StoreR TA wx s t p ev a8 a0 G (madeS S c))/\Hid (Fr (storeF s p ev FT FH) w wx)/\Hid (∀ b,storeF s p ev a0 G b->storeF s p ev FT FH b\/w.heap.size<b))
 case first =>
  cases hg:(getT S.T c).2
  · have c2:w1.cell? ⟨s,2,none⟩=some (.int .i64 S.next):=A.cell0 (Z.out.obj.cell 2 rfl)
    have f2:w1.frozen? ⟨s,2,none⟩=false:=A.free0 (Z.out.obj.cell 2 rfl) (Z.out.obj.free 2);have bi:=hok.pos;have bl:=hok.next;have bK:s<w1.heap.size:=(by have:=A.size;omega);go_wp2_with fail;have ho:=(Z.out.fr hT A fun _ _ s=>s).obj.set 2 (.int .i64 (S.next+1));have a7:Fr (fun b=>b=s) w1 (w1.setCell ⟨s,2,none⟩ (.int .i64 (S.next+1))):=(Fr.refl _ w1).setAt 2 _;have R:=(Z.out.fr hT A fun _ _ s=>s).setObj hT a7 (S.next+1) S.rev S.mark ho;have aR:(w1.setCell ⟨s,2,none⟩ (.int .i64 (S.next+1))).heap.size=w1.heap.size:=(by simp);have aB:(w1.setCell ⟨s,2,none⟩ (.int .i64 (S.next+1))).heap[w.heap.size]?=_:=a7.heap af (by omega);have ay:Fr (fun b=>b=s) w (w1.setCell ⟨s,2,none⟩ (.int .i64 (S.next+1))):=A.mono (fun _ _ h=>h.elim) |>.trans a7 fun _ _ h=>h;have bM:=ay.size
    generalize w1.setCell ⟨s,2,none⟩ (.int .i64 (S.next+1))=W1 at *;have aW:=hT.set c S.next R.tree (hroom hg);have e0:=R.obj.cell 0 rfl;have k0:W1.cell? ⟨w.heap.size,0,none⟩=some (.string c):=cellAt aB 0 rfl;have nT:¬ FT s:=R.ds.1;have nB:¬ FT w.heap.size:=fun h=>by have:=hT.lt Z.out.tree _ h;omega
    go_region_held (fun W=>W.cell? ⟨s,0,none⟩=some (.pointer (some ⟨t,0,none⟩))/\W.cell? ⟨w.heap.size,0,none⟩=some (.string c))
     (first | exact ⟨e0,k0⟩ | exact ⟨a4.cell e0 nT,a4.cell k0 nB⟩)
     (first | (go_at_call 116;refine (hT.set c S.next (hT.fr R.tree (Fr.refl No W1).drew (fun _ _ s=>s)) (hroom hg)).mono ?_;rintro e z ⟨⟨v,rfl⟩,F2,aX,a4,aC⟩))
    have M:Fr FT W1 z:=((Fr.refl FT W1).drew).trans a4 fun _ _ h=>h;have L:=R.setTree hT M aX aC;have aE:=M.heap aB nB;have b0:Fr (storeF s p ev FT FH) w z:=(ay.mono fun b _ h=>.inl h).trans M fun b _ h=>.inr (.inr (.inl h))
    have ai:∀ b,storeF s p ev F2 FH b->storeF s p ev FT FH b\/w.heap.size<b:=by
     rintro b (h | h | h | h | h)
     · exact .inl (.inl h)
     · exact .inl (.inr (.inl h))
     · rcases aC b h with h | h
       · exact .inl (.inr (.inr (.inl h)))
       right;have:=aL;simp at h;omega
     · exact .inl (.inr (.inr (.inr (.inl h))))
     exact .inl (.inr (.inr (.inr (.inr h))))
    have D:(Lit.int .i64 S.next).wf=true:=wf64 (by omega) (by omega);have m1:=L.obj.cell 1 rfl;have bm:¬ s=p:=fun e=>L.map.apart L.obj e.symm
    have HS:∀ W,Fr No z W->W.cell? ⟨s,1,none⟩=some (.map (some p))/\∀ v,(Instr.mapUpdate 105 (.map (some p)) (.int .i64 S.next) v).run Tryz.prog W=.ok () (mapUpW Tryz.prog 105 p S.next v W):=fun W hW =>
     ⟨hW.cell0 m1,fun v=>((L.map.fr hW id).up (P:=Tryz.prog) (t:=105) (k:=3) Tryz.underlying105 Tryz.underlying3 D v).1⟩
    have aS:∀ W u,Fr No z W->(mapUpW Tryz.prog 105 p S.next u W).cell? ⟨s,1,none⟩=some (.map (some p)) ∧
     ∀ v,(Instr.mapUpdate 105 (.map (some p)) (.int .i64 S.next) v).run Tryz.prog (mapUpW Tryz.prog 105 p S.next u W)=.ok () (mapUpW Tryz.prog 105 p S.next v (mapUpW Tryz.prog 105 p S.next u W)):=fun W u hW=>by
     obtain ⟨_,h2,h3,_⟩:=(L.map.fr hW id).up (P:=Tryz.prog) (t:=105) (k:=3) Tryz.underlying105 Tryz.underlying3 D u;exact ⟨h3.cell (hW.cell0 m1) bm,fun v=>(h2.up (P:=Tryz.prog) (t:=105) (k:=3) Tryz.underlying105 Tryz.underlying3 D v).1⟩
    have Y:=H_ HS;have H2:=H_ aS;have ag:=H_ L;have a9:=H_ aE;have ad:=H_ b0;have j:=H_ ai;clear HS aS L aE b0 ai M a4 aX aC aW R aB ay a7 ho af A HG aR e0 k0 m1;have bS:∀ w,(Instr.makeMap 169 none).run Tryz.prog w=.ok (.map (some w.heap.size)) (w.alloc (.map #[] 0)):=fun w=>run_makeMap 169 w;go_wp2_with fail
    go_region_held (fun W=>W.cell? ⟨s,1,none⟩=some (.map (some p))/\∀ v,(Instr.mapUpdate 105 (.map (some p)) (.int .i64 S.next) v).run Tryz.prog W=.ok () (mapUpW Tryz.prog 105 p S.next v W))
     (first
       | ((refine Y.out _ ?_);(repeat (first | with_reducible exact Fr.refl _ _ | with_reducible refine Fr.alloc ?_ _ | with_reducible refine Fr.drew ?_ | (refine Fr.trans0 ?_ (by assumption))));done)
       | ((refine H2.out _ _ ?_);(repeat (first | with_reducible exact Fr.refl _ _ | with_reducible refine Fr.alloc ?_ _ | with_reducible refine Fr.drew ?_ | (refine Fr.trans0 ?_ (by assumption))));done))
     (first | (go_at_call 117;refine (zmk _).mono ?_;rintro e C ⟨g,rfl,FK,a2,ab,aM⟩))
    · have E:Fr No z C:=(Fr.refl No z).drew.trans0 ab
      have aP:=E.size;have ae:=a2.lt;have l:∀ b,FK b->z.heap.size<=b:=aM;have d:Fr No z ((C.alloc (Obj.map #[] 0)).alloc (Obj.cells #[Value.pointer (some ⟨g,0,none⟩),Value.map (some C.heap.size)] 171)):=(E.alloc _).alloc _
      have hh:HistAt ((C.alloc (Obj.map #[] 0)).alloc (Obj.cells #[Value.pointer (some ⟨g,0,none⟩),Value.map (some C.heap.size)] 171)) (C.heap.size+1) newH (fun b=>b=C.heap.size+1\/b=C.heap.size\/FK b) :=
       zkx ⟨171,zad _ _ _ (by simp)⟩ (a2.fr (((Fr.refl No C).alloc _).alloc _) fun _ _ s=>s) ((MapAt.made C).alloc _) (fun h=>by have:=ae _ h;omega) (fun h=>by have:=ae _ h;omega)
      obtain ⟨hM,y⟩:=zrg hT ag.out S.next (by
       cases hc:S.past S.next with
       | none=>rfl
       | some H=>have:=hok.ids _ _ hc;omega) D d hh (fun b B=>by
         rcases B with rfl | rfl | B
         · omega
         · omega
         exact l b B)
      have HM:=H_ hM;have H5:=H_ y;clear hM y hh;go_wp2_with fail;go_meet
      case rel =>
       have bk:=ag.out.map.lt;refine ⟨by unfold idS;rw [hg];rfl,H_ (H5.out.heap (d.heap a9.out id) ?_),_,_,_,H_ (by unfold madeS;rw [hg];exact HM.out),H_ ?_,H_ ?_⟩
       · intro e
         have:=Z.out.map.lt;have e':w.heap.size=p:=e;omega
       · exact (ad.out.trans0 d).trans H5.out fun b _ e=>.inr (.inl e)
       have be:=ad.out.size
       have bb:=zaa a9.out;rintro b (h | h | h | h | ⟨i,h⟩)
       · exact j.out b (.inl h)
       · exact j.out b (.inr (.inl h))
       · exact j.out b (.inr (.inr (.inl h)))
       · exact j.out b (.inr (.inr (.inr (.inl h))))
       by_cases hi:i=S.next
       · rw [if_pos hi] at h
         right
         rcases h with rfl | rfl | h
         · omega
         · omega
         have:=l b h;omega
       rw [if_neg hi] at h
       exact j.out b (.inr (.inr (.inr (.inr ⟨i,h⟩))))
    have E:Fr No z C:=((Fr.refl No z).alloc _).drew.trans0 ab
    have aP:=E.size;have ae:=a2.lt;have l:∀ b,FK b->z.heap.size<b:=fun b B=>by have:=aM b B;simp at this;omega
    have bf:z.heap.size+1<=C.heap.size:=(by have:=ab.size;simpa using this);have bo:MapAt C z.heap.size fun _=>none:=(MapAt.made z).fr (S:=No) ((Fr.refl No (z.alloc (Obj.map #[] 0))).drew.trans0 ab) id;have d:Fr No z (C.alloc (Obj.cells #[Value.pointer (some ⟨g,0,none⟩),Value.map (some z.heap.size)] 171)):=E.alloc _
    have hh:HistAt (C.alloc (Obj.cells #[Value.pointer (some ⟨g,0,none⟩),Value.map (some z.heap.size)] 171)) C.heap.size newH (fun b=>b=C.heap.size\/b=z.heap.size\/FK b) :=
     zkx ⟨171,zad _ _ _ rfl⟩ (a2.fr ((Fr.refl No C).alloc _) fun _ _ s=>s) (bo.alloc _) (fun h=>by have:=ae _ h;omega) (fun h=>by have:=l _ h;omega)
    obtain ⟨hM,y⟩:=zrg hT ag.out S.next (by
     cases hc:S.past S.next with
     | none=>rfl
     | some H=>have:=hok.ids _ _ hc;omega) D d hh (fun b B=>by
       rcases B with rfl | rfl | B
       · omega
       · omega
       exact Nat.le_of_lt (l b B))
    have HM:=H_ hM;have H5:=H_ y;clear hM y hh;go_wp2_with fail;go_meet
    case rel =>
     have bk:=ag.out.map.lt;refine ⟨by unfold idS;rw [hg];rfl,H_ (H5.out.heap (d.heap a9.out id) ?_),_,_,_,H_ (by unfold madeS;rw [hg];exact HM.out),H_ ?_,H_ ?_⟩
     · intro e
       have:=Z.out.map.lt;have e':w.heap.size=p:=e;omega
     · exact (ad.out.trans0 d).trans H5.out fun b _ e=>.inr (.inl e)
     have be:=ad.out.size
     have bb:=zaa a9.out;rintro b (h | h | h | h | ⟨i,h⟩)
     · exact j.out b (.inl h)
     · exact j.out b (.inr (.inl h))
     · exact j.out b (.inr (.inr (.inl h)))
     · exact j.out b (.inr (.inr (.inr (.inl h))))
     by_cases hi:i=S.next
     · rw [if_pos hi] at h
       right
       rcases h with rfl | rfl | h
       · omega
       · omega
       have:=l b h;omega
     rw [if_neg hi] at h
     exact j.out b (.inr (.inr (.inr (.inr ⟨i,h⟩))))
  go_wp2_with fail
  go_meet
  case rel=>exact ⟨by unfold idS;rw [hg];rfl,H_ af,hp,FT,FH,H_ (by unfold madeS;rw [hg];exact Z.out.fr hT A fun _ _ s=>s),H_ (A.mono fun _ _ s=>s.elim),H_ fun b h=>.inl h⟩
 case rest =>
  obtain ⟨rfl,HK,a8,a0,G,HM,HF,HN⟩:=hcut;have bi:=hok.pos;have bl:=hok.next
  obtain ⟨Y,aQ,au,aY,br⟩:∃ Y,(madeS S c).past (idS S c)=some Y/\HistOk n Y/\Y.last<I/\0<=idS S c/\idS S c<=S.next:=by
   unfold madeS idS;cases hg:(getT S.T c).2
   · refine ⟨newH,by simp,⟨by simp [newH],by simp [newH]⟩,by unfold newH;dsimp only;omega,by simp;omega⟩
   obtain ⟨H,hH⟩:∃ H,S.past (getT S.T c).1=some H:=by
    revert hg
    unfold getT
    cases hf:S.T.find? (fun q=>keq q.1 c) with
    | none=>intro h;cases h
    | some q=>intro _;exact hok.id q (List.mem_of_find?_eq_some hf)
   have:=hok.ids _ _ hH;exact ⟨H,by simpa using hH,(hok.hist _ _ hH).1,hlast H hH hg,by simp;omega⟩
  have bn:(Lit.int .i64 (idS S c)).wf=true:=wf64 (by omega) (by omega);have ao:putS S ⟨c,x2,x3,I,x5,x6⟩ = { madeS S c with past:=fun i=>if i=idS S c then some (putH Y ⟨c,x2,x3,I,x5,x6⟩) else (madeS S c).past i }:=(by unfold putS;dsimp only;rw [aQ];rfl);have aK:=H_ ao;clear ao;obtain ⟨h,hh,g,m,FK,b,aa⟩:=HM.out.hist _ _ aQ;have aF:((a8 (idS S c)).map fun h=>Value.pointer (some ⟨h,0,none⟩)).getD (.pointer none)=.pointer (some ⟨h,0,none⟩):=(by rw [hh];rfl);have bJ:=HM.out.obj.cell 1 rfl;have h0:=b.obj.cell 0 rfl;have h1:=b.obj.cell 1 rfl;have k3:wc.cell? ⟨w.heap.size,3,none⟩=some (.int .i64 I):=(by simp [World.cell?,HK.out]);have ls:=HM.out.obj.lt;have lh:=b.obj.lt;have lk:=zaa HK.out
  have J:¬ G (idS S c) w.heap.size:=fun e=>by
   rcases HN.out _ (.inr (.inr (.inr (.inr ⟨_,e⟩)))) with e | e
   · have:=Z.out.lt hT _ e;omega
   omega
  have aJ:¬ FK w.heap.size:=fun e=>J ((aa _).2 (.inr (.inr e)));have bE:w.heap.size≠m:=fun e=>J ((aa _).2 (.inr (.inl e)));have O:=H_ b;have V:=H_ aa;have b8:=H_ aF;have aN:=H_ au;clear b aa aF au J;go_wp2_with (at_lookup;refine zgm rfl _ _ 105 rfl 3 167 Tryz.underlying105 Tryz.underlying3 p _ rfl HM.out.map (idS S c) rfl bn _ (zero142 _) _ b8.out ?_)
  go_region_held (fun W=>W.cell? ⟨h,0,none⟩=some (.pointer (some ⟨g,0,none⟩))/\W.cell? ⟨w.heap.size,3,none⟩=some (.int .i64 I))
   (first | exact ⟨h0,k3⟩ | exact ⟨d.cell h0 O.out.d1,d.cell k3 aJ⟩)
   (first | (go_at_call 118;refine (zwg _ g Y.gens Y.last I FK (O.out.key.fr (Fr.refl No wc).drew (fun _ _ s=>s)) (aN.out.fits hn) hm1 hm2 aY).mono ?_;rintro e w4 ⟨rfl,az,aZ,d,aT⟩))
  go_wp2_with fail;have o:Fr FK wc w4:=((Fr.refl FK wc).drew).trans d fun _ _ h=>h;have bR:=o.cell h1 O.out.d1;have aA:=o.heap HK.out aJ;obtain ⟨k0,k1,k2,bH,k4,k5⟩:=cells6 aA;have bP:h<w4.heap.size:=(by have:=o.size;omega);have bN:w.heap.size<w4.heap.size:=zaa aA;have bp:MapAt w4.drew m fun r=>(Y.kvs r).map kvV:=O.out.map.fr o.drew O.out.d2;have bd:(Lit.int .i64 I).wf=true:=wf64 (by omega) (by unfold top at hm2;omega);have aV:=H_ o;have b6:=H_ aZ;have ah:=H_ aT;clear d o aZ aT aA;refine wp_region_still_tail 7 (by kernel_rfl) (by kernel_rfl) ?_;simp only [List.take_succ_cons,List.take_zero,List.drop_succ_cons,List.drop_zero];change wpStill _ _ w4.drew _ _ _
  repeat (refine wpStill_step (fun K hK=>?_);go_simp;(try go_bits);refine hK _ ?_;clear hK K)
  refine wpStill_nil ?_;change wpList _ _ _ _ _ w4.drew;refine zmm rfl _ _ _ 169 rfl 3 99 Tryz.underlying169 Tryz.underlying3 m _ rfl bp I rfl bd (kvV ⟨c,x2,x3,I,x5,x6⟩) rfl ?_;intro w5 bj y bz;go_wp2;refine bodyPost_end (results_none rfl _ _ _) rfl ?_;have bU:=O.out.map.lt;have aG:Fr (G (idS S c)) wc w5:=(aV.out.drew.mono fun b _ e=>(V.out b).2 (.inr (.inr e))).trans (y.mono (S:=fun x=>x=m) (T:=G (idS S c)) fun b _ e=>(V.out b).2 (.inr (.inl e))) fun _ _ e=>e
  have aw:HistAt w5 h (putH Y ⟨c,x2,x3,I,x5,x6⟩) (fun b=>b=h\/b=m\/az b):=by
   refine ⟨g,m,az,⟨?_,?_,?_,?_,?_⟩,fun _=>Iff.rfl⟩
   · refine (O.out.obj.fr aV.out.drew O.out.d1).fr y fun e=>?_
     exact O.out.map.apart O.out.obj e.symm
   · refine b6.out.fr ((Fr.refl (fun x=>x=m) w4).drew.trans y fun _ _ e=>e) fun b B e=>?_
     have e':b=m:=e;subst e';rcases ah.out _ B with f | f
     · exact O.out.d2 f
     have h6:wc.heap.size<=b:=f
     omega
   · refine cast (congrArg (MapAt w5 m) ?_) bj
     funext r
     unfold putH;dsimp only;by_cases hr:r=I <;> simp [hr]
   · intro B
     rcases ah.out _ B with f | f
     · exact O.out.d1 f
     have h6:wc.heap.size<=h:=f
     omega
   intro B
   rcases ah.out _ B with f | f
   · exact O.out.d2 f
   have h6:wc.heap.size<=m:=f
   omega
  have aj:∀ b,(b=h\/b=m\/az b)->G (idS S c) b\/wc.heap.size<=b:=by
   rintro b (e | e | e)
   · exact .inl ((V.out b).2 (.inl e))
   · exact .inl ((V.out b).2 (.inr (.inl e)))
   rcases ah.out b e with f | f
   · exact .inl ((V.out b).2 (.inr (.inr f)))
   exact .inr f
  have aI:=HM.out.setHist hT hh aG aw aj;refine ⟨⟨_,rfl⟩,_,⟨t,p,ev,a8,a0,_,by rw [aK.out];exact aI,fun _=>Iff.rfl⟩,?_,?_⟩
  · have ba:=HF.out.size
    refine (HF.out.trans aG fun b B e=>?_).mono fun b _ e=>(aH.out b).2 e;rcases HN.out b (.inr (.inr (.inr (.inr ⟨_,e⟩)))) with f | f
    · exact f
    omega
  have ba:=HF.out.size
  have Q:∀ b,storeF s p ev a0 G b->F b\/w.heap.size<=b:=fun b B=>by
   rcases HN.out b B with f | f
   · exact .inl ((aH.out b).2 f)
   exact .inr (by omega)
  rintro b (e | e | e | e | ⟨i,e⟩)
  · exact Q b (.inl e)
  · exact Q b (.inr (.inl e))
  · exact Q b (.inr (.inr (.inl e)))
  · exact Q b (.inr (.inr (.inr (.inl e))))
  by_cases hi:i=idS S c
  · rw [if_pos hi] at e
    rcases aj b e with f | f
    · exact Q b (.inr (.inr (.inr (.inr ⟨_,f⟩))))
    exact .inr (by omega)
  rw [if_neg hi] at e
  exact Q b (.inr (.inr (.inr (.inr ⟨i,e⟩))))
def sign3 (s:ByteArray):Bool:=decide (3<=s.size)&&((s.extract 0 3).toList == [239,191,189])
theorem zjo (w:World) (s:ByteArray):Calls Tryz.prog 183 #[.string s,.string ⟨#[239,191,189]⟩] w fun e w'=>e=.returned (.bool (sign3 s))/\w=w':=by
 by_cases h:3<=s.size
 · have b:(3:Int)<=(s.size:Int):=by omega
   have a:sign3 s=((s.extract 0 3).toList == [239,191,189]):=(by unfold sign3;simp [h]);rw [a];go_enter Tryz.func183,Tryz.ntmps183;go_wp2;go_ret;exact ⟨rfl,rfl⟩
 have b:¬ (3:Int)<=(s.size:Int):=by omega
 have a:sign3 s=false:=(by unfold sign3;simp [h]);rw [a];go_enter Tryz.func183,Tryz.ntmps183;go_wp2;go_ret;exact ⟨rfl,rfl⟩
theorem zii (w:World) (s:ByteArray):Calls Tryz.prog 179 #[.string s,.string ⟨#[239,191,189]⟩] w fun e w'=>e=.returned (.bool (sign3 s))/\w=w':=by
 go_enter Tryz.func179,Tryz.ntmps179;go_wp2_with (go_at_call 183;refine (zjo _ _).mono ?_;rintro e w' ⟨rfl,rfl⟩);go_ret;exact ⟨rfl,rfl⟩
def zfb (s:ByteArray) (i:Nat):Bool:=(Utf8.decode s i).1==65533 && !sign3 (s.extract i s.size)
theorem zor (w:World) (s:ByteArray) (i r:Nat) (hi:i<=s.size):Calls Tryz.prog 161 #[.string s,.int .i64 i,.int .i32 r] w fun e w'=>e=.returned (.bool (r==65533 && !sign3 (s.extract i s.size)))/\w=w':=by
 have c:(i:Int)<=(s.size:Int):=by omega
 have b:((r:Int)==65533)=(r==65533):=by rw [Bool.eq_iff_iff,beq_iff_eq,beq_iff_eq];omega
 by_cases h:r=65533
 · subst h
   go_enter Tryz.func161,Tryz.ntmps161;go_wp2_with (go_at_call 179;refine (zii _ _).mono ?_;rintro e w' ⟨rfl,rfl⟩);go_ret;exact ⟨by simp,rfl⟩
 have a:(r==65533)=false:=by simpa using h
 rw [a] at b;go_enter Tryz.func161,Tryz.ntmps161;go_wp2;go_ret;exact ⟨by rw [a];rfl,rfl⟩
def runesK (s:ByteArray):Nat->Nat->Int->Int
 | 0,_,n=>n
 | g+1,i,n=>if i<s.size then (if zfb s i then -1 else runesK s g (i+(Utf8.decode s i).2) (n+1)) else n
def runes (s:ByteArray):Int:=runesK s s.size 0 0
theorem zoj (s:ByteArray) (i:Nat) (h:i<s.size):1<=(Utf8.decode s i).2/\i+(Utf8.decode s i).2<=s.size:=by
 refine ⟨Go.Lib.decode_width_pos s i h,?_⟩;unfold Utf8.decode;simp only
 repeat' split
 all_goals simp_all
 all_goals omega
theorem ziw (s:ByteArray):∀ (g i:Nat) (n:Int) (g':Nat),s.size<=i+g->g<=g'->runesK s g' i n=runesK s g i n
 | 0,i,n,g',h,_=>by
   cases g' with
   | zero=>rfl
   | succ g'=>unfold runesK;rw [if_neg (by omega)]
 | g+1,i,n,g',h,hg=>by
   cases g' with
   | zero=>omega
   | succ g' =>
     unfold runesK;by_cases hi:i<s.size
     · rw [if_pos hi,if_pos hi]
       cases zfb s i
       · simp only [Bool.false_eq_true,if_false]
         have:=(zoj s i hi).1;exact ziw s g _ _ g' (by omega) (by omega)
       rfl
     rw [if_neg hi,if_neg hi]
theorem zih (w:World) (s:ByteArray):Calls Tryz.prog 162 #[.string s,.int .u8 0] w fun e w'=>e=.returned (.int .i64 (firstIdx s 0))/\w=w':=by
 have a:∀ W,(callFunc 180 #[.string s,.int .u8 0]).run Tryz.prog W=.ok (.value (.int .i64 (firstIdx s 0))) W:=by
  intro W;rw [run_callFunc_extern (e:=Extern.BytealgIndexByte.indexByte) Tryz.func180 (by kernel_rfl) (by kernel_rfl) (by kernel_rfl) (by kernel_rfl),run_indexByte_string]
  rfl
 go_enter Tryz.func162,Tryz.ntmps162;go_wp2;go_ret;exact ⟨rfl,rfl⟩
theorem zjm (w:World) (s:ByteArray):Calls Tryz.prog 120 #[.string s,.int .u8 0] w fun e w'=>e=.returned (.int .i64 (firstIdx s 0))/\w=w':=by
 go_enter Tryz.func120,Tryz.ntmps120;go_wp2_with (go_at_call 162;refine (zih _ _).mono ?_;rintro e w' ⟨rfl,rfl⟩);go_ret;exact ⟨rfl,rfl⟩
theorem run_next_at {P:Program} (w:World) (b:Nat) (s:ByteArray) (pos:Nat) (ty:TypeId) (hb:w.heap[b]?=some (.stringIter s pos)) (h:pos<s.size) :
 (Instr.next (.pointer (some ⟨b,0,none⟩)) true ty).run P w =
   .ok (.tuple #[.bool true,.int .i64 pos,.int .i32 (Utf8.decode s pos).1]) (ChangeMaps.setBlock w b (.stringIter s (pos+(Utf8.decode s pos).2))):=by
 simp [Instr.next,getObj,setObj,Sem.run,Result.andThen,hb,h,goInt,ChangeMaps.setBlock]
theorem zln {P:Program} (w:World) (b:Nat) (s:ByteArray) (pos:Nat) (ty:TypeId) (hb:w.heap[b]?=some (.stringIter s pos)) (h:¬ pos<s.size) :
 (Instr.next (.pointer (some ⟨b,0,none⟩)) true ty).run P w=.ok (.tuple #[.bool false]) w:=by
 simp [Instr.next,getObj,Sem.run,hb,h]
theorem zhm (w:World) (b k:Nat) (o:Obj) (h:k≠b):(ChangeMaps.setBlock w b o).heap[k]?=w.heap[k]?:=by
 unfold ChangeMaps.setBlock;exact Array.getElem?_setIfInBounds_ne (fun e=>h e.symm)
theorem zud (w:World) (b:Nat) (o:Obj) (h:b<w.heap.size):(ChangeMaps.setBlock w b o).heap[b]?=some o:=by
 unfold ChangeMaps.setBlock;simp [h]
theorem zqo (w:World) (s:ByteArray) (hs:s.size<=1099511627776):Calls Tryz.prog 119 #[.string s] w fun e w'=>e=.returned (.int .i64 (runes s))/\Fr No w w':=by
 go_enter Tryz.func119,Tryz.ntmps119;go_wp2
 go_loopg [3] s.size (fun g s3 wr=>∃ (a:Nat) (n:Int),s3=.int .i64 n/\a+g=s.size/\0<=n/\n<=a/\Hid (runesK s g a n=runes s)/\Hid (wr.heap[w.heap.size]?=some (.stringIter s a))/\Hid (Fr No w wr))
 case atStart=>exact ⟨0,0,rfl,by simp,by omega,by omega,H_ rfl,H_ (World.iter_heap _ _ _),H_ ((Fr.refl No w).alloc _)⟩
 case round =>
  obtain ⟨a,n,rfl,B,x,v,p,u,i⟩:=hrel;by_cases hp:a<s.size
  · have t:=fun ty=>run_next_at (P:=Tryz.prog) wr w.heap.size s a ty u.out hp
    have A:=zoj s a hp
    have l:Fr No w (ChangeMaps.setBlock wr w.heap.size (.stringIter s (a+(Utf8.decode s a).2))) :=
     ⟨i.out.os,i.out.tape,i.out.output,by have:=i.out.size;simpa [ChangeMaps.setBlock] using this,fun k hk hS=>(zhm wr _ k _ (by omega)).trans (i.out.block k hk hS)⟩
    have m:=zud wr w.heap.size (.stringIter s (a+(Utf8.decode s a).2)) (zaa u.out)
    have b:runesK s gk a n=if zfb s a then -1 else runesK s (s.size-(a+(Utf8.decode s a).2)) (a+(Utf8.decode s a).2) (n+1):=by
     obtain ⟨k,rfl⟩:∃ k,gk=k+1:=⟨gk-1,by omega⟩
     conv=>lhs;unfold runesK
     rw [if_pos hp]
     congr 1
     exact ziw s _ _ _ _ (by omega) (by omega)
    have o:=H_ l;have q:=H_ m;have c:=fun W=>zor W s a (Utf8.decode s a).1 (by omega);have j:((Utf8.decode s a).1==65533 && !sign3 (s.extract a s.size))=zfb s a:=rfl;simp only [j] at c;generalize ChangeMaps.setBlock wr w.heap.size (.stringIter s (a+(Utf8.decode s a).2))=z at *;generalize Utf8.decode s a=d at *;clear l m j;cases hw:zfb s a
    · rw [hw] at b c
      have r:=H_ b;clear b hw;go_wp2_with (go_at_call 161;refine (c _).mono ?_;rintro e w' ⟨rfl,rfl⟩);go_roundg (s.size-(a+d.2))
      case rel=>exact ⟨a+d.2,n+1,rfl,by omega,by omega,by omega,H_ (by rw [<-p.out,r.out];simp),q,o⟩
      case measure=>omega
    rw [hw] at b c
    have r:=H_ b;clear b hw;go_wp2_with (go_at_call 161;refine (c _).mono ?_;rintro e w' ⟨rfl,rfl⟩);go_ret;exact ⟨by rw [<-p.out,r.out];rfl,o.out⟩
  have t:=fun ty=>zln (P:=Tryz.prog) wr w.heap.size s a ty u.out hp
  have f:runesK s gk a n=n:=by
   obtain rfl:gk=0:=by omega
   rfl
  have y:=H_ f;clear f;go_wp2;go_ret;exact ⟨by rw [<-p.out,y.out];rfl,i.out⟩
def keyE (s:ByteArray):Int:=if runes s<1\/0<=firstIdx s 0 then 30 else if 64<s.size then 31 else 0
theorem zkc (w:World) (s:ByteArray) (hs:s.size<=1099511627776):Calls Tryz.prog 65 #[.string s] w fun e w'=>e=.returned (.int .i64 (keyE s))/\Fr No w w':=by
 have c:=fun W=>zqo W s hs;have b:=fun W=>zjm W s;have g:0<=runes s\/runes s<0:=by omega
 unfold keyE;generalize runes s=r at *;generalize firstIdx s 0=x at *;by_cases h1:r<1
 · have f:¬ 1<=r:=by omega
   rw [if_pos (.inl h1)];go_enter Tryz.func65,Tryz.ntmps65;go_wp2_with (first | (go_at_call 119;refine (c _).mono ?_;rintro e w1 ⟨rfl,a⟩) | (go_at_call 120;refine (b _).mono ?_;rintro e w' ⟨rfl,rfl⟩));go_ret;exact ⟨rfl,a⟩
 by_cases h2:0<=x
 · rw [if_pos (.inr h2)]
   go_enter Tryz.func65,Tryz.ntmps65;go_wp2_with (first | (go_at_call 119;refine (c _).mono ?_;rintro e w1 ⟨rfl,a⟩) | (go_at_call 120;refine (b _).mono ?_;rintro e w' ⟨rfl,rfl⟩));go_ret;exact ⟨rfl,a⟩
 rw [if_neg (by omega)]
 by_cases h3:64<s.size
 · have d:(64:Int)<(s.size:Int):=by omega
   rw [if_pos h3];go_enter Tryz.func65,Tryz.ntmps65;go_wp2_with (first | (go_at_call 119;refine (c _).mono ?_;rintro e w1 ⟨rfl,a⟩) | (go_at_call 120;refine (b _).mono ?_;rintro e w' ⟨rfl,rfl⟩));go_ret;exact ⟨rfl,a⟩
 have d:¬ (64:Int)<(s.size:Int):=by omega
 rw [if_neg h3];go_enter Tryz.func65,Tryz.ntmps65;go_wp2_with (first | (go_at_call 119;refine (c _).mono ?_;rintro e w1 ⟨rfl,a⟩) | (go_at_call 120;refine (b _).mono ?_;rintro e w' ⟨rfl,rfl⟩));go_ret;exact ⟨rfl,a⟩
end Go.Proofs.YthljnnjpmdgkoaaGreat