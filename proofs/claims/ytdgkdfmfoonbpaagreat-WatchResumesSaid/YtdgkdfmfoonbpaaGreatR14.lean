/- Own lemmas. -/
import Derived.Test.YtdgkdfmfoonbpaaGreatR13
import Derived.Test.YtdgkdfmfoonbpaaGreatR09
import Derived.Deep.RegionHeld
import Derived.Deep.DeepCutAuto
import Derived.Test.YtdgkdfmfoonbpaaGreatProg
import Derived.Laws.RangeString
import Derived.Lib.Bytealg
import Derived.Lib.RuneCount
namespace Go.Proofs.YtdgkdfmfoonbpaaGreat
open Go Go.Proofs Go.RowKit
set_option maxRecDepth 100000
theorem zme {TA:zai} {N:Nat} (_:TreeOk TA N) {n:Nat} (hn:n<=1099511627) (w:World) (s:Nat) (S:St) (F:Nat->Prop) (hS:zal TA w s S F) (hok:StOk n S) (at_ rev:Int) (H:Hist) (hH:S.past at_=some H) :
 Calls Tryz.prog 60 #[.pointer (some ⟨s,0,none⟩),.int .i64 at_,.int .i64 rev] w fun e w'=>e=.returned (zco (hadH H rev))/\Fr No w w':=by
 obtain ⟨t,p,ev,hp,FT,FH,a,hF⟩:=hS;obtain ⟨h,hh,g,m,FK,b,aw⟩:=a.hist _ _ hH;have o:=(hok.hist _ _ hH).1;have ah:=hok.ids _ _ hH;have aB:=hok.next;have aa:(Lit.int .i64 at_).wf=true:=wf64 (by omega) (by omega);have f:=o.wf rev;have u:=o.fits hn;have L:=fun W hk=>zpm W g H.gens H.last rev FK hk u;have U:((hp at_).map fun h=>Value.pointer (some ⟨h,0,none⟩)).getD (.pointer none)=.pointer (some ⟨h,0,none⟩):=by rw [hh];rfl
 have Q:((H.kvs (atK H.gens rev).1.2.1).map kvV).getD (kvV kv0)=kvV (hadH H rev).1:=by unfold hadH;cases H.kvs (atK H.gens rev).1.2.1 <;> rfl
 have c1:=a.obj.cell 1 rfl;have h0:=b.obj.cell 0 rfl;have h1:=b.obj.cell 1 rfl;have l1:=a.obj.lt;have l2:=b.obj.lt;have l3:=b.map.lt;have HM:=H_ a.map;have HK:=H_ b.key;have HN:=H_ b.map;have x:=H_ Q;have a3:=H_ U
 have a0:=H_ L;have M:(hadH H rev).2=(atK H.gens rev).2:=rfl;have a1:=H_ M;generalize hadH H rev=r at *;generalize hs:atK H.gens rev=q at *;clear a b Q U L M u hH;obtain ⟨⟨q1,l,q3⟩,q4⟩:=q;obtain ⟨⟨C,D,E,G,I,J⟩,rb⟩:=r;go_enter Tryz.func60,Tryz.ntmps60
 go_wp2_with (first
  | (at_lookup;refine zbf rfl _ _ 109 rfl 3 150 Tryz.underlying109 Tryz.underlying3 p _ rfl (HM.out.alloc _) at_ rfl aa _ (zero142 _) _ a3.out ?_)
  | (at_lookup;refine zbf rfl _ _ 152 rfl 3 70 Tryz.underlying152 Tryz.underlying3 m _ rfl (by first | exact K.out.alloc _ | exact K.out) l rfl f _ (zero57 _) _ x.out ?_)
  | (go_at_call 93;refine (a0.out _ (HK.out.fr ((Fr.refl No w).alloc _) (fun _ _ s=>s))).mono ?_;rintro e w1 ⟨rfl,z⟩
     have A:Fr No w w1:=((Fr.refl No w).alloc _).trans0 z;have a5:=A.cell0 h1;have aD:w.heap.size+1<=w1.heap.size:=(by have:=z.size;simpa using this);have K:=H_ (HN.out.fr A id);have k6:w1.heap[w.heap.size]?=some (.cells #[.string ByteArray.empty,.string ByteArray.empty,.int .i64 0,.int .i64 0,.int .i64 0,.int .i64 0] 70 (0,0)):=z.heap (zae _ _ _ rfl) id;unfold zhy seenV))
 have V:=zae w1 (Obj.cells #[Value.int .i64 q1,Value.int .i64 l,Value.int .i64 q3] 173) _ rfl;generalize hX:w1.alloc (Obj.cells #[Value.int .i64 q1,Value.int .i64 l,Value.int .i64 q3] 173)=X at V;have c:Fr No w X:=by rw [<-hX];exact A.alloc _
 have j:X.heap[w.heap.size]?=some (.cells #[.string ByteArray.empty,.string ByteArray.empty,.int .i64 0,.int .i64 0,.int .i64 0,.int .i64 0] 70 (0,0)):=by rw [<-hX];exact zaq k6 _
 have n1:X.cell? ⟨w1.heap.size,1,none⟩=some (.int .i64 l):=cellAt V 1 rfl;have e1:=c.cell0 h1;have B:=MapAt.look (P:=Tryz.prog) (t:=152) (HN.out.fr (c.drew) id) Tryz.underlying152 Tryz.underlying3 f (zero57 _);rw [x.out] at B;unfold kvV at B;have aA:w.heap.size<X.heap.size:=zac j;have ai:w1.heap.size<X.heap.size:=zac V;have az:h<X.heap.size:=by have:=c.size;omega
 have ad:X.drew.cell? ⟨w1.heap.size,1,none⟩=some (.int .i64 l):=n1;have a4:X.drew.cell? ⟨h,1,none⟩=some (.map (some m)):=e1;have aL:X.drew.heap[w.heap.size]?=some (.cells #[.string ByteArray.empty,.string ByteArray.empty,.int .i64 0,.int .i64 0,.int .i64 0,.int .i64 0] 70 (0,0)):=j;have ax:Fr No w X.drew:=c.drew;obtain ⟨k0,k1,k2,k3,k4,k5⟩:=cells6 j;have kf:∀ i,X.frozen? ⟨w.heap.size,i,none⟩=false:=fun i=>by simp [World.frozen?,j]
 have R:w1.heap.size≠w.heap.size:=by omega
 have T:h≠w.heap.size:=by omega
 have HS:∀ W,Fr (fun b=>b=w.heap.size) X W->W.cell? ⟨h,1,none⟩=some (.map (some m))/\W.cell? ⟨w1.heap.size,1,none⟩=some (.int .i64 l) ∧
  (Instr.lookup 152 (.map (some m)) (.int .i64 l) false).run Tryz.prog W=.ok (.agg #[.string C,.string D,.int .i64 E,.int .i64 G,.int .i64 I,.int .i64 J]) W:=by
  intro W hW;refine ⟨hW.cell e1 T,hW.cell n1 R,?_⟩;have:=MapAt.look (P:=Tryz.prog) (t:=152) ((HN.out.fr c id).fr hW (by omega)) Tryz.underlying152 Tryz.underlying3 f (zero57 _);rw [x.out] at this;exact this
 have y:=H_ HS;clear HS hX a5 B ad a4 V n1
 go_region_held (fun W=>W.cell? ⟨h,1,none⟩=some (.map (some m))/\W.cell? ⟨w1.heap.size,1,none⟩=some (.int .i64 l) ∧
  (Instr.lookup 152 (.map (some m)) (.int .i64 l) false).run Tryz.prog W=.ok (.agg #[.string C,.string D,.int .i64 E,.int .i64 G,.int .i64 I,.int .i64 J]) W)
  (first | (refine y.out _ (Fr.drew ?_);with_reducible exact Fr.refl _ X) | (refine y.out _ (Fr.drew ?_);(iterate 6 (with_reducible refine Fr.setAt ?_ _ _));with_reducible exact Fr.refl _ X)) (fail)
 have z1:=zab j 0 (.string C);have z2:=zab z1 1 (.string D);have z3:=zab z2 2 (.int .i64 E);have z4:=zab z3 3 (.int .i64 G);have z5:=zab z4 4 (.int .i64 I);have Y:=zab z5 5 (.int .i64 J)
 have d:Fr (fun b=>b=w.heap.size) X ((((((X.setCell ⟨w.heap.size,0,none⟩ (.string C)).setCell ⟨w.heap.size,1,none⟩ (.string D)).setCell ⟨w.heap.size,2,none⟩ (.int .i64 E)).setCell ⟨w.heap.size,3,none⟩ (.int .i64 G)).setCell ⟨w.heap.size,4,none⟩ (.int .i64 I)).setCell ⟨w.heap.size,5,none⟩ (.int .i64 J)) :=
  (((((((Fr.refl _ X).setAt 0 _).setAt 1 _).setAt 2 _).setAt 3 _).setAt 4 _).setAt 5 _)
 generalize ((((((X.setCell ⟨w.heap.size,0,none⟩ (.string C)).setCell ⟨w.heap.size,1,none⟩ (.string D)).setCell ⟨w.heap.size,2,none⟩ (.int .i64 E)).setCell ⟨w.heap.size,3,none⟩ (.int .i64 G)).setCell ⟨w.heap.size,4,none⟩ (.int .i64 I)).setCell ⟨w.heap.size,5,none⟩ (.int .i64 J))=Z at Y d ⊢
 simp at Y;obtain ⟨y0,y1,y2,y3,y4,y5⟩:=cells6 Y
 have O:Fr No w Z.drew:=by
  have a8:Fr No w Z:=⟨d.os.trans c.os,d.tape.trans c.tape,d.output.trans c.output,Nat.le_trans c.size d.size,fun k hk _=>(d.block k (Nat.lt_of_lt_of_le hk c.size) (by omega)).trans (c.block k hk id)⟩;exact a8.drew
 clear z1 z2 z3 z4 z5 Y d k0 k1 k2 k3 k4 k5 kf y;go_wp2;have a9:rb=q4:=a1.out;subst a9;refine bodyPost_ret (v:=zco (⟨C,D,E,G,I,J⟩,rb)) (w:=Z.drew) (by rw [results_cell_tmp rfl];go_simp;rfl) rfl ⟨rfl,O⟩
def livesS (S:St) (key:ByteArray) (rev:Int):Kv×Bool :=
 if (getT S.T key).2 then match S.past (getT S.T key).1 with
  | some H=>hadH H rev
  | none=>(kv0,false)
 else (kv0,false)
theorem zmb {w X:World} {b:Nat} {a0 a1 a2 a3 a4 a5:Value} (hk:X.heap[b]?=some (.cells #[a0,a1,a2,a3,a4,a5] 70 (0,0))) (r:Kv) :
 ∃ Z,((((((X.setCell ⟨b,0,none⟩ (.string r.key)).setCell ⟨b,1,none⟩ (.string r.value)).setCell ⟨b,2,none⟩ (.int .i64 r.create)).setCell ⟨b,3,none⟩ (.int .i64 r.mod)).setCell ⟨b,4,none⟩ (.int .i64 r.version)).setCell ⟨b,5,none⟩ (.int .i64 r.lease))=Z ∧
  Z.heap[b]?=some (.cells #[.string r.key,.string r.value,.int .i64 r.create,.int .i64 r.mod,.int .i64 r.version,.int .i64 r.lease] 70 (0,0))/\(Fr No w X->w.heap.size<=b->Fr No w Z):=by
 have c:=zab hk 0 (.string r.key);have d:=zab c 1 (.string r.value);have f:=zab d 2 (.int .i64 r.create);have g:=zab f 3 (.int .i64 r.mod);have i:=zab g 4 (.int .i64 r.version);have k:=zab i 5 (.int .i64 r.lease);have a:=(((((((Fr.refl (fun x=>x=b) X).setAt 0 (.string r.key)).setAt 1 (.string r.value)).setAt 2 (.int .i64 r.create)).setAt 3 (.int .i64 r.mod)).setAt 4 (.int .i64 r.version)).setAt 5 (.int .i64 r.lease));clear c d f g i;generalize ((((((X.setCell ⟨b,0,none⟩ (.string r.key)).setCell ⟨b,1,none⟩ (.string r.value)).setCell ⟨b,2,none⟩ (.int .i64 r.create)).setCell ⟨b,3,none⟩ (.int .i64 r.mod)).setCell ⟨b,4,none⟩ (.int .i64 r.version)).setCell ⟨b,5,none⟩ (.int .i64 r.lease))=Z at *;refine ⟨Z,rfl,?_,fun hf hb=>hf.trans a fun j hj e=>?_⟩
 · rw [k];simp
 have l:j=b:=e
 omega
theorem zii {TA:zai} {N:Nat} (hT:TreeOk TA N) {n:Nat} (hn:n<=1099511627) (w:World) (s:Nat) (S:St) (F:Nat->Prop) (hS:zal TA w s S F) (hok:StOk n S) (key:ByteArray) (rev:Int) :
 Calls Tryz.prog 84 #[.pointer (some ⟨s,0,none⟩),.string key,.int .i64 rev] w fun e w'=>e=.returned (zco (livesS S key rev))/\Fr No w w':=by
 have f:=fun W hW at_ H m=>zme hT hn W s S F hW hok at_ rev H m;have y:=H_ hS;obtain ⟨t,p,ev,hp,P,FH,a,hF⟩:=hS;have c0:=a.obj.cell 0 rfl;have l1:=a.obj.lt;have d:=fun W hW=>hT.get (w:=W) (t:=t) (T:=S.T) (F:=P) key hW;have D:=H_ a.tree;have C:=H_ d;have Q:=H_ f;have E:livesS S key rev=livesS S key rev:=rfl
 have u:(getT S.T key).2=true->∃ H,S.past (getT S.T key).1=some H:=by
  unfold getT
  cases hf:S.T.find? (fun p=>keq p.1 key) with
  | none=>intro h;cases h
  | some q=>intro _;exact hok.id q (List.mem_of_find?_eq_some hf)
 unfold livesS at E ⊢
 generalize getT S.T key=g at *;obtain ⟨X,Y⟩:=g;have R:=H_ u;clear a d f u E;cases Y
 · go_enter Tryz.func84,Tryz.ntmps84
   go_wp2_with (first
    | (go_at_call 105;refine (C.out _ (hT.fr D.out ((Fr.refl No w).alloc _) (fun _ _ s=>s))).mono ?_;rintro e w1 ⟨rfl,b⟩
       have c:Fr No w w1:=((Fr.refl No w).alloc _).trans0 b;have l:w1.heap[w.heap.size]?=some (.cells #[.string ByteArray.empty,.string ByteArray.empty,.int .i64 0,.int .i64 0,.int .i64 0,.int .i64 0] 70 (0,0)):=b.heap (zae _ _ _ rfl) id;obtain ⟨k0,k1,k2,k3,k4,k5⟩:=cells6 l;have kf:∀ i,w1.frozen? ⟨w.heap.size,i,none⟩=false:=fun i=>by simp [World.frozen?,l]
       unfold zcg))
   obtain ⟨Z,j,x,k⟩:=zmb (w:=w) l ⟨⟨#[]⟩,⟨#[]⟩,0,0,0,0⟩;dsimp only at j x;rw [j];obtain ⟨y0,y1,y2,y3,y4,y5⟩:=cells6 x;clear j;refine bodyPost_ret (v:=zco (kv0,false)) (w:=Z) (by rw [results_cell_tmp rfl];go_simp;rfl) rfl ⟨rfl,k c (Nat.le_refl _)⟩
 obtain ⟨H,m⟩:=R.out rfl
 simp only [if_true,m];generalize G:hadH H rev=r at *;obtain ⟨⟨I,J,K,L,M,O⟩,rb⟩:=r;have V:=H_ G;have U:=H_ m;clear G m;go_enter Tryz.func84,Tryz.ntmps84
 go_wp2_with (first
  | (go_at_call 105;refine (C.out _ (hT.fr D.out ((Fr.refl No w).alloc _) (fun _ _ s=>s))).mono ?_;rintro e w1 ⟨rfl,b⟩
     have c:Fr No w w1:=((Fr.refl No w).alloc _).trans0 b;have A:w1.heap[w.heap.size]?=some (.cells #[.string ByteArray.empty,.string ByteArray.empty,.int .i64 0,.int .i64 0,.int .i64 0,.int .i64 0] 70 (0,0)):=b.heap (zae _ _ _ rfl) id;unfold zcg)
  | (go_at_call 60;refine (Q.out _ (y.out.fr0 hT c) X H U.out).mono ?_;rintro e B ⟨rfl,o⟩
     rw [V.out];have z:Fr No w B:=c.trans0 o;have l:B.heap[w.heap.size]?=some (.cells #[.string ByteArray.empty,.string ByteArray.empty,.int .i64 0,.int .i64 0,.int .i64 0,.int .i64 0] 70 (0,0)):=o.heap A id;obtain ⟨k0,k1,k2,k3,k4,k5⟩:=cells6 l;have kf:∀ i,B.frozen? ⟨w.heap.size,i,none⟩=false:=fun i=>by simp [World.frozen?,l]
     unfold zco kvV))
 obtain ⟨Z,j,x,k⟩:=zmb (w:=w) l ⟨I,J,K,L,M,O⟩;dsimp only at j x;rw [j];obtain ⟨y0,y1,y2,y3,y4,y5⟩:=cells6 x;clear j;refine bodyPost_ret (v:=zco (⟨I,J,K,L,M,O⟩,rb)) (w:=Z) (by rw [results_cell_tmp rfl];go_simp;rfl) rfl ⟨rfl,k z (Nat.le_refl _)⟩
def putH (H:Hist) (x:Kv):Hist:={ gens:=putK H.gens x.mod,last:=x.mod,kvs:=fun r=>if r=x.mod then some x else H.kvs r }
def newH:Hist:={ gens:=[],last:=0,kvs:=fun _=>none }
def idS (S:St) (key:ByteArray):Int:=if (getT S.T key).2 then (getT S.T key).1 else S.next
def madeS (S:St) (key:ByteArray):St :=
 if (getT S.T key).2 then S else { S with T:=insT S.T key S.next,past:=fun i=>if i=S.next then some newH else S.past i,next:=S.next+1 }
def putS (S:St) (x:Kv):St :=
 { madeS S x.key with past:=fun i=>if i=idS S x.key then some (putH (((madeS S x.key).past (idS S x.key)).getD newH) x) else (madeS S x.key).past i }
theorem zjn {W:World} {h g m:Nat} {FK:Nat->Prop} (ho:Has W h [.pointer (some ⟨g,0,none⟩),.map (some m)]) (hk:KeyAt W g [] 0 FK) (hm:MapAt W m fun _=>none) (d1:¬ FK h) (d2:¬ FK m) :
 HistAt W h newH (fun b=>b=h\/b=m\/FK b):=⟨g,m,FK,⟨ho,hk,hm,d1,d2⟩,fun _=>Iff.rfl⟩
theorem zox {TA:zai} {N:Nat} (hT:TreeOk TA N) {w2 W4:World} {s t p:Nat} {ev:Value} {hp:Int->Option Nat} {FT:Nat->Prop} {FH:Int->Nat->Prop} {S:St} (a:StoreR TA w2 s t p ev hp FT FH S) (id:Int)
 (hid:S.past id=none) (hwf:(Lit.int .i64 id).wf=true) (hf:Fr No w2 W4) {h:Nat} {F':Nat->Prop} (hh:HistAt W4 h newH F') (hn:∀ b,F' b->w2.heap.size<=b) :
 StoreR TA (mapUpW Tryz.prog 109 p id (.pointer (some ⟨h,0,none⟩)) W4) s t p ev (fun i=>if i=id then some h else hp i) FT (fun i=>if i=id then F' else FH i) { S with past:=fun i=>if i=id then some newH else S.past i } ∧
  Fr (fun b=>b=p) W4 (mapUpW Tryz.prog 109 p id (.pointer (some ⟨h,0,none⟩)) W4):=by
 obtain ⟨_,d,c,_⟩:=(a.map.fr hf (fun s=>s)).up (P:=Tryz.prog) (t:=109) (k:=3) Tryz.underlying109 Tryz.underlying3 hwf (.pointer (some ⟨h,0,none⟩));refine ⟨(a.fr hT hf fun _ _ s=>s).addHist hT hid c d (B:=w2.heap.size) (a.lt hT) (hh.fr c fun b hb e=>?_) hn,c⟩;have f:=hn b hb;have g:=a.map.lt;have j:b=p:=e;omega
set_option maxHeartbeats 4000000 in
theorem zsf {TA:zai} {N:Nat} (hT:TreeOk TA N) {n:Nat} (hn:n<=1099511627) (w:World) (s:Nat) (S:St) (F:Nat->Prop) (hS:zal TA w s S F) (hok:StOk n S) (x:Kv)
 (hroom:(getT S.T x.key).2=false->S.T.length<N) (hm1:1<=x.mod) (hm2:x.mod<=top) (hlast:∀ H,S.past (getT S.T x.key).1=some H->(getT S.T x.key).2=true->H.last<x.mod) :
 Calls Tryz.prog 109 #[.pointer (some ⟨s,0,none⟩),kvV x] w fun e w'=>(∃ v,e=.returned v)/\∃ F',zal TA w' s (putS S x) F'/\Fr F w w'/\(∀ b,F' b->F b\/w.heap.size<=b):=by
 obtain ⟨t,p,ev,hp,FT,FH,a,hF⟩:=hS;obtain ⟨c,x2,x3,L,x5,x6⟩:=x;have c0:=a.obj.cell 0 rfl;have l1:=a.obj.lt;have ai:=fun W hW=>hT.get (w:=W) (t:=t) (T:=S.T) (F:=FT) c hW;have HG:=H_ ai;have X:=H_ a;have aG:=H_ hF;unfold kvV;dsimp only at *;clear ai a hF;go_enter Tryz.func109,Tryz.ntmps109;go_wp2_with fail;have hk:=zae w (Obj.cells #[.string c,.string x2,.int .i64 x3,.int .i64 L,.int .i64 x5,.int .i64 x6] 70) _ rfl;have Z:Fr No w (w.alloc (Obj.cells #[.string c,.string x2,.int .i64 x3,.int .i64 L,.int .i64 x5,.int .i64 x6] 70)):=(Fr.refl No w).alloc _;generalize w.alloc (Obj.cells #[.string c,.string x2,.int .i64 x3,.int .i64 L,.int .i64 x5,.int .i64 x6] 70)=W0 at hk Z ⊢
 have k0:W0.cell? ⟨w.heap.size,0,none⟩=some (.string c):=cellAt hk 0 rfl;have e0:=Z.cell0 c0
 go_region_held (fun W=>W.cell? ⟨s,0,none⟩=some (.pointer (some ⟨t,0,none⟩))/\W.cell? ⟨w.heap.size,0,none⟩=some (.string c))
  (first | exact ⟨e0,k0⟩ | exact ⟨a0.cell0 e0,a0.cell0 k0⟩)
  (first | (go_at_call 105;refine (HG.out _ (hT.fr X.out.tree Z.drew (fun _ _ s=>s))).mono ?_;rintro e w1 ⟨rfl,a0⟩;unfold zcg))
 have z:Fr No w w1:=Z.drew.trans0 a0;have af:=a0.heap (b:=w.heap.size) hk id;have aM:w.heap.size+1<=w1.heap.size:=by have:=zac af;omega
 clear hk Z k0 e0 a0;go_upto_if 18 with fail
 go_cut [4,5] (fun s4 _ wx=>s4=.int .i64 (idS S c)/\Hid (wx.heap[w.heap.size]?=some (.cells #[.string c,.string x2,.int .i64 x3,.int .i64 L,.int .i64 x5,.int .i64 x6] 70 (0,0))) ∧
  ∃ ah U D,Hid (StoreR TA wx s t p ev ah U D (madeS S c))/\Hid (Fr (storeF s p ev FT FH) w wx)/\Hid (∀ b,storeF s p ev U D b->storeF s p ev FT FH b\/w.heap.size<b))
 case first =>
  cases hg:(getT S.T c).2
  · have c2:w1.cell? ⟨s,2,none⟩=some (.int .i64 S.next):=z.cell0 (X.out.obj.cell 2 rfl)
    have f2:w1.frozen? ⟨s,2,none⟩=false:=z.free0 (X.out.obj.cell 2 rfl) (X.out.obj.free 2);have bm:=hok.pos;have bn:=hok.next;have bL:s<w1.heap.size:=(by have:=z.size;omega);go_wp2_with fail;have ho:=(X.out.fr hT z fun _ _ s=>s).obj.set 2 (.int .i64 (S.next+1));have ad:Fr (fun b=>b=s) w1 (w1.setCell ⟨s,2,none⟩ (.int .i64 (S.next+1))):=(Fr.refl _ w1).setAt 2 _;have Q:=(X.out.fr hT z fun _ _ s=>s).setObj hT ad (S.next+1) S.rev S.mark ho;have aX:(w1.setCell ⟨s,2,none⟩ (.int .i64 (S.next+1))).heap.size=w1.heap.size:=(by simp);have aA:(w1.setCell ⟨s,2,none⟩ (.int .i64 (S.next+1))).heap[w.heap.size]?=_:=ad.heap af (by omega);have ax:Fr (fun b=>b=s) w (w1.setCell ⟨s,2,none⟩ (.int .i64 (S.next+1))):=z.mono (fun _ _ h=>h.elim) |>.trans ad fun _ _ h=>h;have bK:=ax.size
    generalize w1.setCell ⟨s,2,none⟩ (.int .i64 (S.next+1))=W1 at *;have aW:=hT.set c S.next Q.tree (hroom hg);have e0:=Q.obj.cell 0 rfl;have k0:W1.cell? ⟨w.heap.size,0,none⟩=some (.string c):=cellAt aA 0 rfl;have nT:¬ FT s:=Q.ds.1;have nB:¬ FT w.heap.size:=fun h=>by have:=hT.lt X.out.tree _ h;omega
    go_region_held (fun W=>W.cell? ⟨s,0,none⟩=some (.pointer (some ⟨t,0,none⟩))/\W.cell? ⟨w.heap.size,0,none⟩=some (.string c))
     (first | exact ⟨e0,k0⟩ | exact ⟨aa.cell e0 nT,aa.cell k0 nB⟩)
     (first | (go_at_call 139;refine (hT.set c S.next (hT.fr Q.tree (Fr.refl No W1).drew (fun _ _ s=>s)) (hroom hg)).mono ?_;rintro e A ⟨⟨v,rfl⟩,F2,aZ,aa,aB⟩))
    have M:Fr FT W1 A:=((Fr.refl FT W1).drew).trans aa fun _ _ h=>h;have I:=Q.setTree hT M aZ aB;have aR:=M.heap aA nB;have aN:Fr (storeF s p ev FT FH) w A:=(ax.mono fun b _ h=>.inl h).trans M fun b _ h=>.inr (.inr (.inl h))
    have ak:∀ b,storeF s p ev F2 FH b->storeF s p ev FT FH b\/w.heap.size<b:=by
     rintro b (h | h | h | h | h)
     · exact .inl (.inl h)
     · exact .inl (.inr (.inl h))
     · rcases aB b h with h | h
       · exact .inl (.inr (.inr (.inl h)))
       right;have:=aM;simp at h;omega
     · exact .inl (.inr (.inr (.inr (.inl h))))
     exact .inl (.inr (.inr (.inr (.inr h))))
    have G:(Lit.int .i64 S.next).wf=true:=wf64 (by omega) (by omega);have m1:=I.obj.cell 1 rfl;have bp:¬ s=p:=fun e=>I.map.apart I.obj e.symm
    have HS:∀ W,Fr No A W->W.cell? ⟨s,1,none⟩=some (.map (some p))/\∀ v,(Instr.mapUpdate 109 (.map (some p)) (.int .i64 S.next) v).run Tryz.prog W=.ok () (mapUpW Tryz.prog 109 p S.next v W):=fun W hW =>
     ⟨hW.cell0 m1,fun v=>((I.map.fr hW id).up (P:=Tryz.prog) (t:=109) (k:=3) Tryz.underlying109 Tryz.underlying3 G v).1⟩
    have aJ:∀ W u,Fr No A W->(mapUpW Tryz.prog 109 p S.next u W).cell? ⟨s,1,none⟩=some (.map (some p)) ∧
     ∀ v,(Instr.mapUpdate 109 (.map (some p)) (.int .i64 S.next) v).run Tryz.prog (mapUpW Tryz.prog 109 p S.next u W)=.ok () (mapUpW Tryz.prog 109 p S.next v (mapUpW Tryz.prog 109 p S.next u W)):=fun W u hW=>by
     obtain ⟨_,h2,h3,_⟩:=(I.map.fr hW id).up (P:=Tryz.prog) (t:=109) (k:=3) Tryz.underlying109 Tryz.underlying3 G u;exact ⟨h3.cell (hW.cell0 m1) bp,fun v=>(h2.up (P:=Tryz.prog) (t:=109) (k:=3) Tryz.underlying109 Tryz.underlying3 G v).1⟩
    have V:=H_ HS;have H2:=H_ aJ;have a3:=H_ I;have a5:=H_ aR;have a4:=H_ aN;have j:=H_ ak;clear HS aJ I aR aN ak M aa aZ aB aW Q aA ax ad ho af z HG aX e0 k0 m1;have bN:∀ w,(Instr.makeMap 152 none).run Tryz.prog w=.ok (.map (some w.heap.size)) (w.alloc (.map #[] 0)):=fun w=>run_makeMap 152 w;go_wp2_with fail
    go_region_held (fun W=>W.cell? ⟨s,1,none⟩=some (.map (some p))/\∀ v,(Instr.mapUpdate 109 (.map (some p)) (.int .i64 S.next) v).run Tryz.prog W=.ok () (mapUpW Tryz.prog 109 p S.next v W))
     (first
       | ((refine V.out _ ?_);(repeat (first | with_reducible exact Fr.refl _ _ | with_reducible refine Fr.alloc ?_ _ | with_reducible refine Fr.drew ?_ | (refine Fr.trans0 ?_ (by assumption))));done)
       | ((refine H2.out _ _ ?_);(repeat (first | with_reducible exact Fr.refl _ _ | with_reducible refine Fr.alloc ?_ _ | with_reducible refine Fr.drew ?_ | (refine Fr.trans0 ?_ (by assumption))));done))
     (first | (go_at_call 140;refine (zku _).mono ?_;rintro e C ⟨g,rfl,FK,ae,ab,aT⟩))
    · have E:Fr No A C:=(Fr.refl No A).drew.trans0 ab
      have aY:=E.size;have ag:=ae.lt;have o:∀ b,FK b->A.heap.size<=b:=aT;have d:Fr No A ((C.alloc (Obj.map #[] 0)).alloc (Obj.cells #[Value.pointer (some ⟨g,0,none⟩),Value.map (some C.heap.size)] 154)):=(E.alloc _).alloc _
      have hh:HistAt ((C.alloc (Obj.map #[] 0)).alloc (Obj.cells #[Value.pointer (some ⟨g,0,none⟩),Value.map (some C.heap.size)] 154)) (C.heap.size+1) newH (fun b=>b=C.heap.size+1\/b=C.heap.size\/FK b) :=
       zjn ⟨154,zae _ _ _ (by simp)⟩ (ae.fr (((Fr.refl No C).alloc _).alloc _) fun _ _ s=>s) ((MapAt.made C).alloc _) (fun h=>by have:=ag _ h;omega) (fun h=>by have:=ag _ h;omega)
      obtain ⟨hM,y⟩:=zox hT a3.out S.next (by
       cases hc:S.past S.next with
       | none=>rfl
       | some H=>have:=hok.ids _ _ hc;omega) G d hh (fun b B=>by
         rcases B with rfl | rfl | B
         · omega
         · omega
         exact o b B)
      have HM:=H_ hM;have H5:=H_ y;clear hM y hh;go_wp2_with fail;go_meet
      case rel =>
       have bd:=a3.out.map.lt;refine ⟨by unfold idS;rw [hg];rfl,H_ (H5.out.heap (d.heap a5.out id) ?_),_,_,_,H_ (by unfold madeS;rw [hg];exact HM.out),H_ ?_,H_ ?_⟩
       · intro e
         have:=X.out.map.lt;have e':w.heap.size=p:=e;omega
       · exact (a4.out.trans0 d).trans H5.out fun b _ e=>.inr (.inl e)
       have bi:=a4.out.size
       have bc:=zac a5.out;rintro b (h | h | h | h | ⟨i,h⟩)
       · exact j.out b (.inl h)
       · exact j.out b (.inr (.inl h))
       · exact j.out b (.inr (.inr (.inl h)))
       · exact j.out b (.inr (.inr (.inr (.inl h))))
       by_cases hi:i=S.next
       · rw [if_pos hi] at h
         right
         rcases h with rfl | rfl | h
         · omega
         · omega
         have:=o b h;omega
       rw [if_neg hi] at h
       exact j.out b (.inr (.inr (.inr (.inr ⟨i,h⟩))))
    have E:Fr No A C:=((Fr.refl No A).alloc _).drew.trans0 ab
    have aY:=E.size;have ag:=ae.lt;have o:∀ b,FK b->A.heap.size<b:=fun b B=>by have:=aT b B;simp at this;omega
    have bh:A.heap.size+1<=C.heap.size:=(by have:=ab.size;simpa using this);have bf:MapAt C A.heap.size fun _=>none:=(MapAt.made A).fr (S:=No) ((Fr.refl No (A.alloc (Obj.map #[] 0))).drew.trans0 ab) id;have d:Fr No A (C.alloc (Obj.cells #[Value.pointer (some ⟨g,0,none⟩),Value.map (some A.heap.size)] 154)):=E.alloc _
    have hh:HistAt (C.alloc (Obj.cells #[Value.pointer (some ⟨g,0,none⟩),Value.map (some A.heap.size)] 154)) C.heap.size newH (fun b=>b=C.heap.size\/b=A.heap.size\/FK b) :=
     zjn ⟨154,zae _ _ _ rfl⟩ (ae.fr ((Fr.refl No C).alloc _) fun _ _ s=>s) (bf.alloc _) (fun h=>by have:=ag _ h;omega) (fun h=>by have:=o _ h;omega)
    obtain ⟨hM,y⟩:=zox hT a3.out S.next (by
     cases hc:S.past S.next with
     | none=>rfl
     | some H=>have:=hok.ids _ _ hc;omega) G d hh (fun b B=>by
       rcases B with rfl | rfl | B
       · omega
       · omega
       exact Nat.le_of_lt (o b B))
    have HM:=H_ hM;have H5:=H_ y;clear hM y hh;go_wp2_with fail;go_meet
    case rel =>
     have bd:=a3.out.map.lt;refine ⟨by unfold idS;rw [hg];rfl,H_ (H5.out.heap (d.heap a5.out id) ?_),_,_,_,H_ (by unfold madeS;rw [hg];exact HM.out),H_ ?_,H_ ?_⟩
     · intro e
       have:=X.out.map.lt;have e':w.heap.size=p:=e;omega
     · exact (a4.out.trans0 d).trans H5.out fun b _ e=>.inr (.inl e)
     have bi:=a4.out.size
     have bc:=zac a5.out;rintro b (h | h | h | h | ⟨i,h⟩)
     · exact j.out b (.inl h)
     · exact j.out b (.inr (.inl h))
     · exact j.out b (.inr (.inr (.inl h)))
     · exact j.out b (.inr (.inr (.inr (.inl h))))
     by_cases hi:i=S.next
     · rw [if_pos hi] at h
       right
       rcases h with rfl | rfl | h
       · omega
       · omega
       have:=o b h;omega
     rw [if_neg hi] at h
     exact j.out b (.inr (.inr (.inr (.inr ⟨i,h⟩))))
  go_wp2_with fail
  go_meet
  case rel=>exact ⟨by unfold idS;rw [hg];rfl,H_ af,hp,FT,FH,H_ (by unfold madeS;rw [hg];exact X.out.fr hT z fun _ _ s=>s),H_ (z.mono fun _ _ s=>s.elim),H_ fun b h=>.inl h⟩
 case rest =>
  obtain ⟨rfl,HK,ah,U,D,HM,HF,HN⟩:=hcut;have bm:=hok.pos;have bn:=hok.next
  obtain ⟨V,aK,am,aS,bu⟩:∃ V,(madeS S c).past (idS S c)=some V/\HistOk n V/\V.last<L/\0<=idS S c/\idS S c<=S.next:=by
   unfold madeS idS;cases hg:(getT S.T c).2
   · refine ⟨newH,by simp,⟨by simp [newH],by simp [newH]⟩,by unfold newH;dsimp only;omega,by simp;omega⟩
   obtain ⟨H,hH⟩:∃ H,S.past (getT S.T c).1=some H:=by
    revert hg
    unfold getT
    cases hf:S.T.find? (fun q=>keq q.1 c) with
    | none=>intro h;cases h
    | some q=>intro _;exact hok.id q (List.mem_of_find?_eq_some hf)
   have:=hok.ids _ _ hH;exact ⟨H,by simpa using hH,(hok.hist _ _ hH).1,hlast H hH hg,by simp;omega⟩
  have bk:(Lit.int .i64 (idS S c)).wf=true:=wf64 (by omega) (by omega);have an:putS S ⟨c,x2,x3,L,x5,x6⟩ = { madeS S c with past:=fun i=>if i=idS S c then some (putH V ⟨c,x2,x3,L,x5,x6⟩) else (madeS S c).past i }:=(by unfold putS;dsimp only;rw [aK];rfl);have aI:=H_ an;clear an;obtain ⟨h,hh,g,m,FK,b,a9⟩:=HM.out.hist _ _ aK;have aV:((ah (idS S c)).map fun h=>Value.pointer (some ⟨h,0,none⟩)).getD (.pointer none)=.pointer (some ⟨h,0,none⟩):=(by rw [hh];rfl);have bF:=HM.out.obj.cell 1 rfl;have h0:=b.obj.cell 0 rfl;have h1:=b.obj.cell 1 rfl;have k3:wc.cell? ⟨w.heap.size,3,none⟩=some (.int .i64 L):=(by simp [World.cell?,HK.out]);have ls:=HM.out.obj.lt;have lh:=b.obj.lt;have lk:=zac HK.out
  have J:¬ D (idS S c) w.heap.size:=fun e=>by
   rcases HN.out _ (.inr (.inr (.inr (.inr ⟨_,e⟩)))) with e | e
   · have:=X.out.lt hT _ e;omega
   omega
  have b0:¬ FK w.heap.size:=fun e=>J ((a9 _).2 (.inr (.inr e)));have bS:w.heap.size≠m:=fun e=>J ((a9 _).2 (.inr (.inl e)));have O:=H_ b;have Y:=H_ a9;have ba:=H_ aV;have aH:=H_ am;clear b a9 aV am J;go_wp2_with (at_lookup;refine zbf rfl _ _ 109 rfl 3 150 Tryz.underlying109 Tryz.underlying3 p _ rfl HM.out.map (idS S c) rfl bk _ (zero142 _) _ ba.out ?_)
  go_region_held (fun W=>W.cell? ⟨h,0,none⟩=some (.pointer (some ⟨g,0,none⟩))/\W.cell? ⟨w.heap.size,3,none⟩=some (.int .i64 L))
   (first | exact ⟨h0,k3⟩ | exact ⟨d.cell h0 O.out.d1,d.cell k3 b0⟩)
   (first | (go_at_call 141;refine (ztv _ g V.gens V.last L FK (O.out.key.fr (Fr.refl No wc).drew (fun _ _ s=>s)) (aH.out.fits hn) hm1 hm2 aS).mono ?_;rintro e w4 ⟨rfl,av,aQ,d,aU⟩))
  go_wp2_with fail;have l:Fr FK wc w4:=((Fr.refl FK wc).drew).trans d fun _ _ h=>h;have bH:=l.cell h1 O.out.d1;have az:=l.heap HK.out b0;obtain ⟨k0,k1,k2,bP,k4,k5⟩:=cells6 az;have bQ:h<w4.heap.size:=(by have:=l.size;omega);have bR:w.heap.size<w4.heap.size:=zac az;have bg:MapAt w4.drew m fun r=>(V.kvs r).map kvV:=O.out.map.fr l.drew O.out.d2;have bl:(Lit.int .i64 L).wf=true:=wf64 (by omega) (by unfold top at hm2;omega);have aF:=H_ l;have b8:=H_ aQ;have a7:=H_ aU;clear d l aQ aU az;refine wp_region_still_tail 7 (by kernel_rfl) (by kernel_rfl) ?_;simp only [List.take_succ_cons,List.take_zero,List.drop_succ_cons,List.drop_zero];change wpStill _ _ w4.drew _ _ _
  repeat (refine wpStill_step (fun K hK=>?_);go_simp;(try go_bits);refine hK _ ?_;clear hK K)
  refine wpStill_nil ?_;change wpList _ _ _ _ _ w4.drew;refine zcu rfl _ _ _ 152 rfl 3 70 Tryz.underlying152 Tryz.underlying3 m _ rfl bg L rfl bl (kvV ⟨c,x2,x3,L,x5,x6⟩) rfl ?_;intro w5 be y bw;go_wp2;refine bodyPost_end (results_none rfl _ _ _) rfl ?_;have bM:=O.out.map.lt;have aO:Fr (D (idS S c)) wc w5:=(aF.out.drew.mono fun b _ e=>(Y.out b).2 (.inr (.inr e))).trans (y.mono (S:=fun x=>x=m) (T:=D (idS S c)) fun b _ e=>(Y.out b).2 (.inr (.inl e))) fun _ _ e=>e
  have ay:HistAt w5 h (putH V ⟨c,x2,x3,L,x5,x6⟩) (fun b=>b=h\/b=m\/av b):=by
   refine ⟨g,m,av,⟨?_,?_,?_,?_,?_⟩,fun _=>Iff.rfl⟩
   · refine (O.out.obj.fr aF.out.drew O.out.d1).fr y fun e=>?_
     exact O.out.map.apart O.out.obj e.symm
   · refine b8.out.fr ((Fr.refl (fun x=>x=m) w4).drew.trans y fun _ _ e=>e) fun b B e=>?_
     have e':b=m:=e;subst e';rcases a7.out _ B with f | f
     · exact O.out.d2 f
     have h6:wc.heap.size<=b:=f
     omega
   · refine cast (congrArg (MapAt w5 m) ?_) be
     funext r
     unfold putH;dsimp only;by_cases hr:r=L <;> simp [hr]
   · intro B
     rcases a7.out _ B with f | f
     · exact O.out.d1 f
     have h6:wc.heap.size<=h:=f
     omega
   intro B
   rcases a7.out _ B with f | f
   · exact O.out.d2 f
   have h6:wc.heap.size<=m:=f
   omega
  have al:∀ b,(b=h\/b=m\/av b)->D (idS S c) b\/wc.heap.size<=b:=by
   rintro b (e | e | e)
   · exact .inl ((Y.out b).2 (.inl e))
   · exact .inl ((Y.out b).2 (.inr (.inl e)))
   rcases a7.out b e with f | f
   · exact .inl ((Y.out b).2 (.inr (.inr f)))
   exact .inr f
  have aP:=HM.out.setHist hT hh aO ay al;refine ⟨⟨_,rfl⟩,_,⟨t,p,ev,ah,U,_,by rw [aI.out];exact aP,fun _=>Iff.rfl⟩,?_,?_⟩
  · have bj:=HF.out.size
    refine (HF.out.trans aO fun b B e=>?_).mono fun b _ e=>(aG.out b).2 e;rcases HN.out b (.inr (.inr (.inr (.inr ⟨_,e⟩)))) with f | f
    · exact f
    omega
  have bj:=HF.out.size
  have R:∀ b,storeF s p ev U D b->F b\/w.heap.size<=b:=fun b B=>by
   rcases HN.out b B with f | f
   · exact .inl ((aG.out b).2 f)
   exact .inr (by omega)
  rintro b (e | e | e | e | ⟨i,e⟩)
  · exact R b (.inl e)
  · exact R b (.inr (.inl e))
  · exact R b (.inr (.inr (.inl e)))
  · exact R b (.inr (.inr (.inr (.inl e))))
  by_cases hi:i=idS S c
  · rw [if_pos hi] at e
    rcases al b e with f | f
    · exact R b (.inr (.inr (.inr (.inr ⟨_,f⟩))))
    exact .inr (by omega)
  rw [if_neg hi] at e
  exact R b (.inr (.inr (.inr (.inr ⟨i,e⟩))))
def sign3 (s:ByteArray):Bool:=decide (3<=s.size)&&((s.extract 0 3).toList == [239,191,189])
theorem zin (w:World) (s:ByteArray):Calls Tryz.prog 161 #[.string s,.string ⟨#[239,191,189]⟩] w fun e w'=>e=.returned (.bool (sign3 s))/\w=w':=by
 by_cases h:3<=s.size
 · have b:(3:Int)<=(s.size:Int):=by omega
   have a:sign3 s=((s.extract 0 3).toList == [239,191,189]):=(by unfold sign3;simp [h]);rw [a];go_enter Tryz.func161,Tryz.ntmps161;go_wp2;go_ret;exact ⟨rfl,rfl⟩
 have b:¬ (3:Int)<=(s.size:Int):=by omega
 have a:sign3 s=false:=(by unfold sign3;simp [h]);rw [a];go_enter Tryz.func161,Tryz.ntmps161;go_wp2;go_ret;exact ⟨rfl,rfl⟩
theorem zhi (w:World) (s:ByteArray):Calls Tryz.prog 146 #[.string s,.string ⟨#[239,191,189]⟩] w fun e w'=>e=.returned (.bool (sign3 s))/\w=w':=by
 go_enter Tryz.func146,Tryz.ntmps146;go_wp2_with (go_at_call 161;refine (zin _ _).mono ?_;rintro e w' ⟨rfl,rfl⟩);go_ret;exact ⟨rfl,rfl⟩
def zho (s:ByteArray) (i:Nat):Bool:=(Utf8.decode s i).1==65533 && !sign3 (s.extract i s.size)
theorem zms (w:World) (s:ByteArray) (i r:Nat) (hi:i<=s.size):Calls Tryz.prog 119 #[.string s,.int .i64 i,.int .i32 r] w fun e w'=>e=.returned (.bool (r==65533 && !sign3 (s.extract i s.size)))/\w=w':=by
 have c:(i:Int)<=(s.size:Int):=by omega
 have b:((r:Int)==65533)=(r==65533):=by rw [Bool.eq_iff_iff,beq_iff_eq,beq_iff_eq];omega
 by_cases h:r=65533
 · subst h
   go_enter Tryz.func119,Tryz.ntmps119;go_wp2_with (go_at_call 146;refine (zhi _ _).mono ?_;rintro e w' ⟨rfl,rfl⟩);go_ret;exact ⟨by simp,rfl⟩
 have a:(r==65533)=false:=by simpa using h
 rw [a] at b;go_enter Tryz.func119,Tryz.ntmps119;go_wp2;go_ret;exact ⟨by rw [a];rfl,rfl⟩
def runesK (s:ByteArray):Nat->Nat->Int->Int
 | 0,_,n=>n
 | g+1,i,n=>if i<s.size then (if zho s i then -1 else runesK s g (i+(Utf8.decode s i).2) (n+1)) else n
def runes (s:ByteArray):Int:=runesK s s.size 0 0
theorem zmp (s:ByteArray) (i:Nat) (h:i<s.size):1<=(Utf8.decode s i).2/\i+(Utf8.decode s i).2<=s.size:=by
 refine ⟨Go.Lib.decode_width_pos s i h,?_⟩;unfold Utf8.decode;simp only
 repeat' split
 all_goals simp_all
 all_goals omega
theorem zhz (s:ByteArray):∀ (g i:Nat) (n:Int) (g':Nat),s.size<=i+g->g<=g'->runesK s g' i n=runesK s g i n
 | 0,i,n,g',h,_=>by
   cases g' with
   | zero=>rfl
   | succ g'=>unfold runesK;rw [if_neg (by omega)]
 | g+1,i,n,g',h,hg=>by
   cases g' with
   | zero=>omega
   | succ g' =>
     unfold runesK;by_cases hi:i<s.size
     · rw [if_pos hi,if_pos hi]
       cases zho s i
       · simp only [Bool.false_eq_true,if_false]
         have:=(zmp s i hi).1;exact zhz s g _ _ g' (by omega) (by omega)
       rfl
     rw [if_neg hi,if_neg hi]
theorem zhh (w:World) (s:ByteArray):Calls Tryz.prog 120 #[.string s,.int .u8 0] w fun e w'=>e=.returned (.int .i64 (firstIdx s 0))/\w=w':=by
 have a:∀ W,(callFunc 147 #[.string s,.int .u8 0]).run Tryz.prog W=.ok (.value (.int .i64 (firstIdx s 0))) W:=by
  intro W;rw [run_callFunc_extern (e:=Extern.BytealgIndexByte.indexByte) Tryz.func147 (by kernel_rfl) (by kernel_rfl) (by kernel_rfl) (by kernel_rfl),run_indexByte_string]
  rfl
 go_enter Tryz.func120,Tryz.ntmps120;go_wp2;go_ret;exact ⟨rfl,rfl⟩
theorem zim (w:World) (s:ByteArray):Calls Tryz.prog 97 #[.string s,.int .u8 0] w fun e w'=>e=.returned (.int .i64 (firstIdx s 0))/\w=w':=by
 go_enter Tryz.func97,Tryz.ntmps97;go_wp2_with (go_at_call 120;refine (zhh _ _).mono ?_;rintro e w' ⟨rfl,rfl⟩);go_ret;exact ⟨rfl,rfl⟩
theorem run_next_at {P:Program} (w:World) (b:Nat) (s:ByteArray) (pos:Nat) (ty:TypeId) (hb:w.heap[b]?=some (.stringIter s pos)) (h:pos<s.size) :
 (Instr.next (.pointer (some ⟨b,0,none⟩)) true ty).run P w =
   .ok (.tuple #[.bool true,.int .i64 pos,.int .i32 (Utf8.decode s pos).1]) (ChangeMaps.setBlock w b (.stringIter s (pos+(Utf8.decode s pos).2))):=by
 simp [Instr.next,getObj,setObj,Sem.run,Result.andThen,hb,h,goInt,ChangeMaps.setBlock]
theorem zjy {P:Program} (w:World) (b:Nat) (s:ByteArray) (pos:Nat) (ty:TypeId) (hb:w.heap[b]?=some (.stringIter s pos)) (h:¬ pos<s.size) :
 (Instr.next (.pointer (some ⟨b,0,none⟩)) true ty).run P w=.ok (.tuple #[.bool false]) w:=by
 simp [Instr.next,getObj,Sem.run,hb,h]
theorem zdh (w:World) (b k:Nat) (o:Obj) (h:k≠b):(ChangeMaps.setBlock w b o).heap[k]?=w.heap[k]?:=by
 unfold ChangeMaps.setBlock;exact Array.getElem?_setIfInBounds_ne (fun e=>h e.symm)
theorem zmy (w:World) (b:Nat) (o:Obj) (h:b<w.heap.size):(ChangeMaps.setBlock w b o).heap[b]?=some o:=by
 unfold ChangeMaps.setBlock;simp [h]
theorem zoi (w:World) (s:ByteArray) (hs:s.size<=1099511627776):Calls Tryz.prog 96 #[.string s] w fun e w'=>e=.returned (.int .i64 (runes s))/\Fr No w w':=by
 go_enter Tryz.func96,Tryz.ntmps96;go_wp2
 go_loopg [3] s.size (fun g s3 wr=>∃ (a:Nat) (n:Int),s3=.int .i64 n/\a+g=s.size/\0<=n/\n<=a/\Hid (runesK s g a n=runes s)/\Hid (wr.heap[w.heap.size]?=some (.stringIter s a))/\Hid (Fr No w wr))
 case atStart=>exact ⟨0,0,rfl,by simp,by omega,by omega,H_ rfl,H_ (World.iter_heap _ _ _),H_ ((Fr.refl No w).alloc _)⟩
 case round =>
  obtain ⟨a,n,rfl,C,y,z,t,q,i⟩:=hrel;by_cases hp:a<s.size
  · have v:=fun ty=>run_next_at (P:=Tryz.prog) wr w.heap.size s a ty q.out hp
    have B:=zmp s a hp
    have m:Fr No w (ChangeMaps.setBlock wr w.heap.size (.stringIter s (a+(Utf8.decode s a).2))) :=
     ⟨i.out.os,i.out.tape,i.out.output,by have:=i.out.size;simpa [ChangeMaps.setBlock] using this,fun k hk hS=>(zdh wr _ k _ (by omega)).trans (i.out.block k hk hS)⟩
    have l:=zmy wr w.heap.size (.stringIter s (a+(Utf8.decode s a).2)) (zac q.out)
    have b:runesK s gk a n=if zho s a then -1 else runesK s (s.size-(a+(Utf8.decode s a).2)) (a+(Utf8.decode s a).2) (n+1):=by
     obtain ⟨k,rfl⟩:∃ k,gk=k+1:=⟨gk-1,by omega⟩
     conv=>lhs;unfold runesK
     rw [if_pos hp]
     congr 1
     exact zhz s _ _ _ _ (by omega) (by omega)
    have j:=H_ m;have r:=H_ l;have c:=fun W=>zms W s a (Utf8.decode s a).1 (by omega);have o:((Utf8.decode s a).1==65533 && !sign3 (s.extract a s.size))=zho s a:=rfl;simp only [o] at c;generalize ChangeMaps.setBlock wr w.heap.size (.stringIter s (a+(Utf8.decode s a).2))=A at *;generalize Utf8.decode s a=d at *;clear m l o;cases hw:zho s a
    · rw [hw] at b c
      have u:=H_ b;clear b hw;go_wp2_with (go_at_call 119;refine (c _).mono ?_;rintro e w' ⟨rfl,rfl⟩);go_roundg (s.size-(a+d.2))
      case rel=>exact ⟨a+d.2,n+1,rfl,by omega,by omega,by omega,H_ (by rw [<-t.out,u.out];simp),r,j⟩
      case measure=>omega
    rw [hw] at b c
    have u:=H_ b;clear b hw;go_wp2_with (go_at_call 119;refine (c _).mono ?_;rintro e w' ⟨rfl,rfl⟩);go_ret;exact ⟨by rw [<-t.out,u.out];rfl,j.out⟩
  have v:=fun ty=>zjy (P:=Tryz.prog) wr w.heap.size s a ty q.out hp
  have f:runesK s gk a n=n:=by
   obtain rfl:gk=0:=by omega
   rfl
  have x:=H_ f;clear f;go_wp2;go_ret;exact ⟨by rw [<-t.out,x.out];rfl,i.out⟩
def keyE (s:ByteArray):Int:=if runes s<1\/0<=firstIdx s 0 then 30 else if 64<s.size then 31 else 0
theorem zmr (w:World) (s:ByteArray) (hs:s.size<=1099511627776):Calls Tryz.prog 70 #[.string s] w fun e w'=>e=.returned (.int .i64 (keyE s))/\Fr No w w':=by
 have b:=fun W=>zoi W s hs;have c:=fun W=>zim W s;have g:0<=runes s\/runes s<0:=by omega
 unfold keyE;generalize runes s=r at *;generalize firstIdx s 0=x at *;by_cases h1:r<1
 · have f:¬ 1<=r:=by omega
   rw [if_pos (.inl h1)];go_enter Tryz.func70,Tryz.ntmps70;go_wp2_with (first | (go_at_call 96;refine (b _).mono ?_;rintro e w1 ⟨rfl,a⟩) | (go_at_call 97;refine (c _).mono ?_;rintro e w' ⟨rfl,rfl⟩));go_ret;exact ⟨rfl,a⟩
 by_cases h2:0<=x
 · rw [if_pos (.inr h2)]
   go_enter Tryz.func70,Tryz.ntmps70;go_wp2_with (first | (go_at_call 96;refine (b _).mono ?_;rintro e w1 ⟨rfl,a⟩) | (go_at_call 97;refine (c _).mono ?_;rintro e w' ⟨rfl,rfl⟩));go_ret;exact ⟨rfl,a⟩
 rw [if_neg (by omega)]
 by_cases h3:64<s.size
 · have d:(64:Int)<(s.size:Int):=by omega
   rw [if_pos h3];go_enter Tryz.func70,Tryz.ntmps70;go_wp2_with (first | (go_at_call 96;refine (b _).mono ?_;rintro e w1 ⟨rfl,a⟩) | (go_at_call 97;refine (c _).mono ?_;rintro e w' ⟨rfl,rfl⟩));go_ret;exact ⟨rfl,a⟩
 have d:¬ (64:Int)<(s.size:Int):=by omega
 rw [if_neg h3];go_enter Tryz.func70,Tryz.ntmps70;go_wp2_with (first | (go_at_call 96;refine (b _).mono ?_;rintro e w1 ⟨rfl,a⟩) | (go_at_call 97;refine (c _).mono ?_;rintro e w' ⟨rfl,rfl⟩));go_ret;exact ⟨rfl,a⟩
end Go.Proofs.YtdgkdfmfoonbpaaGreat