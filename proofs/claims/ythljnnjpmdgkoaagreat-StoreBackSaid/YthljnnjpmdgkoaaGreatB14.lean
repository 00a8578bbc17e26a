/- Own lemmas and contracts that the claim's proof needs, laid together. The conditions stand in each. -/
import Derived.Test.YthljnnjpmdgkoaaGreatB13
import Derived.Test.YthljnnjpmdgkoaaGreatB09
import Derived.Deep.RegionHeld
import Derived.Deep.DeepCutAuto
import Derived.Test.YthljnnjpmdgkoaaGreatProg
import Derived.Laws.RangeString
import Derived.Lib.Bytealg
import Derived.Lib.RuneCount
namespace Go.Proofs.YthljnnjpmdgkoaaGreat
open Go Go.Proofs Go.RowKit
set_option maxRecDepth 100000
theorem zik {TA:zar} {N:Nat} (_:TreeOk TA N) {n:Nat} (hn:n<=1099511627) (w:World) (s:Nat) (S:St) (F:Nat->Prop) (hS:zak TA w s S F) (hok:StOk n S) (at_ rev:Int) (H:Hist) (hH:S.past at_=some H) :
 Calls Tryz.prog 62 #[.pointer (some ⟨s,0,none⟩),.int .i64 at_,.int .i64 rev] w fun e w'=>e = .returned (zce (hadH H rev))/\Fr No w w':=by
 obtain ⟨t,p,ev,hp,FT,FH,a,hF⟩:=hS;obtain ⟨h,hh,g,m,FK,b,hFH⟩:=a.hist _ _ hH;have hHok:=(hok.hist _ _ hH).1;have hids:=hok.ids _ _ hH;have hnx:=hok.next;have hwf:(Lit.int .i64 at_).wf=true:=wf64 (by omega) (by omega);have hwf2:=hHok.wf rev;have hfit:=hHok.fits hn;have hat:=fun W hk=>zpw W g H.gens H.last rev FK hk hfit;have hpl:((hp at_).map fun h=>Value.pointer (some ⟨h,0,none⟩)).getD (.pointer none) = .pointer (some ⟨h,0,none⟩):=by rw [hh];rfl
 have hkl:((H.kvs (atK H.gens rev).1.2.1).map kvV).getD (kvV kv0)=kvV (hadH H rev).1:=by unfold hadH;cases H.kvs (atK H.gens rev).1.2.1 <;> rfl
 have c1:=a.obj.cell 1 rfl;have h0:=b.obj.cell 0 rfl;have h1:=b.obj.cell 1 rfl;have l1:=a.obj.lt;have l2:=b.obj.lt;have l3:=b.map.lt;have HM:=H_ a.map;have HK:=H_ b.key;have HN:=H_ b.map;have HKl:=H_ hkl;have HPl:=H_ hpl
 have HAt:=H_ hat;have hb2:(hadH H rev).2=(atK H.gens rev).2:=rfl;have HB2:=H_ hb2;generalize hadH H rev=r at *;generalize hs:atK H.gens rev=q at *;clear a b hkl hpl hat hb2 hfit hH;obtain ⟨⟨q1,q2,q3⟩,q4⟩:=q;obtain ⟨⟨r1,r2,r3,r4,r5,r6⟩,rb⟩:=r;go_enter Tryz.func62,Tryz.ntmps62
 go_wp2_with (first
  | (at_lookup;refine zfn rfl _ _ 105 rfl 3 167 Tryz.underlying105 Tryz.underlying3 p _ rfl (HM.out.alloc _) at_ rfl hwf _ (zero142 _) _ HPl.out ?_)
  | (at_lookup;refine zfn rfl _ _ 169 rfl 3 99 Tryz.underlying169 Tryz.underlying3 m _ rfl (by first | exact HN2.out.alloc _ | exact HN2.out) q2 rfl hwf2 _ (zero57 _) _ HKl.out ?_)
  | (go_at_call 115;refine (HAt.out _ (HK.out.fr ((Fr.refl No w).alloc _) (fun _ _ s=>s))).mono ?_;rintro e w1 ⟨rfl,hf1⟩
     have hf2:Fr No w w1:=((Fr.refl No w).alloc _).trans0 hf1;have h1':=hf2.cell0 h1;have hsz:w.heap.size+1<=w1.heap.size:=(by have:=hf1.size;simpa using this);have HN2:=H_ (HN.out.fr hf2 id);have k6:w1.heap[w.heap.size]? = some (.cells #[.string ByteArray.empty,.string ByteArray.empty,.int .i64 0,.int .i64 0,.int .i64 0,.int .i64 0] 99 (0,0)):=hf1.heap (zad _ _ _ rfl) id;unfold zhr seenV))
 have n0:=zad w1 (Obj.cells #[Value.int .i64 q1,Value.int .i64 q2,Value.int .i64 q3] 190) _ rfl;generalize hX:w1.alloc (Obj.cells #[Value.int .i64 q1,Value.int .i64 q2,Value.int .i64 q3] 190)=X at n0;have hfX:Fr No w X:=by rw [<-hX];exact hf2.alloc _
 have k6X:X.heap[w.heap.size]? = some (.cells #[.string ByteArray.empty,.string ByteArray.empty,.int .i64 0,.int .i64 0,.int .i64 0,.int .i64 0] 99 (0,0)):=by rw [<-hX];exact zaj k6 _
 have n1:X.cell? ⟨w1.heap.size,1,none⟩=some (.int .i64 q2):=cellAt n0 1 rfl;have e1:=hfX.cell0 h1;have hlk:=MapAt.look (P:=Tryz.prog) (t:=169) (HN.out.fr (hfX.drew) id) Tryz.underlying169 Tryz.underlying3 hwf2 (zero57 _);rw [HKl.out] at hlk;unfold kvV at hlk;have hlt:w.heap.size < X.heap.size:=zac k6X;have hlt1:w1.heap.size < X.heap.size:=zac n0;have hl2:h < X.heap.size:=by have:=hfX.size;omega
 have n1Y:X.drew.cell? ⟨w1.heap.size,1,none⟩=some (.int .i64 q2):=n1;have e1Y:X.drew.cell? ⟨h,1,none⟩=some (.map (some m)):=e1;have k6Y:X.drew.heap[w.heap.size]? = some (.cells #[.string ByteArray.empty,.string ByteArray.empty,.int .i64 0,.int .i64 0,.int .i64 0,.int .i64 0] 99 (0,0)):=k6X;have hfY:Fr No w X.drew:=hfX.drew;obtain ⟨k0,k1,k2,k3,k4,k5⟩:=cells6 k6X;have kf:∀ i,X.frozen? ⟨w.heap.size,i,none⟩=false:=fun i=>by simp [World.frozen?,k6X]
 have hne1:w1.heap.size≠w.heap.size:=by omega
 have hne2:h≠w.heap.size:=by omega
 have HS:∀ W,Fr (fun b=>b=w.heap.size) X W->W.cell? ⟨h,1,none⟩=some (.map (some m))/\W.cell? ⟨w1.heap.size,1,none⟩=some (.int .i64 q2) ∧
  (Instr.lookup 169 (.map (some m)) (.int .i64 q2) false).run Tryz.prog W = .ok (.agg #[.string r1,.string r2,.int .i64 r3,.int .i64 r4,.int .i64 r5,.int .i64 r6]) W:=by
  intro W hW;refine ⟨hW.cell e1 hne2,hW.cell n1 hne1,?_⟩;have:=MapAt.look (P:=Tryz.prog) (t:=169) ((HN.out.fr hfX id).fr hW (by omega)) Tryz.underlying169 Tryz.underlying3 hwf2 (zero57 _);rw [HKl.out] at this;exact this
 have HS':=H_ HS;clear HS hX h1' hlk n1Y e1Y n0 n1
 go_region_held (fun W=>W.cell? ⟨h,1,none⟩=some (.map (some m))/\W.cell? ⟨w1.heap.size,1,none⟩=some (.int .i64 q2) ∧
  (Instr.lookup 169 (.map (some m)) (.int .i64 q2) false).run Tryz.prog W = .ok (.agg #[.string r1,.string r2,.int .i64 r3,.int .i64 r4,.int .i64 r5,.int .i64 r6]) W)
  (first | (refine HS'.out _ (Fr.drew ?_);with_reducible exact Fr.refl _ X) | (refine HS'.out _ (Fr.drew ?_);(iterate 6 (with_reducible refine Fr.setAt ?_ _ _));with_reducible exact Fr.refl _ X)) (fail)
 have z1:=zaa k6X 0 (.string r1);have z2:=zaa z1 1 (.string r2);have z3:=zaa z2 2 (.int .i64 r3);have z4:=zaa z3 3 (.int .i64 r4);have z5:=zaa z4 4 (.int .i64 r5);have z6:=zaa z5 5 (.int .i64 r6)
 have hfZ:Fr (fun b=>b=w.heap.size) X ((((((X.setCell ⟨w.heap.size,0,none⟩ (.string r1)).setCell ⟨w.heap.size,1,none⟩ (.string r2)).setCell ⟨w.heap.size,2,none⟩ (.int .i64 r3)).setCell ⟨w.heap.size,3,none⟩ (.int .i64 r4)).setCell ⟨w.heap.size,4,none⟩ (.int .i64 r5)).setCell ⟨w.heap.size,5,none⟩ (.int .i64 r6)) :=
  (((((((Fr.refl _ X).setAt 0 _).setAt 1 _).setAt 2 _).setAt 3 _).setAt 4 _).setAt 5 _)
 generalize ((((((X.setCell ⟨w.heap.size,0,none⟩ (.string r1)).setCell ⟨w.heap.size,1,none⟩ (.string r2)).setCell ⟨w.heap.size,2,none⟩ (.int .i64 r3)).setCell ⟨w.heap.size,3,none⟩ (.int .i64 r4)).setCell ⟨w.heap.size,4,none⟩ (.int .i64 r5)).setCell ⟨w.heap.size,5,none⟩ (.int .i64 r6))=Z at z6 hfZ ⊢
 simp at z6;obtain ⟨y0,y1,y2,y3,y4,y5⟩:=cells6 z6
 have hfin:Fr No w Z.drew:=by
  have hfF:Fr No w Z:=⟨hfZ.os.trans hfX.os,hfZ.tape.trans hfX.tape,hfZ.output.trans hfX.output,Nat.le_trans hfX.size hfZ.size,fun k hk _=>(hfZ.block k (Nat.lt_of_lt_of_le hk hfX.size) (by omega)).trans (hfX.block k hk id)⟩;exact hfF.drew
 clear z1 z2 z3 z4 z5 z6 hfZ k0 k1 k2 k3 k4 k5 kf HS';go_wp2;have hrb:rb=q4:=HB2.out;subst hrb;refine bodyPost_ret (v:=zce (⟨r1,r2,r3,r4,r5,r6⟩,rb)) (w:=Z.drew) (by rw [results_cell_tmp rfl];go_simp;rfl) rfl ⟨rfl,hfin⟩
def livesS (S:St) (key:ByteArray) (rev:Int):Kv × Bool :=
 if (getT S.T key).2 then match S.past (getT S.T key).1 with
  | some H=>hadH H rev
  | none=>(kv0,false)
 else (kv0,false)
theorem zic {w X:World} {b:Nat} {a0 a1 a2 a3 a4 a5:Value} (hk:X.heap[b]? = some (.cells #[a0,a1,a2,a3,a4,a5] 99 (0,0))) (r:Kv) :
 ∃ Z,((((((X.setCell ⟨b,0,none⟩ (.string r.key)).setCell ⟨b,1,none⟩ (.string r.value)).setCell ⟨b,2,none⟩ (.int .i64 r.create)).setCell ⟨b,3,none⟩ (.int .i64 r.mod)).setCell ⟨b,4,none⟩ (.int .i64 r.version)).setCell ⟨b,5,none⟩ (.int .i64 r.lease))=Z ∧
  Z.heap[b]? = some (.cells #[.string r.key,.string r.value,.int .i64 r.create,.int .i64 r.mod,.int .i64 r.version,.int .i64 r.lease] 99 (0,0))/\(Fr No w X->w.heap.size<=b->Fr No w Z):=by
 have z1:=zaa hk 0 (.string r.key);have z2:=zaa z1 1 (.string r.value);have z3:=zaa z2 2 (.int .i64 r.create);have z4:=zaa z3 3 (.int .i64 r.mod);have z5:=zaa z4 4 (.int .i64 r.version);have z6:=zaa z5 5 (.int .i64 r.lease);have hfZ:=(((((((Fr.refl (fun x=>x=b) X).setAt 0 (.string r.key)).setAt 1 (.string r.value)).setAt 2 (.int .i64 r.create)).setAt 3 (.int .i64 r.mod)).setAt 4 (.int .i64 r.version)).setAt 5 (.int .i64 r.lease));clear z1 z2 z3 z4 z5;generalize ((((((X.setCell ⟨b,0,none⟩ (.string r.key)).setCell ⟨b,1,none⟩ (.string r.value)).setCell ⟨b,2,none⟩ (.int .i64 r.create)).setCell ⟨b,3,none⟩ (.int .i64 r.mod)).setCell ⟨b,4,none⟩ (.int .i64 r.version)).setCell ⟨b,5,none⟩ (.int .i64 r.lease))=Z at *;refine ⟨Z,rfl,?_,fun hf hb=>hf.trans hfZ fun j hj e=>?_⟩
 · rw [z6];simp
 have e':j=b:=e
 omega
theorem zfr {TA:zar} {N:Nat} (hT:TreeOk TA N) {n:Nat} (hn:n<=1099511627) (w:World) (s:Nat) (S:St) (F:Nat->Prop) (hS:zak TA w s S F) (hok:StOk n S) (key:ByteArray) (rev:Int) :
 Calls Tryz.prog 66 #[.pointer (some ⟨s,0,none⟩),.string key,.int .i64 rev] w fun e w'=>e = .returned (zce (livesS S key rev))/\Fr No w w':=by
 have hhad:=fun W hW at_ H hH=>zik hT hn W s S F hW hok at_ rev H hH;have hSA:=H_ hS;obtain ⟨t,p,ev,hp,FT,FH,a,hF⟩:=hS;have c0:=a.obj.cell 0 rfl;have l1:=a.obj.lt;have hget:=fun W hW=>hT.get (w:=W) (t:=t) (T:=S.T) (F:=FT) key hW;have HT:=H_ a.tree;have HG:=H_ hget;have HH:=H_ hhad;have hl:livesS S key rev=livesS S key rev:=rfl
 have hid:(getT S.T key).2=true->∃ H,S.past (getT S.T key).1=some H:=by
  unfold getT
  cases hf:S.T.find? (fun p=>keq p.1 key) with
  | none=>intro h;cases h
  | some q=>intro _;exact hok.id q (List.mem_of_find?_eq_some hf)
 unfold livesS at hl ⊢
 generalize getT S.T key=g at *;obtain ⟨g1,g2⟩:=g;have HI:=H_ hid;clear a hget hhad hid hl;cases g2
 · go_enter Tryz.func66,Tryz.ntmps66
   go_wp2_with (first
    | (go_at_call 121;refine (HG.out _ (hT.fr HT.out ((Fr.refl No w).alloc _) (fun _ _ s=>s))).mono ?_;rintro e w1 ⟨rfl,hf1⟩
       have hf2:Fr No w w1:=((Fr.refl No w).alloc _).trans0 hf1;have k6:w1.heap[w.heap.size]? = some (.cells #[.string ByteArray.empty,.string ByteArray.empty,.int .i64 0,.int .i64 0,.int .i64 0,.int .i64 0] 99 (0,0)):=hf1.heap (zad _ _ _ rfl) id;obtain ⟨k0,k1,k2,k3,k4,k5⟩:=cells6 k6;have kf:∀ i,w1.frozen? ⟨w.heap.size,i,none⟩=false:=fun i=>by simp [World.frozen?,k6]
       unfold zck))
   obtain ⟨Z,hZ,z6,hzf⟩:=zic (w:=w) k6 ⟨⟨#[]⟩,⟨#[]⟩,0,0,0,0⟩;dsimp only at hZ z6;rw [hZ];obtain ⟨y0,y1,y2,y3,y4,y5⟩:=cells6 z6;clear hZ;refine bodyPost_ret (v:=zce (kv0,false)) (w:=Z) (by rw [results_cell_tmp rfl];go_simp;rfl) rfl ⟨rfl,hzf hf2 (Nat.le_refl _)⟩
 obtain ⟨H,hH⟩:=HI.out rfl
 simp only [if_true,hH];generalize hr:hadH H rev=r at *;obtain ⟨⟨r1,r2,r3,r4,r5,r6⟩,rb⟩:=r;have HR:=H_ hr;have HP:=H_ hH;clear hr hH;go_enter Tryz.func66,Tryz.ntmps66
 go_wp2_with (first
  | (go_at_call 121;refine (HG.out _ (hT.fr HT.out ((Fr.refl No w).alloc _) (fun _ _ s=>s))).mono ?_;rintro e w1 ⟨rfl,hf1⟩
     have hf2:Fr No w w1:=((Fr.refl No w).alloc _).trans0 hf1;have k6':w1.heap[w.heap.size]? = some (.cells #[.string ByteArray.empty,.string ByteArray.empty,.int .i64 0,.int .i64 0,.int .i64 0,.int .i64 0] 99 (0,0)):=hf1.heap (zad _ _ _ rfl) id;unfold zck)
  | (go_at_call 62;refine (HH.out _ (hSA.out.fr0 hT hf2) g1 H HP.out).mono ?_;rintro e w2 ⟨rfl,hf3⟩
     rw [HR.out];have hf4:Fr No w w2:=hf2.trans0 hf3;have k6:w2.heap[w.heap.size]? = some (.cells #[.string ByteArray.empty,.string ByteArray.empty,.int .i64 0,.int .i64 0,.int .i64 0,.int .i64 0] 99 (0,0)):=hf3.heap k6' id;obtain ⟨k0,k1,k2,k3,k4,k5⟩:=cells6 k6;have kf:∀ i,w2.frozen? ⟨w.heap.size,i,none⟩=false:=fun i=>by simp [World.frozen?,k6]
     unfold zce kvV))
 obtain ⟨Z,hZ,z6,hzf⟩:=zic (w:=w) k6 ⟨r1,r2,r3,r4,r5,r6⟩;dsimp only at hZ z6;rw [hZ];obtain ⟨y0,y1,y2,y3,y4,y5⟩:=cells6 z6;clear hZ;refine bodyPost_ret (v:=zce (⟨r1,r2,r3,r4,r5,r6⟩,rb)) (w:=Z) (by rw [results_cell_tmp rfl];go_simp;rfl) rfl ⟨rfl,hzf hf4 (Nat.le_refl _)⟩
def putH (H:Hist) (x:Kv):Hist:={ gens:=putK H.gens x.mod,last:=x.mod,kvs:=fun r=>if r=x.mod then some x else H.kvs r }
def newH:Hist:={ gens:=[],last:=0,kvs:=fun _=>none }
def idS (S:St) (key:ByteArray):Int:=if (getT S.T key).2 then (getT S.T key).1 else S.next
def madeS (S:St) (key:ByteArray):St :=
 if (getT S.T key).2 then S else { S with T:=insT S.T key S.next,past:=fun i=>if i=S.next then some newH else S.past i,next:=S.next+1 }
def putS (S:St) (x:Kv):St :=
 { madeS S x.key with past:=fun i=>if i=idS S x.key then some (putH (((madeS S x.key).past (idS S x.key)).getD newH) x) else (madeS S x.key).past i }
theorem zjm {W:World} {h g m:Nat} {FK:Nat->Prop} (ho:Has W h [.pointer (some ⟨g,0,none⟩),.map (some m)]) (hk:KeyAt W g [] 0 FK) (hm:MapAt W m fun _=>none) (d1:¬ FK h) (d2:¬ FK m) :
 HistAt W h newH (fun b=>b=h\/b=m\/FK b):=⟨g,m,FK,⟨ho,hk,hm,d1,d2⟩,fun _=>Iff.rfl⟩
theorem zpf {TA:zar} {N:Nat} (hT:TreeOk TA N) {w2 W4:World} {s t p:Nat} {ev:Value} {hp:Int->Option Nat} {FT:Nat->Prop} {FH:Int->Nat->Prop} {S:St} (a:StoreR TA w2 s t p ev hp FT FH S) (id:Int)
 (hid:S.past id=none) (hwf:(Lit.int .i64 id).wf=true) (hf:Fr No w2 W4) {h:Nat} {F':Nat->Prop} (hh:HistAt W4 h newH F') (hn:∀ b,F' b->w2.heap.size<=b) :
 StoreR TA (mapUpW Tryz.prog 105 p id (.pointer (some ⟨h,0,none⟩)) W4) s t p ev (fun i=>if i=id then some h else hp i) FT (fun i=>if i=id then F' else FH i) { S with past:=fun i=>if i=id then some newH else S.past i } ∧
  Fr (fun b=>b=p) W4 (mapUpW Tryz.prog 105 p id (.pointer (some ⟨h,0,none⟩)) W4):=by
 obtain ⟨_,h2,h3,_⟩:=(a.map.fr hf (fun s=>s)).up (P:=Tryz.prog) (t:=105) (k:=3) Tryz.underlying105 Tryz.underlying3 hwf (.pointer (some ⟨h,0,none⟩));refine ⟨(a.fr hT hf fun _ _ s=>s).addHist hT hid h3 h2 (B:=w2.heap.size) (a.lt hT) (hh.fr h3 fun b hb e=>?_) hn,h3⟩;have h4:=hn b hb;have h5:=a.map.lt;have h6:b=p:=e;omega
set_option maxHeartbeats 4000000 in
theorem zsd {TA:zar} {N:Nat} (hT:TreeOk TA N) {n:Nat} (hn:n<=1099511627) (w:World) (s:Nat) (S:St) (F:Nat->Prop) (hS:zak TA w s S F) (hok:StOk n S) (x:Kv)
 (hroom:(getT S.T x.key).2=false->S.T.length < N) (hm1:1<=x.mod) (hm2:x.mod<=top) (hlast:∀ H,S.past (getT S.T x.key).1=some H->(getT S.T x.key).2=true->H.last < x.mod) :
 Calls Tryz.prog 122 #[.pointer (some ⟨s,0,none⟩),kvV x] w fun e w'=>(∃ v,e = .returned v)/\∃ F',zak TA w' s (putS S x) F'/\Fr F w w'/\(∀ b,F' b->F b\/w.heap.size<=b):=by
 obtain ⟨t,p,ev,hp,FT,FH,a,hF⟩:=hS;obtain ⟨x1,x2,x3,x4,x5,x6⟩:=x;have c0:=a.obj.cell 0 rfl;have l1:=a.obj.lt;have hget:=fun W hW=>hT.get (w:=W) (t:=t) (T:=S.T) (F:=FT) x1 hW;have HG:=H_ hget;have HA:=H_ a;have HFF:=H_ hF;unfold kvV;dsimp only at *;clear hget a hF;go_enter Tryz.func122,Tryz.ntmps122;go_wp2_with fail;have hk:=zad w (Obj.cells #[.string x1,.string x2,.int .i64 x3,.int .i64 x4,.int .i64 x5,.int .i64 x6] 99) _ rfl;have hf0:Fr No w (w.alloc (Obj.cells #[.string x1,.string x2,.int .i64 x3,.int .i64 x4,.int .i64 x5,.int .i64 x6] 99)):=(Fr.refl No w).alloc _;generalize w.alloc (Obj.cells #[.string x1,.string x2,.int .i64 x3,.int .i64 x4,.int .i64 x5,.int .i64 x6] 99)=W0 at hk hf0 ⊢
 have k0:W0.cell? ⟨w.heap.size,0,none⟩=some (.string x1):=cellAt hk 0 rfl;have e0:=hf0.cell0 c0
 go_region_held (fun W=>W.cell? ⟨s,0,none⟩=some (.pointer (some ⟨t,0,none⟩))/\W.cell? ⟨w.heap.size,0,none⟩=some (.string x1))
  (first | exact ⟨e0,k0⟩ | exact ⟨hf1.cell0 e0,hf1.cell0 k0⟩)
  (first | (go_at_call 121;refine (HG.out _ (hT.fr HA.out.tree hf0.drew (fun _ _ s=>s))).mono ?_;rintro e w1 ⟨rfl,hf1⟩;unfold zck))
 have hfA:Fr No w w1:=hf0.drew.trans0 hf1;have hkA:=hf1.heap (b:=w.heap.size) hk id;have hf1s:w.heap.size+1<=w1.heap.size:=by have:=zac hkA;omega
 clear hk hf0 k0 e0 hf1;go_upto_if 18 with fail
 go_cut [4,5] (fun s4 _ wx=>s4 = .int .i64 (idS S x1)/\Hid (wx.heap[w.heap.size]? = some (.cells #[.string x1,.string x2,.int .i64 x3,.int .i64 x4,.int .i64 x5,.int .i64 x6] 99 (0,0))) ∧
  ∃ hp' FT' FH',Hid (StoreR TA wx s t p ev hp' FT' FH' (madeS S x1))/\Hid (Fr (storeF s p ev FT FH) w wx)/\Hid (∀ b,storeF s p ev FT' FH' b->storeF s p ev FT FH b\/w.heap.size < b))
 case first =>
  cases hg:(getT S.T x1).2
  · have c2:w1.cell? ⟨s,2,none⟩=some (.int .i64 S.next):=hfA.cell0 (HA.out.obj.cell 2 rfl)
    have f2:w1.frozen? ⟨s,2,none⟩=false:=hfA.free0 (HA.out.obj.cell 2 rfl) (HA.out.obj.free 2);have hx1:=hok.pos;have hx2:=hok.next;have hl1:s < w1.heap.size:=(by have:=hfA.size;omega);go_wp2_with fail;have ho:=(HA.out.fr hT hfA fun _ _ s=>s).obj.set 2 (.int .i64 (S.next+1));have hfs:Fr (fun b=>b=s) w1 (w1.setCell ⟨s,2,none⟩ (.int .i64 (S.next+1))):=(Fr.refl _ w1).setAt 2 _;have hA1:=(HA.out.fr hT hfA fun _ _ s=>s).setObj hT hfs (S.next+1) S.rev S.mark ho;have hsz1:(w1.setCell ⟨s,2,none⟩ (.int .i64 (S.next+1))).heap.size=w1.heap.size:=(by simp);have hkB:(w1.setCell ⟨s,2,none⟩ (.int .i64 (S.next+1))).heap[w.heap.size]? = _:=hfs.heap hkA (by omega);have hfS:Fr (fun b=>b=s) w (w1.setCell ⟨s,2,none⟩ (.int .i64 (S.next+1))):=hfA.mono (fun _ _ h=>h.elim) |>.trans hfs fun _ _ h=>h;have hS1:=hfS.size
    generalize w1.setCell ⟨s,2,none⟩ (.int .i64 (S.next+1))=W1 at *;have hset:=hT.set x1 S.next hA1.tree (hroom hg);have e0:=hA1.obj.cell 0 rfl;have k0:W1.cell? ⟨w.heap.size,0,none⟩=some (.string x1):=cellAt hkB 0 rfl;have nT:¬ FT s:=hA1.ds.1;have nB:¬ FT w.heap.size:=fun h=>by have:=hT.lt HA.out.tree _ h;omega
    go_region_held (fun W=>W.cell? ⟨s,0,none⟩=some (.pointer (some ⟨t,0,none⟩))/\W.cell? ⟨w.heap.size,0,none⟩=some (.string x1))
     (first | exact ⟨e0,k0⟩ | exact ⟨hf2.cell e0 nT,hf2.cell k0 nB⟩)
     (first | (go_at_call 116;refine (hT.set x1 S.next (hT.fr hA1.tree (Fr.refl No W1).drew (fun _ _ s=>s)) (hroom hg)).mono ?_;rintro e w2 ⟨⟨v,rfl⟩,F2,ht2,hf2,hn2⟩))
    have hf2':Fr FT W1 w2:=((Fr.refl FT W1).drew).trans hf2 fun _ _ h=>h;have hA2:=hA1.setTree hT hf2' ht2 hn2;have hkC:=hf2'.heap hkB nB;have hfB:Fr (storeF s p ev FT FH) w w2:=(hfS.mono fun b _ h=>.inl h).trans hf2' fun b _ h=>.inr (.inr (.inl h))
    have hn2':∀ b,storeF s p ev F2 FH b->storeF s p ev FT FH b\/w.heap.size < b:=by
     rintro b (h | h | h | h | h)
     · exact .inl (.inl h)
     · exact .inl (.inr (.inl h))
     · rcases hn2 b h with h | h
       · exact .inl (.inr (.inr (.inl h)))
       right;have:=hf1s;simp at h;omega
     · exact .inl (.inr (.inr (.inr (.inl h))))
     exact .inl (.inr (.inr (.inr (.inr h))))
    have hwfn:(Lit.int .i64 S.next).wf=true:=wf64 (by omega) (by omega);have m1:=hA2.obj.cell 1 rfl;have npp:¬ s=p:=fun e=>hA2.map.apart hA2.obj e.symm
    have HS:∀ W,Fr No w2 W->W.cell? ⟨s,1,none⟩=some (.map (some p))/\∀ v,(Instr.mapUpdate 105 (.map (some p)) (.int .i64 S.next) v).run Tryz.prog W = .ok () (mapUpW Tryz.prog 105 p S.next v W):=fun W hW =>
     ⟨hW.cell0 m1,fun v=>((hA2.map.fr hW id).up (P:=Tryz.prog) (t:=105) (k:=3) Tryz.underlying105 Tryz.underlying3 hwfn v).1⟩
    have HS2:∀ W u,Fr No w2 W->(mapUpW Tryz.prog 105 p S.next u W).cell? ⟨s,1,none⟩=some (.map (some p)) ∧
     ∀ v,(Instr.mapUpdate 105 (.map (some p)) (.int .i64 S.next) v).run Tryz.prog (mapUpW Tryz.prog 105 p S.next u W) = .ok () (mapUpW Tryz.prog 105 p S.next v (mapUpW Tryz.prog 105 p S.next u W)):=fun W u hW=>by
     obtain ⟨_,h2,h3,_⟩:=(hA2.map.fr hW id).up (P:=Tryz.prog) (t:=105) (k:=3) Tryz.underlying105 Tryz.underlying3 hwfn u;exact ⟨h3.cell (hW.cell0 m1) npp,fun v=>(h2.up (P:=Tryz.prog) (t:=105) (k:=3) Tryz.underlying105 Tryz.underlying3 hwfn v).1⟩
    have H1:=H_ HS;have H2:=H_ HS2;have HAA:=H_ hA2;have HKC:=H_ hkC;have HFB:=H_ hfB;have HN2:=H_ hn2';clear HS HS2 hA2 hkC hfB hn2' hf2' hf2 ht2 hn2 hset hA1 hkB hfS hfs ho hkA hfA HG hsz1 e0 k0 m1;have hmm:∀ w,(Instr.makeMap 169 none).run Tryz.prog w = .ok (.map (some w.heap.size)) (w.alloc (.map #[] 0)):=fun w=>run_makeMap 169 w;go_wp2_with fail
    go_region_held (fun W=>W.cell? ⟨s,1,none⟩=some (.map (some p))/\∀ v,(Instr.mapUpdate 105 (.map (some p)) (.int .i64 S.next) v).run Tryz.prog W = .ok () (mapUpW Tryz.prog 105 p S.next v W))
     (first
       | ((refine H1.out _ ?_);(repeat (first | with_reducible exact Fr.refl _ _ | with_reducible refine Fr.alloc ?_ _ | with_reducible refine Fr.drew ?_ | (refine Fr.trans0 ?_ (by assumption))));done)
       | ((refine H2.out _ _ ?_);(repeat (first | with_reducible exact Fr.refl _ _ | with_reducible refine Fr.alloc ?_ _ | with_reducible refine Fr.drew ?_ | (refine Fr.trans0 ?_ (by assumption))));done))
     (first | (go_at_call 117;refine (zgl _).mono ?_;rintro e w3 ⟨g,rfl,FK,hk3,hf3,hn3⟩))
    · have hf3':Fr No w2 w3:=(Fr.refl No w2).drew.trans0 hf3
      have hsz3:=hf3'.size;have hks:=hk3.lt;have hn3':∀ b,FK b->w2.heap.size<=b:=hn3;have hf4:Fr No w2 ((w3.alloc (Obj.map #[] 0)).alloc (Obj.cells #[Value.pointer (some ⟨g,0,none⟩),Value.map (some w3.heap.size)] 171)):=(hf3'.alloc _).alloc _
      have hh:HistAt ((w3.alloc (Obj.map #[] 0)).alloc (Obj.cells #[Value.pointer (some ⟨g,0,none⟩),Value.map (some w3.heap.size)] 171)) (w3.heap.size+1) newH (fun b=>b=w3.heap.size+1\/b=w3.heap.size\/FK b) :=
       zjm ⟨171,zad _ _ _ (by simp)⟩ (hk3.fr (((Fr.refl No w3).alloc _).alloc _) fun _ _ s=>s) ((MapAt.made w3).alloc _) (fun h=>by have:=hks _ h;omega) (fun h=>by have:=hks _ h;omega)
      obtain ⟨hM,hf5⟩:=zpf hT HAA.out S.next (by
       cases hc:S.past S.next with
       | none=>rfl
       | some H=>have:=hok.ids _ _ hc;omega) hwfn hf4 hh (fun b hb=>by
         rcases hb with rfl | rfl | hb
         · omega
         · omega
         exact hn3' b hb)
      have HM:=H_ hM;have H5:=H_ hf5;clear hM hf5 hh;go_wp2_with fail;go_meet
      case rel =>
       have hlp:=HAA.out.map.lt;refine ⟨by unfold idS;rw [hg];rfl,H_ (H5.out.heap (hf4.heap HKC.out id) ?_),_,_,_,H_ (by unfold madeS;rw [hg];exact HM.out),H_ ?_,H_ ?_⟩
       · intro e
         have:=HA.out.map.lt;have e':w.heap.size=p:=e;omega
       · exact (HFB.out.trans0 hf4).trans H5.out fun b _ e=>.inr (.inl e)
       have hw2:=HFB.out.size
       have hkc:=zac HKC.out;rintro b (h | h | h | h | ⟨i,h⟩)
       · exact HN2.out b (.inl h)
       · exact HN2.out b (.inr (.inl h))
       · exact HN2.out b (.inr (.inr (.inl h)))
       · exact HN2.out b (.inr (.inr (.inr (.inl h))))
       by_cases hi:i=S.next
       · rw [if_pos hi] at h
         right
         rcases h with rfl | rfl | h
         · omega
         · omega
         have:=hn3' b h;omega
       rw [if_neg hi] at h
       exact HN2.out b (.inr (.inr (.inr (.inr ⟨i,h⟩))))
    have hf3':Fr No w2 w3:=((Fr.refl No w2).alloc _).drew.trans0 hf3
    have hsz3:=hf3'.size;have hks:=hk3.lt;have hn3':∀ b,FK b->w2.heap.size < b:=fun b hb=>by have:=hn3 b hb;simp at this;omega
    have hsz3':w2.heap.size+1<=w3.heap.size:=(by have:=hf3.size;simpa using this);have hmB:MapAt w3 w2.heap.size fun _=>none:=(MapAt.made w2).fr (S:=No) ((Fr.refl No (w2.alloc (Obj.map #[] 0))).drew.trans0 hf3) id;have hf4:Fr No w2 (w3.alloc (Obj.cells #[Value.pointer (some ⟨g,0,none⟩),Value.map (some w2.heap.size)] 171)):=hf3'.alloc _
    have hh:HistAt (w3.alloc (Obj.cells #[Value.pointer (some ⟨g,0,none⟩),Value.map (some w2.heap.size)] 171)) w3.heap.size newH (fun b=>b=w3.heap.size\/b=w2.heap.size\/FK b) :=
     zjm ⟨171,zad _ _ _ rfl⟩ (hk3.fr ((Fr.refl No w3).alloc _) fun _ _ s=>s) (hmB.alloc _) (fun h=>by have:=hks _ h;omega) (fun h=>by have:=hn3' _ h;omega)
    obtain ⟨hM,hf5⟩:=zpf hT HAA.out S.next (by
     cases hc:S.past S.next with
     | none=>rfl
     | some H=>have:=hok.ids _ _ hc;omega) hwfn hf4 hh (fun b hb=>by
       rcases hb with rfl | rfl | hb
       · omega
       · omega
       exact Nat.le_of_lt (hn3' b hb))
    have HM:=H_ hM;have H5:=H_ hf5;clear hM hf5 hh;go_wp2_with fail;go_meet
    case rel =>
     have hlp:=HAA.out.map.lt;refine ⟨by unfold idS;rw [hg];rfl,H_ (H5.out.heap (hf4.heap HKC.out id) ?_),_,_,_,H_ (by unfold madeS;rw [hg];exact HM.out),H_ ?_,H_ ?_⟩
     · intro e
       have:=HA.out.map.lt;have e':w.heap.size=p:=e;omega
     · exact (HFB.out.trans0 hf4).trans H5.out fun b _ e=>.inr (.inl e)
     have hw2:=HFB.out.size
     have hkc:=zac HKC.out;rintro b (h | h | h | h | ⟨i,h⟩)
     · exact HN2.out b (.inl h)
     · exact HN2.out b (.inr (.inl h))
     · exact HN2.out b (.inr (.inr (.inl h)))
     · exact HN2.out b (.inr (.inr (.inr (.inl h))))
     by_cases hi:i=S.next
     · rw [if_pos hi] at h
       right
       rcases h with rfl | rfl | h
       · omega
       · omega
       have:=hn3' b h;omega
     rw [if_neg hi] at h
     exact HN2.out b (.inr (.inr (.inr (.inr ⟨i,h⟩))))
  go_wp2_with fail
  go_meet
  case rel=>exact ⟨by unfold idS;rw [hg];rfl,H_ hkA,hp,FT,FH,H_ (by unfold madeS;rw [hg];exact HA.out.fr hT hfA fun _ _ s=>s),H_ (hfA.mono fun _ _ s=>s.elim),H_ fun b h=>.inl h⟩
 case rest =>
  obtain ⟨rfl,HK,hp',FT',FH',HM,HF,HN⟩:=hcut;have hx1:=hok.pos;have hx2:=hok.next
  obtain ⟨H1,hH1,hok1,hl1',hidr⟩:∃ H1,(madeS S x1).past (idS S x1)=some H1/\HistOk n H1/\H1.last < x4/\0<=idS S x1/\idS S x1<=S.next:=by
   unfold madeS idS;cases hg:(getT S.T x1).2
   · refine ⟨newH,by simp,⟨by simp [newH],by simp [newH]⟩,by unfold newH;dsimp only;omega,by simp;omega⟩
   obtain ⟨H,hH⟩:∃ H,S.past (getT S.T x1).1=some H:=by
    revert hg
    unfold getT
    cases hf:S.T.find? (fun q=>keq q.1 x1) with
    | none=>intro h;cases h
    | some q=>intro _;exact hok.id q (List.mem_of_find?_eq_some hf)
   have:=hok.ids _ _ hH;exact ⟨H,by simpa using hH,(hok.hist _ _ hH).1,hlast H hH hg,by simp;omega⟩
  have hwf:(Lit.int .i64 (idS S x1)).wf=true:=wf64 (by omega) (by omega);have hput:putS S ⟨x1,x2,x3,x4,x5,x6⟩ = { madeS S x1 with past:=fun i=>if i=idS S x1 then some (putH H1 ⟨x1,x2,x3,x4,x5,x6⟩) else (madeS S x1).past i }:=(by unfold putS;dsimp only;rw [hH1];rfl);have HPUT:=H_ hput;clear hput;obtain ⟨h,hh,g,m,FK,b,hFH⟩:=HM.out.hist _ _ hH1;have hpl:((hp' (idS S x1)).map fun h=>Value.pointer (some ⟨h,0,none⟩)).getD (.pointer none) = .pointer (some ⟨h,0,none⟩):=(by rw [hh];rfl);have c1s:=HM.out.obj.cell 1 rfl;have h0:=b.obj.cell 0 rfl;have h1:=b.obj.cell 1 rfl;have k3:wc.cell? ⟨w.heap.size,3,none⟩=some (.int .i64 x4):=(by simp [World.cell?,HK.out]);have ls:=HM.out.obj.lt;have lh:=b.obj.lt;have lk:=zac HK.out
  have hnbox:¬ FH' (idS S x1) w.heap.size:=fun e=>by
   rcases HN.out _ (.inr (.inr (.inr (.inr ⟨_,e⟩)))) with e | e
   · have:=HA.out.lt hT _ e;omega
   omega
  have nBK:¬ FK w.heap.size:=fun e=>hnbox ((hFH _).2 (.inr (.inr e)));have nBm:w.heap.size≠m:=fun e=>hnbox ((hFH _).2 (.inr (.inl e)));have HB:=H_ b;have HFH:=H_ hFH;have Hpl:=H_ hpl;have HOK1:=H_ hok1;clear b hFH hpl hok1 hnbox;go_wp2_with (at_lookup;refine zfn rfl _ _ 105 rfl 3 167 Tryz.underlying105 Tryz.underlying3 p _ rfl HM.out.map (idS S x1) rfl hwf _ (zero142 _) _ Hpl.out ?_)
  go_region_held (fun W=>W.cell? ⟨h,0,none⟩=some (.pointer (some ⟨g,0,none⟩))/\W.cell? ⟨w.heap.size,3,none⟩=some (.int .i64 x4))
   (first | exact ⟨h0,k3⟩ | exact ⟨hf4.cell h0 HB.out.d1,hf4.cell k3 nBK⟩)
   (first | (go_at_call 118;refine (zmv _ g H1.gens H1.last x4 FK (HB.out.key.fr (Fr.refl No wc).drew (fun _ _ s=>s)) (HOK1.out.fits hn) hm1 hm2 hl1').mono ?_;rintro e w4 ⟨rfl,FK',hk4,hf4,hn4⟩))
  go_wp2_with fail;have hf4':Fr FK wc w4:=((Fr.refl FK wc).drew).trans hf4 fun _ _ h=>h;have h1':=hf4'.cell h1 HB.out.d1;have hk6:=hf4'.heap HK.out nBK;obtain ⟨k0,k1,k2,k3',k4,k5⟩:=cells6 hk6;have lh4:h < w4.heap.size:=(by have:=hf4'.size;omega);have lk4:w.heap.size < w4.heap.size:=zac hk6;have hmw:MapAt w4.drew m fun r=>(H1.kvs r).map kvV:=HB.out.map.fr hf4'.drew HB.out.d2;have hwx:(Lit.int .i64 x4).wf=true:=wf64 (by omega) (by unfold top at hm2;omega);have HF4:=H_ hf4';have HK4:=H_ hk4;have HN4:=H_ hn4;clear hf4 hf4' hk4 hn4 hk6;refine wp_region_still_tail 7 (by kernel_rfl) (by kernel_rfl) ?_;simp only [List.take_succ_cons,List.take_zero,List.drop_succ_cons,List.drop_zero];change wpStill _ _ w4.drew _ _ _
  repeat (refine wpStill_step (fun K hK=>?_);go_simp;(try go_bits);refine hK _ ?_;clear hK K)
  refine wpStill_nil ?_;change wpList _ _ _ _ _ w4.drew;refine zej rfl _ _ _ 169 rfl 3 99 Tryz.underlying169 Tryz.underlying3 m _ rfl hmw x4 rfl hwx (kvV ⟨x1,x2,x3,x4,x5,x6⟩) rfl ?_;intro w5 hm5 hf5 hsz5;go_wp2;refine bodyPost_end (results_none rfl _ _ _) rfl ?_;have hlo:=HB.out.map.lt;have hfc:Fr (FH' (idS S x1)) wc w5:=(HF4.out.drew.mono fun b _ e=>(HFH.out b).2 (.inr (.inr e))).trans (hf5.mono (S:=fun x=>x=m) (T:=FH' (idS S x1)) fun b _ e=>(HFH.out b).2 (.inr (.inl e))) fun _ _ e=>e
  have hhist:HistAt w5 h (putH H1 ⟨x1,x2,x3,x4,x5,x6⟩) (fun b=>b=h\/b=m\/FK' b):=by
   refine ⟨g,m,FK',⟨?_,?_,?_,?_,?_⟩,fun _=>Iff.rfl⟩
   · refine (HB.out.obj.fr HF4.out.drew HB.out.d1).fr hf5 fun e=>?_
     exact HB.out.map.apart HB.out.obj e.symm
   · refine HK4.out.fr ((Fr.refl (fun x=>x=m) w4).drew.trans hf5 fun _ _ e=>e) fun b hb e=>?_
     have e':b=m:=e;subst e';rcases HN4.out _ hb with h5 | h5
     · exact HB.out.d2 h5
     have h6:wc.heap.size<=b:=h5
     omega
   · refine cast (congrArg (MapAt w5 m) ?_) hm5
     funext r
     unfold putH;dsimp only;by_cases hr:r=x4 <;> simp [hr]
   · intro hb
     rcases HN4.out _ hb with h5 | h5
     · exact HB.out.d1 h5
     have h6:wc.heap.size<=h:=h5
     omega
   intro hb
   rcases HN4.out _ hb with h5 | h5
   · exact HB.out.d2 h5
   have h6:wc.heap.size<=m:=h5
   omega
  have hnew:∀ b,(b=h\/b=m\/FK' b)->FH' (idS S x1) b\/wc.heap.size<=b:=by
   rintro b (e | e | e)
   · exact .inl ((HFH.out b).2 (.inl e))
   · exact .inl ((HFH.out b).2 (.inr (.inl e)))
   rcases HN4.out b e with h5 | h5
   · exact .inl ((HFH.out b).2 (.inr (.inr h5)))
   exact .inr h5
  have hfin:=HM.out.setHist hT hh hfc hhist hnew;refine ⟨⟨_,rfl⟩,_,⟨t,p,ev,hp',FT',_,by rw [HPUT.out];exact hfin,fun _=>Iff.rfl⟩,?_,?_⟩
  · have hwc:=HF.out.size
    refine (HF.out.trans hfc fun b hb e=>?_).mono fun b _ e=>(HFF.out b).2 e;rcases HN.out b (.inr (.inr (.inr (.inr ⟨_,e⟩)))) with h5 | h5
    · exact h5
    omega
  have hwc:=HF.out.size
  have old:∀ b,storeF s p ev FT' FH' b->F b\/w.heap.size<=b:=fun b hb=>by
   rcases HN.out b hb with h5 | h5
   · exact .inl ((HFF.out b).2 h5)
   exact .inr (by omega)
  rintro b (e | e | e | e | ⟨i,e⟩)
  · exact old b (.inl e)
  · exact old b (.inr (.inl e))
  · exact old b (.inr (.inr (.inl e)))
  · exact old b (.inr (.inr (.inr (.inl e))))
  by_cases hi:i=idS S x1
  · rw [if_pos hi] at e
    rcases hnew b e with h5 | h5
    · exact old b (.inr (.inr (.inr (.inr ⟨_,h5⟩))))
    exact .inr (by omega)
  rw [if_neg hi] at e
  exact old b (.inr (.inr (.inr (.inr ⟨i,e⟩))))
def sign3 (s:ByteArray):Bool:=decide (3<=s.size) && ((s.extract 0 3).toList == [239,191,189])
theorem zij (w:World) (s:ByteArray):Calls Tryz.prog 183 #[.string s,.string ⟨#[239,191,189]⟩] w fun e w'=>e = .returned (.bool (sign3 s))/\w=w':=by
 by_cases h:3<=s.size
 · have hz:(3:Int)<=(s.size:Int):=by omega
   have hd:sign3 s=((s.extract 0 3).toList == [239,191,189]):=(by unfold sign3;simp [h]);rw [hd];go_enter Tryz.func183,Tryz.ntmps183;go_wp2;go_ret;exact ⟨rfl,rfl⟩
 have hz:¬ (3:Int)<=(s.size:Int):=by omega
 have hd:sign3 s=false:=(by unfold sign3;simp [h]);rw [hd];go_enter Tryz.func183,Tryz.ntmps183;go_wp2;go_ret;exact ⟨rfl,rfl⟩
theorem zhe (w:World) (s:ByteArray):Calls Tryz.prog 179 #[.string s,.string ⟨#[239,191,189]⟩] w fun e w'=>e = .returned (.bool (sign3 s))/\w=w':=by
 go_enter Tryz.func179,Tryz.ntmps179;go_wp2_with (go_at_call 183;refine (zij _ _).mono ?_;rintro e w' ⟨rfl,rfl⟩);go_ret;exact ⟨rfl,rfl⟩
def zhk (s:ByteArray) (i:Nat):Bool:=(Utf8.decode s i).1 == 65533 && !sign3 (s.extract i s.size)
theorem zmx (w:World) (s:ByteArray) (i r:Nat) (hi:i<=s.size):Calls Tryz.prog 161 #[.string s,.int .i64 i,.int .i32 r] w fun e w'=>e = .returned (.bool (r == 65533 && !sign3 (s.extract i s.size)))/\w=w':=by
 have hiz:(i:Int)<=(s.size:Int):=by omega
 have h1:((r:Int) == 65533)=(r == 65533):=by rw [Bool.eq_iff_iff,beq_iff_eq,beq_iff_eq];omega
 by_cases h:r=65533
 · subst h
   go_enter Tryz.func161,Tryz.ntmps161;go_wp2_with (go_at_call 179;refine (zhe _ _).mono ?_;rintro e w' ⟨rfl,rfl⟩);go_ret;exact ⟨by simp,rfl⟩
 have h2:(r == 65533)=false:=by simpa using h
 rw [h2] at h1;go_enter Tryz.func161,Tryz.ntmps161;go_wp2;go_ret;exact ⟨by rw [h2];rfl,rfl⟩
def runesK (s:ByteArray):Nat->Nat->Int->Int
 | 0,_,n=>n
 | g+1,i,n=>if i < s.size then (if zhk s i then -1 else runesK s g (i+(Utf8.decode s i).2) (n+1)) else n
def runes (s:ByteArray):Int:=runesK s s.size 0 0
theorem zmt (s:ByteArray) (i:Nat) (h:i < s.size):1<=(Utf8.decode s i).2/\i+(Utf8.decode s i).2<=s.size:=by
 refine ⟨Go.Lib.decode_width_pos s i h,?_⟩;unfold Utf8.decode;simp only
 repeat' split
 all_goals simp_all
 all_goals omega
theorem zht (s:ByteArray):∀ (g i:Nat) (n:Int) (g':Nat),s.size<=i+g->g<=g'->runesK s g' i n=runesK s g i n
 | 0,i,n,g',h,_=>by
   cases g' with
   | zero=>rfl
   | succ g'=>unfold runesK;rw [if_neg (by omega)]
 | g+1,i,n,g',h,hg=>by
   cases g' with
   | zero=>omega
   | succ g' =>
     unfold runesK;by_cases hi:i < s.size
     · rw [if_pos hi,if_pos hi]
       cases zhk s i
       · simp only [Bool.false_eq_true,if_false]
         have:=(zmt s i hi).1;exact zht s g _ _ g' (by omega) (by omega)
       rfl
     rw [if_neg hi,if_neg hi]
theorem zhd (w:World) (s:ByteArray):Calls Tryz.prog 162 #[.string s,.int .u8 0] w fun e w'=>e = .returned (.int .i64 (firstIdx s 0))/\w=w':=by
 have hx:∀ W,(callFunc 180 #[.string s,.int .u8 0]).run Tryz.prog W = .ok (.value (.int .i64 (firstIdx s 0))) W:=by
  intro W;rw [run_callFunc_extern (e:=Extern.BytealgIndexByte.indexByte) Tryz.func180 (by kernel_rfl) (by kernel_rfl) (by kernel_rfl) (by kernel_rfl),run_indexByte_string]
  rfl
 go_enter Tryz.func162,Tryz.ntmps162;go_wp2;go_ret;exact ⟨rfl,rfl⟩
theorem zih (w:World) (s:ByteArray):Calls Tryz.prog 120 #[.string s,.int .u8 0] w fun e w'=>e = .returned (.int .i64 (firstIdx s 0))/\w=w':=by
 go_enter Tryz.func120,Tryz.ntmps120;go_wp2_with (go_at_call 162;refine (zhd _ _).mono ?_;rintro e w' ⟨rfl,rfl⟩);go_ret;exact ⟨rfl,rfl⟩
theorem run_next_at {P:Program} (w:World) (b:Nat) (s:ByteArray) (pos:Nat) (ty:TypeId) (hb:w.heap[b]? = some (.stringIter s pos)) (h:pos < s.size) :
 (Instr.next (.pointer (some ⟨b,0,none⟩)) true ty).run P w =
   .ok (.tuple #[.bool true,.int .i64 pos,.int .i32 (Utf8.decode s pos).1]) (ChangeMaps.setBlock w b (.stringIter s (pos+(Utf8.decode s pos).2))):=by
 simp [Instr.next,getObj,setObj,Sem.run,Result.andThen,hb,h,goInt,ChangeMaps.setBlock]
theorem zjy {P:Program} (w:World) (b:Nat) (s:ByteArray) (pos:Nat) (ty:TypeId) (hb:w.heap[b]? = some (.stringIter s pos)) (h:¬ pos < s.size) :
 (Instr.next (.pointer (some ⟨b,0,none⟩)) true ty).run P w = .ok (.tuple #[.bool false]) w:=by
 simp [Instr.next,getObj,Sem.run,hb,h]
theorem zgn (w:World) (b k:Nat) (o:Obj) (h:k≠b):(ChangeMaps.setBlock w b o).heap[k]? = w.heap[k]?:=by
 unfold ChangeMaps.setBlock;exact Array.getElem?_setIfInBounds_ne (fun e=>h e.symm)
theorem zrx (w:World) (b:Nat) (o:Obj) (h:b < w.heap.size):(ChangeMaps.setBlock w b o).heap[b]? = some o:=by
 unfold ChangeMaps.setBlock;simp [h]
theorem zor (w:World) (s:ByteArray) (hs:s.size<=1099511627776):Calls Tryz.prog 119 #[.string s] w fun e w'=>e = .returned (.int .i64 (runes s))/\Fr No w w':=by
 go_enter Tryz.func119,Tryz.ntmps119;go_wp2
 go_loopg [3] s.size (fun g s3 wr=>∃ (pos:Nat) (n:Int),s3 = .int .i64 n/\pos+g=s.size/\0<=n/\n<=pos/\Hid (runesK s g pos n=runes s)/\Hid (wr.heap[w.heap.size]? = some (.stringIter s pos))/\Hid (Fr No w wr))
 case atStart=>exact ⟨0,0,rfl,by simp,by omega,by omega,H_ rfl,H_ (World.iter_heap _ _ _),H_ ((Fr.refl No w).alloc _)⟩
 case round =>
  obtain ⟨pos,n,rfl,hg,hn0,hn1,HK,HB,HF⟩:=hrel;by_cases hp:pos < s.size
  · have hnx:=fun ty=>run_next_at (P:=Tryz.prog) wr w.heap.size s pos ty HB.out hp
    have hd:=zmt s pos hp
    have hfw:Fr No w (ChangeMaps.setBlock wr w.heap.size (.stringIter s (pos+(Utf8.decode s pos).2))) :=
     ⟨HF.out.os,HF.out.tape,HF.out.output,by have:=HF.out.size;simpa [ChangeMaps.setBlock] using this,fun k hk hS=>(zgn wr _ k _ (by omega)).trans (HF.out.block k hk hS)⟩
    have hbw:=zrx wr w.heap.size (.stringIter s (pos+(Utf8.decode s pos).2)) (zac HB.out)
    have hstep:runesK s gk pos n=if zhk s pos then -1 else runesK s (s.size - (pos+(Utf8.decode s pos).2)) (pos+(Utf8.decode s pos).2) (n+1):=by
     obtain ⟨k,rfl⟩:∃ k,gk=k+1:=⟨gk - 1,by omega⟩
     conv=>lhs;unfold runesK
     rw [if_pos hp]
     congr 1
     exact zht s _ _ _ _ (by omega) (by omega)
    have HFW:=H_ hfw;have HBW:=H_ hbw;have hwr:=fun W=>zmx W s pos (Utf8.decode s pos).1 (by omega);have hwa:((Utf8.decode s pos).1 == 65533 && !sign3 (s.extract pos s.size))=zhk s pos:=rfl;simp only [hwa] at hwr;generalize ChangeMaps.setBlock wr w.heap.size (.stringIter s (pos+(Utf8.decode s pos).2))=W1 at *;generalize Utf8.decode s pos=d at *;clear hfw hbw hwa;cases hw:zhk s pos
    · rw [hw] at hstep hwr
      have HS:=H_ hstep;clear hstep hw;go_wp2_with (go_at_call 161;refine (hwr _).mono ?_;rintro e w' ⟨rfl,rfl⟩);go_roundg (s.size - (pos+d.2))
      case rel=>exact ⟨pos+d.2,n+1,rfl,by omega,by omega,by omega,H_ (by rw [<-HK.out,HS.out];simp),HBW,HFW⟩
      case measure=>omega
    rw [hw] at hstep hwr
    have HS:=H_ hstep;clear hstep hw;go_wp2_with (go_at_call 161;refine (hwr _).mono ?_;rintro e w' ⟨rfl,rfl⟩);go_ret;exact ⟨by rw [<-HK.out,HS.out];rfl,HFW.out⟩
  have hnx:=fun ty=>zjy (P:=Tryz.prog) wr w.heap.size s pos ty HB.out hp
  have hend:runesK s gk pos n=n:=by
   obtain rfl:gk=0:=by omega
   rfl
  have HE:=H_ hend;clear hend;go_wp2;go_ret;exact ⟨by rw [<-HK.out,HE.out];rfl,HF.out⟩
def keyE (s:ByteArray):Int:=if runes s < 1\/0<=firstIdx s 0 then 30 else if 64 < s.size then 31 else 0
theorem zgk (w:World) (s:ByteArray) (hs:s.size<=1099511627776):Calls Tryz.prog 65 #[.string s] w fun e w'=>e = .returned (.int .i64 (keyE s))/\Fr No w w':=by
 have hr:=fun W=>zor W s hs;have hx:=fun W=>zih W s;have hb:0<=runes s\/runes s < 0:=by omega
 unfold keyE;generalize runes s=r at *;generalize firstIdx s 0=x at *;by_cases h1:r < 1
 · have h1':¬ 1<=r:=by omega
   rw [if_pos (.inl h1)];go_enter Tryz.func65,Tryz.ntmps65;go_wp2_with (first | (go_at_call 119;refine (hr _).mono ?_;rintro e w1 ⟨rfl,hf⟩) | (go_at_call 120;refine (hx _).mono ?_;rintro e w' ⟨rfl,rfl⟩));go_ret;exact ⟨rfl,hf⟩
 by_cases h2:0<=x
 · rw [if_pos (.inr h2)]
   go_enter Tryz.func65,Tryz.ntmps65;go_wp2_with (first | (go_at_call 119;refine (hr _).mono ?_;rintro e w1 ⟨rfl,hf⟩) | (go_at_call 120;refine (hx _).mono ?_;rintro e w' ⟨rfl,rfl⟩));go_ret;exact ⟨rfl,hf⟩
 rw [if_neg (by omega)]
 by_cases h3:64 < s.size
 · have h3':(64:Int) < (s.size:Int):=by omega
   rw [if_pos h3];go_enter Tryz.func65,Tryz.ntmps65;go_wp2_with (first | (go_at_call 119;refine (hr _).mono ?_;rintro e w1 ⟨rfl,hf⟩) | (go_at_call 120;refine (hx _).mono ?_;rintro e w' ⟨rfl,rfl⟩));go_ret;exact ⟨rfl,hf⟩
 have h3':¬ (64:Int) < (s.size:Int):=by omega
 rw [if_neg h3];go_enter Tryz.func65,Tryz.ntmps65;go_wp2_with (first | (go_at_call 119;refine (hr _).mono ?_;rintro e w1 ⟨rfl,hf⟩) | (go_at_call 120;refine (hx _).mono ?_;rintro e w' ⟨rfl,rfl⟩));go_ret;exact ⟨rfl,hf⟩
end Go.Proofs.YthljnnjpmdgkoaaGreat