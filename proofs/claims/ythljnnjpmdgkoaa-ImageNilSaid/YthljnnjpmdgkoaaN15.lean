/- Own lemmas and contracts that the claim's proof needs, laid together. The conditions stand in each. -/
import Derived.Test.YthljnnjpmdgkoaaN14
import Derived.Deep.DeepCutAuto
namespace Go.Proofs.Ythljnnjpmdgkoaa
open Go Go.Proofs Go.RowKit
set_option maxRecDepth 100000
section
variable {TA:zan} {N:Nat} (hT:TreeOk TA N) {w w':World} {s t p:Nat} {ev:Value} {hp:Int->Option Nat} {FT:Nat->Prop} {FH:Int->Nat->Prop} {S:St}
include hT
theorem StoreR.setObj (a:StoreR TA w s t p ev hp FT FH S) (hf:Fr (fun b=>b=s) w w') (n' r' m':Int) (ho:Has w' s [.pointer (some ⟨t,0,none⟩),.map (some p),.int .i64 n',.int .i64 r',.int .i64 m',ev]) :
 StoreR TA w' s t p ev hp FT FH { S with next:=n',rev:=r',mark:=m' } where
 obj:=ho
 tree:=hT.fr a.tree hf fun b hb e=>a.ds.1 (e ▸ hb)
 map:=a.map.fr hf fun e=>a.map.apart a.obj e
 events:=a.events.fr hf fun b hb e=>a.ds.2.1 (e ▸ hb)
 hist i H hi:=by
  obtain ⟨h,h1,h2⟩:=a.hist i H hi;exact ⟨h,h1,h2.fr hf fun b hb e=>a.ds.2.2 i (e ▸ hb)⟩
 gone:=a.gone
 ds:=a.ds
 dp:=a.dp
 dt:=a.dt
 de:=a.de
 dh:=a.dh
theorem StoreR.setTree (a:StoreR TA w s t p ev hp FT FH S) (hf:Fr FT w w') {T':Pairs} {FT':Nat->Prop} (ht:TA w' t T' FT') (hn:∀ b,FT' b->FT b\/w.heap.size<=b) :
 StoreR TA w' s t p ev hp FT' FH { S with T:=T' } where
 obj:=a.obj.fr hf a.ds.1
 tree:=ht
 map:=a.map.fr hf a.dp.1
 events:=a.events.fr hf fun b hb e=>(a.dt b e).1 hb
 hist i H hi:=by
  obtain ⟨h,h1,h2⟩:=a.hist i H hi;exact ⟨h,h1,h2.fr hf fun b hb e=>(a.dt b e).2 i hb⟩
 gone:=a.gone
 ds:=⟨fun e=>by rcases hn _ e with h | h
                · exact a.ds.1 h
                have:=a.obj.lt;omega,a.ds.2⟩
 dp:=⟨fun e=>by rcases hn _ e with h | h
                · exact a.dp.1 h
                have:=a.map.lt;omega,a.dp.2⟩
 dt b hb:=by
  rcases hn _ hb with h | h
  · exact a.dt b h
  exact ⟨fun e=>by have:=a.events.lt b e;omega,fun i hi=>by have:=a.lt hT b (.inr (.inr (.inr (.inr ⟨i,hi⟩))));omega⟩
 de:=a.de
 dh:=a.dh
theorem StoreR.setHist (a:StoreR TA w s t p ev hp FT FH S) {id:Int} {h:Nat} {H':Hist} {F':Nat->Prop} (hid:hp id=some h) (hf:Fr (FH id) w w') (hh:HistAt w' h H' F') (hn:∀ b,F' b->FH id b\/w.heap.size<=b) :
 StoreR TA w' s t p ev hp FT (fun i=>if i=id then F' else FH i) { S with past:=fun i=>if i=id then some H' else S.past i } where
 obj:=a.obj.fr hf (a.ds.2.2 id)
 tree:=hT.fr a.tree hf fun b hb e=>(a.dt b hb).2 id e
 map:=a.map.fr hf (a.dp.2.2 id)
 events:=a.events.fr hf fun b hb e=>a.de b hb id e
 hist i H hi:=by
  dsimp only at hi;by_cases hi':i=id
  · subst hi'
    rw [if_pos rfl] at hi;cases hi
    exact ⟨h,hid,by rw [if_pos rfl];exact hh⟩
  rw [if_neg hi'] at hi
  obtain ⟨h2,h3,h4⟩:=a.hist i H hi;exact ⟨h2,h3,by rw [if_neg hi'];exact h4.fr hf fun b hb e=>hi' (a.dh i id b hb e)⟩
 gone i hi:=by
  dsimp only at hi;by_cases hi':i=id
  · rw [if_pos hi'] at hi;cases hi
  rw [if_neg hi'] at hi
  exact ⟨(a.gone i hi).1,by rw [if_neg hi'];exact (a.gone i hi).2⟩
 ds:=⟨a.ds.1,a.ds.2.1,fun i e=>by
  by_cases hi':i=id
  · rw [if_pos hi'] at e
    rcases hn _ e with h | h
    · exact a.ds.2.2 _ h
    have:=a.obj.lt;omega
  rw [if_neg hi'] at e;exact a.ds.2.2 i e⟩
 dp:=⟨a.dp.1,a.dp.2.1,fun i e=>by
  by_cases hi':i=id
  · rw [if_pos hi'] at e
    rcases hn _ e with h | h
    · exact a.dp.2.2 _ h
    have:=a.map.lt;omega
  rw [if_neg hi'] at e;exact a.dp.2.2 i e⟩
 dt b hb:=⟨(a.dt b hb).1,fun i e=>by
  by_cases hi':i=id
  · rw [if_pos hi'] at e
    rcases hn _ e with h | h
    · exact (a.dt b hb).2 _ h
    have:=hT.lt a.tree b hb;omega
  rw [if_neg hi'] at e;exact (a.dt b hb).2 i e⟩
 de b hb i e:=by
  by_cases hi':i=id
  · rw [if_pos hi'] at e
    rcases hn _ e with h | h
    · exact a.de b hb _ h
    have:=a.events.lt b hb;omega
  rw [if_neg hi'] at e;exact a.de b hb i e
 dh i j b hi hj:=by
  by_cases hi':i=id <;> by_cases hj':j=id
  · rw [hi',hj']
  · rw [if_pos hi'] at hi;rw [if_neg hj'] at hj
    rcases hn _ hi with h | h
    · rw [hi'];exact a.dh id j b h hj
    have:=a.lt hT b (.inr (.inr (.inr (.inr ⟨j,hj⟩))));omega
  · rw [if_neg hi'] at hi;rw [if_pos hj'] at hj
    rcases hn _ hj with h | h
    · rw [hj'];exact a.dh i id b hi h
    have:=a.lt hT b (.inr (.inr (.inr (.inr ⟨i,hi⟩))));omega
  rw [if_neg hi'] at hi;rw [if_neg hj'] at hj
  exact a.dh i j b hi hj
theorem StoreR.addHist (a:StoreR TA w s t p ev hp FT FH S) {id:Int} {h B:Nat} {H':Hist} {F':Nat->Prop} (hid:S.past id=none) (hf:Fr (fun b=>b=p) w w')
 (hm:MapAt w' p fun i=>if i=id then some (.pointer (some ⟨h,0,none⟩)) else (hp i).map fun h=>.pointer (some ⟨h,0,none⟩))
 (hB:∀ b,storeF s p ev FT FH b->b < B) (hh:HistAt w' h H' F') (hn:∀ b,F' b->B<=b) :
 StoreR TA w' s t p ev (fun i=>if i=id then some h else hp i) FT (fun i=>if i=id then F' else FH i) { S with past:=fun i=>if i=id then some H' else S.past i } where
 obj:=a.obj.fr hf fun e=>a.map.apart a.obj e.symm
 tree:=hT.fr a.tree hf fun b hb e=>a.dp.1 (e ▸ hb)
 map:=by
  refine cast (congrArg (MapAt w' p) ?_) hm
  funext i
  by_cases hi:i=id <;> simp [hi]
 events:=a.events.fr hf fun b hb e=>a.dp.2.1 (e ▸ hb)
 hist i H hi:=by
  dsimp only at hi;by_cases hi':i=id
  · subst hi'
    rw [if_pos rfl] at hi;cases hi
    exact ⟨h,if_pos rfl,by rw [if_pos rfl];exact hh⟩
  rw [if_neg hi'] at hi
  obtain ⟨h2,h3,h4⟩:=a.hist i H hi;exact ⟨h2,by rw [if_neg hi'];exact h3,by rw [if_neg hi'];exact h4.fr hf fun b hb e=>a.dp.2.2 i (e ▸ hb)⟩
 gone i hi:=by
  dsimp only at hi;by_cases hi':i=id
  · rw [if_pos hi'] at hi;cases hi
  rw [if_neg hi'] at hi
  exact ⟨by rw [if_neg hi'];exact (a.gone i hi).1,by rw [if_neg hi'];exact (a.gone i hi).2⟩
 ds:=⟨a.ds.1,a.ds.2.1,fun i e=>by
  by_cases hi':i=id
  · rw [if_pos hi'] at e
    have:=hn _ e;have:=hB s (.inl rfl);omega
  rw [if_neg hi'] at e;exact a.ds.2.2 i e⟩
 dp:=⟨a.dp.1,a.dp.2.1,fun i e=>by
  by_cases hi':i=id
  · rw [if_pos hi'] at e
    have:=hn _ e;have:=hB p (.inr (.inl rfl));omega
  rw [if_neg hi'] at e;exact a.dp.2.2 i e⟩
 dt b hb:=⟨(a.dt b hb).1,fun i e=>by
  by_cases hi':i=id
  · rw [if_pos hi'] at e
    have:=hn _ e;have:=hB b (.inr (.inr (.inl hb)));omega
  rw [if_neg hi'] at e;exact (a.dt b hb).2 i e⟩
 de b hb i e:=by
  by_cases hi':i=id
  · rw [if_pos hi'] at e
    have:=hn _ e;have:=hB b (.inr (.inr (.inr (.inl hb))));omega
  rw [if_neg hi'] at e;exact a.de b hb i e
 dh i j b hi hj:=by
  by_cases hi':i=id <;> by_cases hj':j=id
  · rw [hi',hj']
  · rw [if_pos hi'] at hi;rw [if_neg hj'] at hj
    have:=hn _ hi;have:=hB b (.inr (.inr (.inr (.inr ⟨j,hj⟩))));omega
  · rw [if_neg hi'] at hi;rw [if_pos hj'] at hj
    have:=hn _ hj;have:=hB b (.inr (.inr (.inr (.inr ⟨i,hi⟩))));omega
  rw [if_neg hi'] at hi;rw [if_neg hj'] at hj
  exact a.dh i j b hi hj
theorem StoreR.setEvents (a:StoreR TA w s t p ev hp FT FH S) {ev':Value} {E':List Ev} (hf:Fr (fun b=>b=s\/ev.ownBlock=some b) w w')
 (ho:Has w' s [.pointer (some ⟨t,0,none⟩),.map (some p),.int .i64 S.next,.int .i64 S.rev,.int .i64 S.mark,ev']) (he:SlF w' 73 13 evC ev' E') (hn:∀ b,ev'.ownBlock=some b->ev.ownBlock=some b\/w.heap.size<=b) :
 StoreR TA w' s t p ev' hp FT FH { S with events:=E' } where
 obj:=ho
 tree:=hT.fr a.tree hf fun b hb e=>by
  rcases e with e | e
  · exact a.ds.1 (e ▸ hb)
  exact (a.dt b hb).1 e
 map:=a.map.fr hf fun e=>by
  rcases e with e | e
  · exact a.map.apart a.obj e
  exact a.dp.2.1 e
 events:=he
 hist i H hi:=by
  obtain ⟨h,h1,h2⟩:=a.hist i H hi;refine ⟨h,h1,h2.fr hf fun b hb e=>?_⟩;rcases e with e | e
  · exact a.ds.2.2 i (e ▸ hb)
  exact a.de b e i hb
 gone:=a.gone
 ds:=⟨a.ds.1,fun e=>by rcases hn _ e with h | h
                       · exact a.ds.2.1 h
                       have:=a.obj.lt;omega,a.ds.2.2⟩
 dp:=⟨a.dp.1,fun e=>by rcases hn _ e with h | h
                       · exact a.dp.2.1 h
                       have:=a.map.lt;omega,a.dp.2.2⟩
 dt b hb:=⟨fun e=>by rcases hn _ e with h | h
                     · exact (a.dt b hb).1 h
                     have:=hT.lt a.tree b hb;omega,(a.dt b hb).2⟩
 de b hb i hi:=by
  rcases hn _ hb with h | h
  · exact a.de b h i hi
  have:=a.lt hT b (.inr (.inr (.inr (.inr ⟨i,hi⟩))));omega
 dh:=a.dh
end
def putH (H:Hist) (x:Kv):Hist:={ gens:=putK H.gens x.mod,last:=x.mod,kvs:=fun r=>if r=x.mod then some x else H.kvs r }
def newH:Hist:={ gens:=[],last:=0,kvs:=fun _=>none }
def idS (S:St) (key:ByteArray):Int:=if (getT S.T key).2 then (getT S.T key).1 else S.next
def madeS (S:St) (key:ByteArray):St :=
 if (getT S.T key).2 then S else { S with T:=insT S.T key S.next,past:=fun i=>if i=S.next then some newH else S.past i,next:=S.next+1 }
def putS (S:St) (x:Kv):St :=
 { madeS S x.key with past:=fun i=>if i=idS S x.key then some (putH (((madeS S x.key).past (idS S x.key)).getD newH) x) else (madeS S x.key).past i }
theorem zix {W:World} {h g m:Nat} {FK:Nat->Prop} (ho:Has W h [.pointer (some ⟨g,0,none⟩),.map (some m)]) (hk:KeyAt W g [] 0 FK) (hm:MapAt W m fun _=>none) (d1:¬ FK h) (d2:¬ FK m) :
 HistAt W h newH (fun b=>b=h\/b=m\/FK b):=⟨g,m,FK,⟨ho,hk,hm,d1,d2⟩,fun _=>Iff.rfl⟩
theorem znn {TA:zan} {N:Nat} (hT:TreeOk TA N) {w2 W4:World} {s t p:Nat} {ev:Value} {hp:Int->Option Nat} {FT:Nat->Prop} {FH:Int->Nat->Prop} {S:St} (a:StoreR TA w2 s t p ev hp FT FH S) (id:Int)
 (hid:S.past id=none) (hwf:(Lit.int .i64 id).wf=true) (hf:Fr No w2 W4) {h:Nat} {F':Nat->Prop} (hh:HistAt W4 h newH F') (hn:∀ b,F' b->w2.heap.size<=b) :
 StoreR TA (mapUpW Try.prog 119 p id (.pointer (some ⟨h,0,none⟩)) W4) s t p ev (fun i=>if i=id then some h else hp i) FT (fun i=>if i=id then F' else FH i) { S with past:=fun i=>if i=id then some newH else S.past i } ∧
  Fr (fun b=>b=p) W4 (mapUpW Try.prog 119 p id (.pointer (some ⟨h,0,none⟩)) W4):=by
 obtain ⟨_,h2,h3,_⟩:=(a.map.fr hf (fun s=>s)).up (P:=Try.prog) (t:=119) (k:=3) Try.underlying119 Try.underlying3 hwf (.pointer (some ⟨h,0,none⟩));refine ⟨(a.fr hT hf fun _ _ s=>s).addHist hT hid h3 h2 (B:=w2.heap.size) (a.lt hT) (hh.fr h3 fun b hb e=>?_) hn,h3⟩;have h4:=hn b hb;have h5:=a.map.lt;have h6:b=p:=e;omega
set_option maxHeartbeats 4000000 in
theorem zqd {TA:zan} {N:Nat} (hT:TreeOk TA N) {n:Nat} (hn:n<=1099511627) (w:World) (s:Nat) (S:St) (F:Nat->Prop) (hS:zaj TA w s S F) (hok:StOk n S) (x:Kv)
 (hroom:(getT S.T x.key).2=false->S.T.length < N) (hm1:1<=x.mod) (hm2:x.mod<=top) (hlast:∀ H,S.past (getT S.T x.key).1=some H->(getT S.T x.key).2=true->H.last < x.mod) :
 Calls Try.prog 111 #[.pointer (some ⟨s,0,none⟩),kvV x] w fun e w'=>(∃ v,e = .returned v)/\∃ F',zaj TA w' s (putS S x) F'/\Fr F w w'/\(∀ b,F' b->F b\/w.heap.size<=b):=by
 obtain ⟨t,p,ev,hp,FT,FH,a,hF⟩:=hS;obtain ⟨x1,x2,x3,x4,x5,x6⟩:=x;have c0:=a.obj.cell 0 rfl;have l1:=a.obj.lt;have hget:=fun W hW=>hT.get (w:=W) (t:=t) (T:=S.T) (F:=FT) x1 hW;have HG:=H_ hget;have HA:=H_ a;have HFF:=H_ hF;unfold kvV;dsimp only at *;clear hget a hF;go_enter Try.func111,Try.ntmps111;go_wp2_with fail;have hk:=zac w (Obj.cells #[.string x1,.string x2,.int .i64 x3,.int .i64 x4,.int .i64 x5,.int .i64 x6] 57) _ rfl;have hf0:Fr No w (w.alloc (Obj.cells #[.string x1,.string x2,.int .i64 x3,.int .i64 x4,.int .i64 x5,.int .i64 x6] 57)):=(Fr.refl No w).alloc _;generalize w.alloc (Obj.cells #[.string x1,.string x2,.int .i64 x3,.int .i64 x4,.int .i64 x5,.int .i64 x6] 57)=W0 at hk hf0 ⊢
 have k0:W0.cell? ⟨w.heap.size,0,none⟩=some (.string x1):=cellAt hk 0 rfl;have e0:=hf0.cell0 c0
 go_region_held (fun W=>W.cell? ⟨s,0,none⟩=some (.pointer (some ⟨t,0,none⟩))/\W.cell? ⟨w.heap.size,0,none⟩=some (.string x1))
  (first | exact ⟨e0,k0⟩ | exact ⟨hf1.cell0 e0,hf1.cell0 k0⟩)
  (first | (go_at_call 112;refine (HG.out _ (hT.fr HA.out.tree hf0.drew (fun _ _ s=>s))).mono ?_;rintro e w1 ⟨rfl,hf1⟩;unfold zeg))
 have hfA:Fr No w w1:=hf0.drew.trans0 hf1;have hkA:=hf1.heap (b:=w.heap.size) hk id;have hf1s:w.heap.size+1<=w1.heap.size:=by have:=zab hkA;omega
 clear hk hf0 k0 e0 hf1;go_upto_if 18 with fail
 go_cut [4,5] (fun s4 _ wx=>s4 = .int .i64 (idS S x1)/\Hid (wx.heap[w.heap.size]? = some (.cells #[.string x1,.string x2,.int .i64 x3,.int .i64 x4,.int .i64 x5,.int .i64 x6] 57 (0,0))) ∧
  ∃ hp' FT' FH',Hid (StoreR TA wx s t p ev hp' FT' FH' (madeS S x1))/\Hid (Fr (storeF s p ev FT FH) w wx)/\Hid (∀ b,storeF s p ev FT' FH' b->storeF s p ev FT FH b\/w.heap.size < b))
 case first =>
  cases hg:(getT S.T x1).2
  · have c2:w1.cell? ⟨s,2,none⟩=some (.int .i64 S.next):=hfA.cell0 (HA.out.obj.cell 2 rfl)
    have f2:w1.frozen? ⟨s,2,none⟩=false:=hfA.free0 (HA.out.obj.cell 2 rfl) (HA.out.obj.free 2);have hx1:=hok.pos;have hx2:=hok.next;have hl1:s < w1.heap.size:=(by have:=hfA.size;omega);go_wp2_with fail;have ho:=(HA.out.fr hT hfA fun _ _ s=>s).obj.set 2 (.int .i64 (S.next+1));have hfs:Fr (fun b=>b=s) w1 (w1.setCell ⟨s,2,none⟩ (.int .i64 (S.next+1))):=(Fr.refl _ w1).setAt 2 _;have hA1:=(HA.out.fr hT hfA fun _ _ s=>s).setObj hT hfs (S.next+1) S.rev S.mark ho;have hsz1:(w1.setCell ⟨s,2,none⟩ (.int .i64 (S.next+1))).heap.size=w1.heap.size:=(by simp);have hkB:(w1.setCell ⟨s,2,none⟩ (.int .i64 (S.next+1))).heap[w.heap.size]? = _:=hfs.heap hkA (by omega);have hfS:Fr (fun b=>b=s) w (w1.setCell ⟨s,2,none⟩ (.int .i64 (S.next+1))):=hfA.mono (fun _ _ h=>h.elim) |>.trans hfs fun _ _ h=>h;have hS1:=hfS.size
    generalize w1.setCell ⟨s,2,none⟩ (.int .i64 (S.next+1))=W1 at *;have hset:=hT.set x1 S.next hA1.tree (hroom hg);have e0:=hA1.obj.cell 0 rfl;have k0:W1.cell? ⟨w.heap.size,0,none⟩=some (.string x1):=cellAt hkB 0 rfl;have nT:¬ FT s:=hA1.ds.1;have nB:¬ FT w.heap.size:=fun h=>by have:=hT.lt HA.out.tree _ h;omega
    go_region_held (fun W=>W.cell? ⟨s,0,none⟩=some (.pointer (some ⟨t,0,none⟩))/\W.cell? ⟨w.heap.size,0,none⟩=some (.string x1))
     (first | exact ⟨e0,k0⟩ | exact ⟨hf2.cell e0 nT,hf2.cell k0 nB⟩)
     (first | (go_at_call 123;refine (hT.set x1 S.next (hT.fr hA1.tree (Fr.refl No W1).drew (fun _ _ s=>s)) (hroom hg)).mono ?_;rintro e w2 ⟨⟨v,rfl⟩,F2,ht2,hf2,hn2⟩))
    have hf2':Fr FT W1 w2:=((Fr.refl FT W1).drew).trans hf2 fun _ _ h=>h;have hA2:=hA1.setTree hT hf2' ht2 hn2;have hkC:=hf2'.heap hkB nB;have hfB:Fr (storeF s p ev FT FH) w w2:=(hfS.mono fun b _ h=>.inl h).trans hf2' fun b _ h=>.inr (.inr (.inl h))
    have hn2':∀ b,storeF s p ev F2 FH b->storeF s p ev FT FH b\/w.heap.size < b:=by
     rintro b (h | h | h | h | h)
     · exact .inl (.inl h)
     · exact .inl (.inr (.inl h))
     · rcases hn2 b h with h | h
       · exact .inl (.inr (.inr (.inl h)))
       right;have:=hf1s;simp at h;omega
     · exact .inl (.inr (.inr (.inr (.inl h))))
     exact .inl (.inr (.inr (.inr (.inr h))))
    have hwfn:(Lit.int .i64 S.next).wf=true:=wf64 (by omega) (by omega);have m1:=hA2.obj.cell 1 rfl;have npp:¬ s=p:=fun e=>hA2.map.apart hA2.obj e.symm
    have HS:∀ W,Fr No w2 W->W.cell? ⟨s,1,none⟩=some (.map (some p))/\∀ v,(Instr.mapUpdate 119 (.map (some p)) (.int .i64 S.next) v).run Try.prog W = .ok () (mapUpW Try.prog 119 p S.next v W):=fun W hW =>
     ⟨hW.cell0 m1,fun v=>((hA2.map.fr hW id).up (P:=Try.prog) (t:=119) (k:=3) Try.underlying119 Try.underlying3 hwfn v).1⟩
    have HS2:∀ W u,Fr No w2 W->(mapUpW Try.prog 119 p S.next u W).cell? ⟨s,1,none⟩=some (.map (some p)) ∧
     ∀ v,(Instr.mapUpdate 119 (.map (some p)) (.int .i64 S.next) v).run Try.prog (mapUpW Try.prog 119 p S.next u W) = .ok () (mapUpW Try.prog 119 p S.next v (mapUpW Try.prog 119 p S.next u W)):=fun W u hW=>by
     obtain ⟨_,h2,h3,_⟩:=(hA2.map.fr hW id).up (P:=Try.prog) (t:=119) (k:=3) Try.underlying119 Try.underlying3 hwfn u;exact ⟨h3.cell (hW.cell0 m1) npp,fun v=>(h2.up (P:=Try.prog) (t:=119) (k:=3) Try.underlying119 Try.underlying3 hwfn v).1⟩
    have H1:=H_ HS;have H2:=H_ HS2;have HAA:=H_ hA2;have HKC:=H_ hkC;have HFB:=H_ hfB;have HN2:=H_ hn2';clear HS HS2 hA2 hkC hfB hn2' hf2' hf2 ht2 hn2 hset hA1 hkB hfS hfs ho hkA hfA HG hsz1 e0 k0 m1;have hmm:∀ w,(Instr.makeMap 144 none).run Try.prog w = .ok (.map (some w.heap.size)) (w.alloc (.map #[] 0)):=fun w=>run_makeMap 144 w;go_wp2_with fail
    go_region_held (fun W=>W.cell? ⟨s,1,none⟩=some (.map (some p))/\∀ v,(Instr.mapUpdate 119 (.map (some p)) (.int .i64 S.next) v).run Try.prog W = .ok () (mapUpW Try.prog 119 p S.next v W))
     (first
       | ((refine H1.out _ ?_);(repeat (first | with_reducible exact Fr.refl _ _ | with_reducible refine Fr.alloc ?_ _ | with_reducible refine Fr.drew ?_ | (refine Fr.trans0 ?_ (by assumption))));done)
       | ((refine H2.out _ _ ?_);(repeat (first | with_reducible exact Fr.refl _ _ | with_reducible refine Fr.alloc ?_ _ | with_reducible refine Fr.drew ?_ | (refine Fr.trans0 ?_ (by assumption))));done))
     (first | (go_at_call 124;refine (zfj _).mono ?_;rintro e w3 ⟨g,rfl,FK,hk3,hf3,hn3⟩))
    · have hf3':Fr No w2 w3:=(Fr.refl No w2).drew.trans0 hf3
      have hsz3:=hf3'.size;have hks:=hk3.lt;have hn3':∀ b,FK b->w2.heap.size<=b:=hn3;have hf4:Fr No w2 ((w3.alloc (Obj.map #[] 0)).alloc (Obj.cells #[Value.pointer (some ⟨g,0,none⟩),Value.map (some w3.heap.size)] 146)):=(hf3'.alloc _).alloc _
      have hh:HistAt ((w3.alloc (Obj.map #[] 0)).alloc (Obj.cells #[Value.pointer (some ⟨g,0,none⟩),Value.map (some w3.heap.size)] 146)) (w3.heap.size+1) newH (fun b=>b=w3.heap.size+1\/b=w3.heap.size\/FK b) :=
       zix ⟨146,zac _ _ _ (by simp)⟩ (hk3.fr (((Fr.refl No w3).alloc _).alloc _) fun _ _ s=>s) ((MapAt.made w3).alloc _) (fun h=>by have:=hks _ h;omega) (fun h=>by have:=hks _ h;omega)
      obtain ⟨hM,hf5⟩:=znn hT HAA.out S.next (by
       cases hc:S.past S.next with
       | none=>rfl
       | some H=>have:=hok.ids _ _ hc;omega) hwfn hf4 hh (fun b hb=>by
         rcases hb with rfl | rfl | hb
         · omega
         · omega
         exact hn3' b hb)
      have HM:=H_ hM;have H5:=H_ hf5;clear hM hf5 hh;go_wp2_with fail;go_meet
      case rel =>
       have hlp:=HAA.out.map.lt;refine ⟨by unfold idS;rw [hg];rfl,H_ (H5.out.heap (hf4.heap HKC.out id) ?_),_,_,_,H_ (by unfold madeS;rw [hg];exact HM.out),H_ ?_,H_ ?_⟩
       · intro e
         have:=HA.out.map.lt;have e':w.heap.size=p:=e;omega
       · exact (HFB.out.trans0 hf4).trans H5.out fun b _ e=>.inr (.inl e)
       have hw2:=HFB.out.size
       have hkc:=zab HKC.out;rintro b (h | h | h | h | ⟨i,h⟩)
       · exact HN2.out b (.inl h)
       · exact HN2.out b (.inr (.inl h))
       · exact HN2.out b (.inr (.inr (.inl h)))
       · exact HN2.out b (.inr (.inr (.inr (.inl h))))
       by_cases hi:i=S.next
       · rw [if_pos hi] at h
         right
         rcases h with rfl | rfl | h
         · omega
         · omega
         have:=hn3' b h;omega
       rw [if_neg hi] at h
       exact HN2.out b (.inr (.inr (.inr (.inr ⟨i,h⟩))))
    have hf3':Fr No w2 w3:=((Fr.refl No w2).alloc _).drew.trans0 hf3
    have hsz3:=hf3'.size;have hks:=hk3.lt;have hn3':∀ b,FK b->w2.heap.size < b:=fun b hb=>by have:=hn3 b hb;simp at this;omega
    have hsz3':w2.heap.size+1<=w3.heap.size:=(by have:=hf3.size;simpa using this);have hmB:MapAt w3 w2.heap.size fun _=>none:=(MapAt.made w2).fr (S:=No) ((Fr.refl No (w2.alloc (Obj.map #[] 0))).drew.trans0 hf3) id;have hf4:Fr No w2 (w3.alloc (Obj.cells #[Value.pointer (some ⟨g,0,none⟩),Value.map (some w2.heap.size)] 146)):=hf3'.alloc _
    have hh:HistAt (w3.alloc (Obj.cells #[Value.pointer (some ⟨g,0,none⟩),Value.map (some w2.heap.size)] 146)) w3.heap.size newH (fun b=>b=w3.heap.size\/b=w2.heap.size\/FK b) :=
     zix ⟨146,zac _ _ _ rfl⟩ (hk3.fr ((Fr.refl No w3).alloc _) fun _ _ s=>s) (hmB.alloc _) (fun h=>by have:=hks _ h;omega) (fun h=>by have:=hn3' _ h;omega)
    obtain ⟨hM,hf5⟩:=znn hT HAA.out S.next (by
     cases hc:S.past S.next with
     | none=>rfl
     | some H=>have:=hok.ids _ _ hc;omega) hwfn hf4 hh (fun b hb=>by
       rcases hb with rfl | rfl | hb
       · omega
       · omega
       exact Nat.le_of_lt (hn3' b hb))
    have HM:=H_ hM;have H5:=H_ hf5;clear hM hf5 hh;go_wp2_with fail;go_meet
    case rel =>
     have hlp:=HAA.out.map.lt;refine ⟨by unfold idS;rw [hg];rfl,H_ (H5.out.heap (hf4.heap HKC.out id) ?_),_,_,_,H_ (by unfold madeS;rw [hg];exact HM.out),H_ ?_,H_ ?_⟩
     · intro e
       have:=HA.out.map.lt;have e':w.heap.size=p:=e;omega
     · exact (HFB.out.trans0 hf4).trans H5.out fun b _ e=>.inr (.inl e)
     have hw2:=HFB.out.size
     have hkc:=zab HKC.out;rintro b (h | h | h | h | ⟨i,h⟩)
     · exact HN2.out b (.inl h)
     · exact HN2.out b (.inr (.inl h))
     · exact HN2.out b (.inr (.inr (.inl h)))
     · exact HN2.out b (.inr (.inr (.inr (.inl h))))
     by_cases hi:i=S.next
     · rw [if_pos hi] at h
       right
       rcases h with rfl | rfl | h
       · omega
       · omega
       have:=hn3' b h;omega
     rw [if_neg hi] at h
     exact HN2.out b (.inr (.inr (.inr (.inr ⟨i,h⟩))))
  go_wp2_with fail
  go_meet
  case rel=>exact ⟨by unfold idS;rw [hg];rfl,H_ hkA,hp,FT,FH,H_ (by unfold madeS;rw [hg];exact HA.out.fr hT hfA fun _ _ s=>s),H_ (hfA.mono fun _ _ s=>s.elim),H_ fun b h=>.inl h⟩
 case rest =>
  obtain ⟨rfl,HK,hp',FT',FH',HM,HF,HN⟩:=hcut;have hx1:=hok.pos;have hx2:=hok.next
  obtain ⟨H1,hH1,hok1,hl1',hidr⟩:∃ H1,(madeS S x1).past (idS S x1)=some H1/\HistOk n H1/\H1.last < x4/\0<=idS S x1/\idS S x1<=S.next:=by
   unfold madeS idS;cases hg:(getT S.T x1).2
   · refine ⟨newH,by simp,⟨by simp [newH],by simp [newH]⟩,by unfold newH;dsimp only;omega,by simp;omega⟩
   obtain ⟨H,hH⟩:∃ H,S.past (getT S.T x1).1=some H:=by
    revert hg
    unfold getT
    cases hf:S.T.find? (fun q=>keq q.1 x1) with
    | none=>intro h;cases h
    | some q=>intro _;exact hok.id q (List.mem_of_find?_eq_some hf)
   have:=hok.ids _ _ hH;exact ⟨H,by simpa using hH,(hok.hist _ _ hH).1,hlast H hH hg,by simp;omega⟩
  have hwf:(Lit.int .i64 (idS S x1)).wf=true:=wf64 (by omega) (by omega);have hput:putS S ⟨x1,x2,x3,x4,x5,x6⟩ = { madeS S x1 with past:=fun i=>if i=idS S x1 then some (putH H1 ⟨x1,x2,x3,x4,x5,x6⟩) else (madeS S x1).past i }:=(by unfold putS;dsimp only;rw [hH1];rfl);have HPUT:=H_ hput;clear hput;obtain ⟨h,hh,g,m,FK,b,hFH⟩:=HM.out.hist _ _ hH1;have hpl:((hp' (idS S x1)).map fun h=>Value.pointer (some ⟨h,0,none⟩)).getD (.pointer none) = .pointer (some ⟨h,0,none⟩):=(by rw [hh];rfl);have c1s:=HM.out.obj.cell 1 rfl;have h0:=b.obj.cell 0 rfl;have h1:=b.obj.cell 1 rfl;have k3:wc.cell? ⟨w.heap.size,3,none⟩=some (.int .i64 x4):=(by simp [World.cell?,HK.out]);have ls:=HM.out.obj.lt;have lh:=b.obj.lt;have lk:=zab HK.out
  have hnbox:¬ FH' (idS S x1) w.heap.size:=fun e=>by
   rcases HN.out _ (.inr (.inr (.inr (.inr ⟨_,e⟩)))) with e | e
   · have:=HA.out.lt hT _ e;omega
   omega
  have nBK:¬ FK w.heap.size:=fun e=>hnbox ((hFH _).2 (.inr (.inr e)));have nBm:w.heap.size≠m:=fun e=>hnbox ((hFH _).2 (.inr (.inl e)));have HB:=H_ b;have HFH:=H_ hFH;have Hpl:=H_ hpl;have HOK1:=H_ hok1;clear b hFH hpl hok1 hnbox;go_wp2_with (at_lookup;refine zen rfl _ _ 119 rfl 3 142 Try.underlying119 Try.underlying3 p _ rfl HM.out.map (idS S x1) rfl hwf _ (zero142 _) _ Hpl.out ?_)
  go_region_held (fun W=>W.cell? ⟨h,0,none⟩=some (.pointer (some ⟨g,0,none⟩))/\W.cell? ⟨w.heap.size,3,none⟩=some (.int .i64 x4))
   (first | exact ⟨h0,k3⟩ | exact ⟨hf4.cell h0 HB.out.d1,hf4.cell k3 nBK⟩)
   (first | (go_at_call 125;refine (zlm _ g H1.gens H1.last x4 FK (HB.out.key.fr (Fr.refl No wc).drew (fun _ _ s=>s)) (HOK1.out.fits hn) hm1 hm2 hl1').mono ?_;rintro e w4 ⟨rfl,FK',hk4,hf4,hn4⟩))
  go_wp2_with fail;have hf4':Fr FK wc w4:=((Fr.refl FK wc).drew).trans hf4 fun _ _ h=>h;have h1':=hf4'.cell h1 HB.out.d1;have hk6:=hf4'.heap HK.out nBK;obtain ⟨k0,k1,k2,k3',k4,k5⟩:=cells6 hk6;have lh4:h < w4.heap.size:=(by have:=hf4'.size;omega);have lk4:w.heap.size < w4.heap.size:=zab hk6;have hmw:MapAt w4.drew m fun r=>(H1.kvs r).map kvV:=HB.out.map.fr hf4'.drew HB.out.d2;have hwx:(Lit.int .i64 x4).wf=true:=wf64 (by omega) (by unfold top at hm2;omega);have HF4:=H_ hf4';have HK4:=H_ hk4;have HN4:=H_ hn4;clear hf4 hf4' hk4 hn4 hk6;refine wp_region_still_tail 7 (by kernel_rfl) (by kernel_rfl) ?_;simp only [List.take_succ_cons,List.take_zero,List.drop_succ_cons,List.drop_zero];change wpStill _ _ w4.drew _ _ _
  repeat (refine wpStill_step (fun K hK=>?_);go_simp;(try go_bits);refine hK _ ?_;clear hK K)
  refine wpStill_nil ?_;change wpList _ _ _ _ _ w4.drew;refine zdn rfl _ _ _ 144 rfl 3 57 Try.underlying144 Try.underlying3 m _ rfl hmw x4 rfl hwx (kvV ⟨x1,x2,x3,x4,x5,x6⟩) rfl ?_;intro w5 hm5 hf5 hsz5;go_wp2;refine bodyPost_end (results_none rfl _ _ _) rfl ?_;have hlo:=HB.out.map.lt;have hfc:Fr (FH' (idS S x1)) wc w5:=(HF4.out.drew.mono fun b _ e=>(HFH.out b).2 (.inr (.inr e))).trans (hf5.mono (S:=fun x=>x=m) (T:=FH' (idS S x1)) fun b _ e=>(HFH.out b).2 (.inr (.inl e))) fun _ _ e=>e
  have hhist:HistAt w5 h (putH H1 ⟨x1,x2,x3,x4,x5,x6⟩) (fun b=>b=h\/b=m\/FK' b):=by
   refine ⟨g,m,FK',⟨?_,?_,?_,?_,?_⟩,fun _=>Iff.rfl⟩
   · refine (HB.out.obj.fr HF4.out.drew HB.out.d1).fr hf5 fun e=>?_
     exact HB.out.map.apart HB.out.obj e.symm
   · refine HK4.out.fr ((Fr.refl (fun x=>x=m) w4).drew.trans hf5 fun _ _ e=>e) fun b hb e=>?_
     have e':b=m:=e;subst e';rcases HN4.out _ hb with h5 | h5
     · exact HB.out.d2 h5
     have h6:wc.heap.size<=b:=h5
     omega
   · refine cast (congrArg (MapAt w5 m) ?_) hm5
     funext r
     unfold putH;dsimp only;by_cases hr:r=x4 <;> simp [hr]
   · intro hb
     rcases HN4.out _ hb with h5 | h5
     · exact HB.out.d1 h5
     have h6:wc.heap.size<=h:=h5
     omega
   intro hb
   rcases HN4.out _ hb with h5 | h5
   · exact HB.out.d2 h5
   have h6:wc.heap.size<=m:=h5
   omega
  have hnew:∀ b,(b=h\/b=m\/FK' b)->FH' (idS S x1) b\/wc.heap.size<=b:=by
   rintro b (e | e | e)
   · exact .inl ((HFH.out b).2 (.inl e))
   · exact .inl ((HFH.out b).2 (.inr (.inl e)))
   rcases HN4.out b e with h5 | h5
   · exact .inl ((HFH.out b).2 (.inr (.inr h5)))
   exact .inr h5
  have hfin:=HM.out.setHist hT hh hfc hhist hnew;refine ⟨⟨_,rfl⟩,_,⟨t,p,ev,hp',FT',_,by rw [HPUT.out];exact hfin,fun _=>Iff.rfl⟩,?_,?_⟩
  · have hwc:=HF.out.size
    refine (HF.out.trans hfc fun b hb e=>?_).mono fun b _ e=>(HFF.out b).2 e;rcases HN.out b (.inr (.inr (.inr (.inr ⟨_,e⟩)))) with h5 | h5
    · exact h5
    omega
  have hwc:=HF.out.size
  have old:∀ b,storeF s p ev FT' FH' b->F b\/w.heap.size<=b:=fun b hb=>by
   rcases HN.out b hb with h5 | h5
   · exact .inl ((HFF.out b).2 h5)
   exact .inr (by omega)
  rintro b (e | e | e | e | ⟨i,e⟩)
  · exact old b (.inl e)
  · exact old b (.inr (.inl e))
  · exact old b (.inr (.inr (.inl e)))
  · exact old b (.inr (.inr (.inr (.inl e))))
  by_cases hi:i=idS S x1
  · rw [if_pos hi] at e
    rcases hnew b e with h5 | h5
    · exact old b (.inr (.inr (.inr (.inr ⟨_,h5⟩))))
    exact .inr (by omega)
  rw [if_neg hi] at e
  exact old b (.inr (.inr (.inr (.inr ⟨i,e⟩))))
end Go.Proofs.Ythljnnjpmdgkoaa