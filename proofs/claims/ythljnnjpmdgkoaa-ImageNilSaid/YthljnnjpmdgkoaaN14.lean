/- Own lemmas and contracts that the claim's proof needs, laid together. The conditions stand in each. -/
import Derived.Test.YthljnnjpmdgkoaaN11
import Derived.Test.YthljnnjpmdgkoaaN10
import Derived.Test.YthljnnjpmdgkoaaN13
import Derived.Deep.RegionHeld
namespace Go.Proofs.Ythljnnjpmdgkoaa
open Go Go.Proofs Go.RowKit
set_option maxRecDepth 100000
structure Kv where
 key:ByteArray
 value:ByteArray
 create:Int
 mod:Int
 version:Int
 lease:Int
def kv0:Kv:=⟨ByteArray.empty,ByteArray.empty,0,0,0,0⟩
def kvC (x:Kv):List Value:=[.string x.key,.string x.value,.int .i64 x.create,.int .i64 x.mod,.int .i64 x.version,.int .i64 x.lease]
def kvV (x:Kv):Value:=.agg #[.string x.key,.string x.value,.int .i64 x.create,.int .i64 x.mod,.int .i64 x.version,.int .i64 x.lease]
theorem zag (x:Kv):(kvC x).length=6:=rfl
structure Ev where
 kind:Int
 kv:Kv
 prev:Kv
def evC (x:Ev):List Value:=.int .i64 x.kind :: (kvC x.kv++kvC x.prev)
theorem zau (x:Ev):(evC x).length=13:=rfl
def evV (x:Ev):Value:=.agg #[.int .i64 x.kind,.string x.kv.key,.string x.kv.value,.int .i64 x.kv.create,.int .i64 x.kv.mod,.int .i64 x.kv.version,.int .i64 x.kv.lease,.string x.prev.key,.string x.prev.value,.int .i64 x.prev.create,.int .i64 x.prev.mod,.int .i64 x.prev.version,.int .i64 x.prev.lease]
structure Hist where
 gens:List Gen
 last:Int
 kvs:Int->Option Kv
def hadH (H:Hist) (rev:Int):Kv × Bool:=((H.kvs (atK H.gens rev).1.2.1).getD kv0,(atK H.gens rev).2)
def top:Int:=1099511627776
structure HistOk (n:Nat) (H:Hist):Prop where
 len:H.gens.length<=n
 puts:∀ x∈H.gens,x.puts.length<=n/\0<=x.cut/\x.cut<=top/\(∀ p∈x.puts,1<=p/\p<=top)
theorem HistOk.fits {n:Nat} {H:Hist} (h:HistOk n H) (hn:n<=1099511627):Fits H.gens :=
 ⟨Nat.le_trans h.len hn,fun x hx=>⟨Nat.le_trans (h.puts x hx).1 hn,(h.puts x hx).2.1,(h.puts x hx).2.2.1⟩⟩
theorem wf64 {a:Int} (h0 : -9223372036854775808<=a) (h1:a<=9223372036854775807):(Lit.int .i64 a).wf=true:=by
 simp [Lit.wf,IntKind.min,IntKind.max,IntKind.signed,IntKind.bits];omega
theorem HistOk.wf {n:Nat} {H:Hist} (h:HistOk n H) (rev:Int):(Lit.int .i64 (atK H.gens rev).1.2.1).wf=true:=by
 have key:0<=(atK H.gens rev).1.2.1/\(atK H.gens rev).1.2.1<=top:=by
  unfold atK
  split
  · simp [top]
  rename_i x hx
  have hm:=List.mem_of_find?_eq_some hx;rw [List.mem_reverse] at hm
  split
  · simp [top]
  dsimp only
  cases hp:x.puts[upTo x.puts rev - 1]? with
  | none=>simp [top]
  | some p =>
    have:=(h.puts x hm).2.2.2 p (List.mem_of_getElem? hp);simp;omega
 unfold top at key;exact wf64 (by omega) (by omega)
structure HistR (w:World) (h g m:Nat) (FK:Nat->Prop) (H:Hist):Prop where
 obj:Has w h [.pointer (some ⟨g,0,none⟩),.map (some m)]
 key:KeyAt w g H.gens H.last FK
 map:MapAt w m fun r=>(H.kvs r).map kvV
 d1:¬ FK h
 d2:¬ FK m
def HistAt (w:World) (h:Nat) (H:Hist) (F:Nat->Prop):Prop:=∃ g m FK,HistR w h g m FK H/\∀ b,F b ↔ (b=h\/b=m\/FK b)
theorem HistAt.lt {w:World} {h:Nat} {H:Hist} {F:Nat->Prop} (a:HistAt w h H F):∀ b,F b->b < w.heap.size:=by
 obtain ⟨g,m,FK,a,hF⟩:=a;intro b hb;rcases (hF b).1 hb with rfl | rfl | e
 · exact a.obj.lt
 · exact a.map.lt
 exact a.key.lt b e
theorem HistR.fr {w w':World} {h g m:Nat} {H:Hist} {FK S:Nat->Prop} (a:HistR w h g m FK H) (hf:Fr S w w') (h1:¬ S h) (h2:¬ S m) (h3:∀ b,FK b->¬ S b):HistR w' h g m FK H :=
 ⟨a.obj.fr hf h1,a.key.fr hf h3,a.map.fr hf h2,a.d1,a.d2⟩
theorem HistAt.fr {w w':World} {h:Nat} {H:Hist} {F S:Nat->Prop} (a:HistAt w h H F) (hf:Fr S w w') (hn:∀ b,F b->¬ S b):HistAt w' h H F:=by
 obtain ⟨g,m,FK,a,hF⟩:=a;exact ⟨g,m,FK,a.fr hf (hn _ ((hF _).2 (.inl rfl))) (hn _ ((hF _).2 (.inr (.inl rfl)))) (fun b hb=>hn b ((hF b).2 (.inr (.inr hb)))),hF⟩
structure St where
 T:Pairs
 past:Int->Option Hist
 next:Int
 rev:Int
 mark:Int
 events:List Ev
structure StOk (n:Nat) (S:St):Prop where
 pos:0<=S.next
 next:S.next<=n
 id:∀ p∈S.T,∃ H,S.past p.2=some H
 ids:∀ i H,S.past i=some H->0<=i/\i < S.next
 hist:∀ i H,S.past i=some H->HistOk n H/\H.last<=top
 rev0 : -top<=S.rev
 rev1:S.rev<=top
 mark0:0<=S.mark
 ev:S.events.length<=n
structure StoreR (TA:zan) (w:World) (s t p:Nat) (ev:Value) (hp:Int->Option Nat) (FT:Nat->Prop) (FH:Int->Nat->Prop) (S:St):Prop where
 obj:Has w s [.pointer (some ⟨t,0,none⟩),.map (some p),.int .i64 S.next,.int .i64 S.rev,.int .i64 S.mark,ev]
 tree:TA w t S.T FT
 map:MapAt w p fun i=>(hp i).map fun h=>.pointer (some ⟨h,0,none⟩)
 events:SlF w 73 13 evC ev S.events
 hist:∀ i H,S.past i=some H->∃ h,hp i=some h/\HistAt w h H (FH i)
 gone:∀ i,S.past i=none->hp i=none/\∀ b,¬ FH i b
 ds:¬ FT s/\ev.ownBlock≠some s/\∀ i,¬ FH i s
 dp:¬ FT p/\ev.ownBlock≠some p/\∀ i,¬ FH i p
 dt:∀ b,FT b->ev.ownBlock≠some b/\∀ i,¬ FH i b
 de:∀ b,ev.ownBlock=some b->∀ i,¬ FH i b
 dh:∀ i j b,FH i b->FH j b->i=j
def storeF (s p:Nat) (ev:Value) (FT:Nat->Prop) (FH:Int->Nat->Prop) (b:Nat):Prop:=b=s\/b=p\/FT b\/ev.ownBlock=some b\/∃ i,FH i b
def zaj (TA:zan) (w:World) (s:Nat) (S:St) (F:Nat->Prop):Prop :=
 ∃ t p ev hp FT FH,StoreR TA w s t p ev hp FT FH S/\∀ b,F b ↔ storeF s p ev FT FH b
section
variable {TA:zan} {N:Nat} (hT:TreeOk TA N)
include hT
theorem StoreR.fr {w w':World} {s t p:Nat} {ev:Value} {hp:Int->Option Nat} {FT:Nat->Prop} {FH:Int->Nat->Prop} {S:St} {X:Nat->Prop} (a:StoreR TA w s t p ev hp FT FH S) (hf:Fr X w w')
 (hn:∀ b,storeF s p ev FT FH b->¬ X b):StoreR TA w' s t p ev hp FT FH S where
 obj:=a.obj.fr hf (hn _ (.inl rfl))
 tree:=hT.fr a.tree hf fun b hb=>hn b (.inr (.inr (.inl hb)))
 map:=a.map.fr hf (hn _ (.inr (.inl rfl)))
 events:=a.events.fr hf fun b hb=>hn b (.inr (.inr (.inr (.inl hb))))
 hist i H hi:=by
  obtain ⟨h,h1,h2⟩:=a.hist i H hi;exact ⟨h,h1,h2.fr hf fun b hb=>hn b (.inr (.inr (.inr (.inr ⟨i,hb⟩))))⟩
 gone:=a.gone
 ds:=a.ds
 dp:=a.dp
 dt:=a.dt
 de:=a.de
 dh:=a.dh
theorem StoreR.lt {w:World} {s t p:Nat} {ev:Value} {hp:Int->Option Nat} {FT:Nat->Prop} {FH:Int->Nat->Prop} {S:St} (a:StoreR TA w s t p ev hp FT FH S):∀ b,storeF s p ev FT FH b->b < w.heap.size:=by
 rintro b (rfl | rfl | e | e | ⟨i,e⟩)
 · exact a.obj.lt
 · exact a.map.lt
 · exact hT.lt a.tree b e
 · exact a.events.lt b e
 cases h:S.past i with
 | none=>exact absurd e ((a.gone i h).2 b)
 | some H =>
   obtain ⟨h,_,h2⟩:=a.hist i H h;exact h2.lt b e
theorem zaj.fr {w w':World} {s:Nat} {S:St} {F X:Nat->Prop} (a:zaj TA w s S F) (hf:Fr X w w') (hn:∀ b,F b->¬ X b):zaj TA w' s S F:=by
 obtain ⟨t,p,ev,hp,FT,FH,a,hF⟩:=a;exact ⟨t,p,ev,hp,FT,FH,a.fr hT hf (fun b hb=>hn b ((hF b).2 hb)),hF⟩
theorem zaj.fr0 {w w':World} {s:Nat} {S:St} {F:Nat->Prop} (a:zaj TA w s S F) (hf:Fr No w w'):zaj TA w' s S F:=a.fr hT hf fun _ _ s=>s
theorem zaj.lt {w:World} {s:Nat} {S:St} {F:Nat->Prop} (a:zaj TA w s S F):∀ b,F b->b < w.heap.size:=by
 obtain ⟨t,p,ev,hp,FT,FH,a,hF⟩:=a;exact fun b hb=>a.lt hT b ((hF b).1 hb)
end
def zby (r:Kv × Bool):Value:=.tuple #[kvV r.1,.bool r.2]
theorem zero57 (w:World):(zeroValue 57).run Try.prog w = .ok (kvV kv0) w:=by kernel_rfl
theorem zero142 (w:World):(zeroValue 142).run Try.prog w = .ok (.pointer none) w:=by kernel_rfl
theorem zhy {TA:zan} {N:Nat} (_:TreeOk TA N) {n:Nat} (hn:n<=1099511627) (w:World) (s:Nat) (S:St) (F:Nat->Prop) (hS:zaj TA w s S F) (hok:StOk n S) (at_ rev:Int) (H:Hist) (hH:S.past at_=some H) :
 Calls Try.prog 71 #[.pointer (some ⟨s,0,none⟩),.int .i64 at_,.int .i64 rev] w fun e w'=>e = .returned (zby (hadH H rev))/\Fr No w w':=by
 obtain ⟨t,p,ev,hp,FT,FH,a,hF⟩:=hS;obtain ⟨h,hh,g,m,FK,b,hFH⟩:=a.hist _ _ hH;have hHok:=(hok.hist _ _ hH).1;have hids:=hok.ids _ _ hH;have hnx:=hok.next;have hwf:(Lit.int .i64 at_).wf=true:=wf64 (by omega) (by omega);have hwf2:=hHok.wf rev;have hfit:=hHok.fits hn;have hat:=fun W hk=>zsz W g H.gens H.last rev FK hk hfit;have hpl:((hp at_).map fun h=>Value.pointer (some ⟨h,0,none⟩)).getD (.pointer none) = .pointer (some ⟨h,0,none⟩):=by rw [hh];rfl
 have hkl:((H.kvs (atK H.gens rev).1.2.1).map kvV).getD (kvV kv0)=kvV (hadH H rev).1:=by unfold hadH;cases H.kvs (atK H.gens rev).1.2.1 <;> rfl
 have c1:=a.obj.cell 1 rfl;have h0:=b.obj.cell 0 rfl;have h1:=b.obj.cell 1 rfl;have l1:=a.obj.lt;have l2:=b.obj.lt;have l3:=b.map.lt;have HM:=H_ a.map;have HK:=H_ b.key;have HN:=H_ b.map;have HKl:=H_ hkl;have HPl:=H_ hpl
 have HAt:=H_ hat;have hb2:(hadH H rev).2=(atK H.gens rev).2:=rfl;have HB2:=H_ hb2;generalize hadH H rev=r at *;generalize hs:atK H.gens rev=q at *;clear a b hkl hpl hat hb2 hfit hH;obtain ⟨⟨q1,q2,q3⟩,q4⟩:=q;obtain ⟨⟨r1,r2,r3,r4,r5,r6⟩,rb⟩:=r;go_enter Try.func71,Try.ntmps71
 go_wp2_with (first
  | (at_lookup;refine zen rfl _ _ 119 rfl 3 142 Try.underlying119 Try.underlying3 p _ rfl (HM.out.alloc _) at_ rfl hwf _ (zero142 _) _ HPl.out ?_)
  | (at_lookup;refine zen rfl _ _ 144 rfl 3 57 Try.underlying144 Try.underlying3 m _ rfl (by first | exact HN2.out.alloc _ | exact HN2.out) q2 rfl hwf2 _ (zero57 _) _ HKl.out ?_)
  | (go_at_call 109;refine (HAt.out _ (HK.out.fr ((Fr.refl No w).alloc _) (fun _ _ s=>s))).mono ?_;rintro e w1 ⟨rfl,hf1⟩
     have hf2:Fr No w w1:=((Fr.refl No w).alloc _).trans0 hf1;have h1':=hf2.cell0 h1;have hsz:w.heap.size+1<=w1.heap.size:=(by have:=hf1.size;simpa using this);have HN2:=H_ (HN.out.fr hf2 id);have k6:w1.heap[w.heap.size]? = some (.cells #[.string ByteArray.empty,.string ByteArray.empty,.int .i64 0,.int .i64 0,.int .i64 0,.int .i64 0] 57 (0,0)):=hf1.heap (zac _ _ _ rfl) id;unfold zkj seenV))
 have n0:=zac w1 (Obj.cells #[Value.int .i64 q1,Value.int .i64 q2,Value.int .i64 q3] 182) _ rfl;generalize hX:w1.alloc (Obj.cells #[Value.int .i64 q1,Value.int .i64 q2,Value.int .i64 q3] 182)=X at n0;have hfX:Fr No w X:=by rw [<-hX];exact hf2.alloc _
 have k6X:X.heap[w.heap.size]? = some (.cells #[.string ByteArray.empty,.string ByteArray.empty,.int .i64 0,.int .i64 0,.int .i64 0,.int .i64 0] 57 (0,0)):=by rw [<-hX];exact zae k6 _
 have n1:X.cell? ⟨w1.heap.size,1,none⟩=some (.int .i64 q2):=cellAt n0 1 rfl;have e1:=hfX.cell0 h1;have hlk:=MapAt.look (P:=Try.prog) (t:=144) (HN.out.fr (hfX.drew) id) Try.underlying144 Try.underlying3 hwf2 (zero57 _);rw [HKl.out] at hlk;unfold kvV at hlk;have hlt:w.heap.size < X.heap.size:=zab k6X;have hlt1:w1.heap.size < X.heap.size:=zab n0;have hl2:h < X.heap.size:=by have:=hfX.size;omega
 have n1Y:X.drew.cell? ⟨w1.heap.size,1,none⟩=some (.int .i64 q2):=n1;have e1Y:X.drew.cell? ⟨h,1,none⟩=some (.map (some m)):=e1;have k6Y:X.drew.heap[w.heap.size]? = some (.cells #[.string ByteArray.empty,.string ByteArray.empty,.int .i64 0,.int .i64 0,.int .i64 0,.int .i64 0] 57 (0,0)):=k6X;have hfY:Fr No w X.drew:=hfX.drew;obtain ⟨k0,k1,k2,k3,k4,k5⟩:=cells6 k6X;have kf:∀ i,X.frozen? ⟨w.heap.size,i,none⟩=false:=fun i=>by simp [World.frozen?,k6X]
 have hne1:w1.heap.size≠w.heap.size:=by omega
 have hne2:h≠w.heap.size:=by omega
 have HS:∀ W,Fr (fun b=>b=w.heap.size) X W->W.cell? ⟨h,1,none⟩=some (.map (some m))/\W.cell? ⟨w1.heap.size,1,none⟩=some (.int .i64 q2) ∧
  (Instr.lookup 144 (.map (some m)) (.int .i64 q2) false).run Try.prog W = .ok (.agg #[.string r1,.string r2,.int .i64 r3,.int .i64 r4,.int .i64 r5,.int .i64 r6]) W:=by
  intro W hW;refine ⟨hW.cell e1 hne2,hW.cell n1 hne1,?_⟩;have:=MapAt.look (P:=Try.prog) (t:=144) ((HN.out.fr hfX id).fr hW (by omega)) Try.underlying144 Try.underlying3 hwf2 (zero57 _);rw [HKl.out] at this;exact this
 have HS':=H_ HS;clear HS hX h1' hlk n1Y e1Y n0 n1
 go_region_held (fun W=>W.cell? ⟨h,1,none⟩=some (.map (some m))/\W.cell? ⟨w1.heap.size,1,none⟩=some (.int .i64 q2) ∧
  (Instr.lookup 144 (.map (some m)) (.int .i64 q2) false).run Try.prog W = .ok (.agg #[.string r1,.string r2,.int .i64 r3,.int .i64 r4,.int .i64 r5,.int .i64 r6]) W)
  (first | (refine HS'.out _ (Fr.drew ?_);with_reducible exact Fr.refl _ X) | (refine HS'.out _ (Fr.drew ?_);(iterate 6 (with_reducible refine Fr.setAt ?_ _ _));with_reducible exact Fr.refl _ X)) (fail)
 have z1:=zaa k6X 0 (.string r1);have z2:=zaa z1 1 (.string r2);have z3:=zaa z2 2 (.int .i64 r3);have z4:=zaa z3 3 (.int .i64 r4);have z5:=zaa z4 4 (.int .i64 r5);have z6:=zaa z5 5 (.int .i64 r6)
 have hfZ:Fr (fun b=>b=w.heap.size) X ((((((X.setCell ⟨w.heap.size,0,none⟩ (.string r1)).setCell ⟨w.heap.size,1,none⟩ (.string r2)).setCell ⟨w.heap.size,2,none⟩ (.int .i64 r3)).setCell ⟨w.heap.size,3,none⟩ (.int .i64 r4)).setCell ⟨w.heap.size,4,none⟩ (.int .i64 r5)).setCell ⟨w.heap.size,5,none⟩ (.int .i64 r6)) :=
  (((((((Fr.refl _ X).setAt 0 _).setAt 1 _).setAt 2 _).setAt 3 _).setAt 4 _).setAt 5 _)
 generalize ((((((X.setCell ⟨w.heap.size,0,none⟩ (.string r1)).setCell ⟨w.heap.size,1,none⟩ (.string r2)).setCell ⟨w.heap.size,2,none⟩ (.int .i64 r3)).setCell ⟨w.heap.size,3,none⟩ (.int .i64 r4)).setCell ⟨w.heap.size,4,none⟩ (.int .i64 r5)).setCell ⟨w.heap.size,5,none⟩ (.int .i64 r6))=Z at z6 hfZ ⊢
 simp at z6;obtain ⟨y0,y1,y2,y3,y4,y5⟩:=cells6 z6
 have hfin:Fr No w Z.drew:=by
  have hfF:Fr No w Z:=⟨hfZ.os.trans hfX.os,hfZ.tape.trans hfX.tape,hfZ.output.trans hfX.output,Nat.le_trans hfX.size hfZ.size,fun k hk _=>(hfZ.block k (Nat.lt_of_lt_of_le hk hfX.size) (by omega)).trans (hfX.block k hk id)⟩;exact hfF.drew
 clear z1 z2 z3 z4 z5 z6 hfZ k0 k1 k2 k3 k4 k5 kf HS';go_wp2;have hrb:rb=q4:=HB2.out;subst hrb;refine bodyPost_ret (v:=zby (⟨r1,r2,r3,r4,r5,r6⟩,rb)) (w:=Z.drew) (by rw [results_cell_tmp rfl];go_simp;rfl) rfl ⟨rfl,hfin⟩
def livesS (S:St) (key:ByteArray) (rev:Int):Kv × Bool :=
 if (getT S.T key).2 then match S.past (getT S.T key).1 with
  | some H=>hadH H rev
  | none=>(kv0,false)
 else (kv0,false)
theorem zhp {w X:World} {b:Nat} {a0 a1 a2 a3 a4 a5:Value} (hk:X.heap[b]? = some (.cells #[a0,a1,a2,a3,a4,a5] 57 (0,0))) (r:Kv) :
 ∃ Z,((((((X.setCell ⟨b,0,none⟩ (.string r.key)).setCell ⟨b,1,none⟩ (.string r.value)).setCell ⟨b,2,none⟩ (.int .i64 r.create)).setCell ⟨b,3,none⟩ (.int .i64 r.mod)).setCell ⟨b,4,none⟩ (.int .i64 r.version)).setCell ⟨b,5,none⟩ (.int .i64 r.lease))=Z ∧
  Z.heap[b]? = some (.cells #[.string r.key,.string r.value,.int .i64 r.create,.int .i64 r.mod,.int .i64 r.version,.int .i64 r.lease] 57 (0,0))/\(Fr No w X->w.heap.size<=b->Fr No w Z):=by
 have z1:=zaa hk 0 (.string r.key);have z2:=zaa z1 1 (.string r.value);have z3:=zaa z2 2 (.int .i64 r.create);have z4:=zaa z3 3 (.int .i64 r.mod);have z5:=zaa z4 4 (.int .i64 r.version);have z6:=zaa z5 5 (.int .i64 r.lease);have hfZ:=(((((((Fr.refl (fun x=>x=b) X).setAt 0 (.string r.key)).setAt 1 (.string r.value)).setAt 2 (.int .i64 r.create)).setAt 3 (.int .i64 r.mod)).setAt 4 (.int .i64 r.version)).setAt 5 (.int .i64 r.lease));clear z1 z2 z3 z4 z5;generalize ((((((X.setCell ⟨b,0,none⟩ (.string r.key)).setCell ⟨b,1,none⟩ (.string r.value)).setCell ⟨b,2,none⟩ (.int .i64 r.create)).setCell ⟨b,3,none⟩ (.int .i64 r.mod)).setCell ⟨b,4,none⟩ (.int .i64 r.version)).setCell ⟨b,5,none⟩ (.int .i64 r.lease))=Z at *;refine ⟨Z,rfl,?_,fun hf hb=>hf.trans hfZ fun j hj e=>?_⟩
 · rw [z6];simp
 have e':j=b:=e
 omega
theorem zhn {TA:zan} {N:Nat} (hT:TreeOk TA N) {n:Nat} (hn:n<=1099511627) (w:World) (s:Nat) (S:St) (F:Nat->Prop) (hS:zaj TA w s S F) (hok:StOk n S) (key:ByteArray) (rev:Int) :
 Calls Try.prog 79 #[.pointer (some ⟨s,0,none⟩),.string key,.int .i64 rev] w fun e w'=>e = .returned (zby (livesS S key rev))/\Fr No w w':=by
 have hhad:=fun W hW at_ H hH=>zhy hT hn W s S F hW hok at_ rev H hH;have hSA:=H_ hS;obtain ⟨t,p,ev,hp,FT,FH,a,hF⟩:=hS;have c0:=a.obj.cell 0 rfl;have l1:=a.obj.lt;have hget:=fun W hW=>hT.get (w:=W) (t:=t) (T:=S.T) (F:=FT) key hW;have HT:=H_ a.tree;have HG:=H_ hget;have HH:=H_ hhad;have hl:livesS S key rev=livesS S key rev:=rfl
 have hid:(getT S.T key).2=true->∃ H,S.past (getT S.T key).1=some H:=by
  unfold getT
  cases hf:S.T.find? (fun p=>keq p.1 key) with
  | none=>intro h;cases h
  | some q=>intro _;exact hok.id q (List.mem_of_find?_eq_some hf)
 unfold livesS at hl ⊢
 generalize getT S.T key=g at *;obtain ⟨g1,g2⟩:=g;have HI:=H_ hid;clear a hget hhad hid hl;cases g2
 · go_enter Try.func79,Try.ntmps79
   go_wp2_with (first
    | (go_at_call 112;refine (HG.out _ (hT.fr HT.out ((Fr.refl No w).alloc _) (fun _ _ s=>s))).mono ?_;rintro e w1 ⟨rfl,hf1⟩
       have hf2:Fr No w w1:=((Fr.refl No w).alloc _).trans0 hf1;have k6:w1.heap[w.heap.size]? = some (.cells #[.string ByteArray.empty,.string ByteArray.empty,.int .i64 0,.int .i64 0,.int .i64 0,.int .i64 0] 57 (0,0)):=hf1.heap (zac _ _ _ rfl) id;obtain ⟨k0,k1,k2,k3,k4,k5⟩:=cells6 k6;have kf:∀ i,w1.frozen? ⟨w.heap.size,i,none⟩=false:=fun i=>by simp [World.frozen?,k6]
       unfold zeg))
   obtain ⟨Z,hZ,z6,hzf⟩:=zhp (w:=w) k6 ⟨⟨#[]⟩,⟨#[]⟩,0,0,0,0⟩;dsimp only at hZ z6;rw [hZ];obtain ⟨y0,y1,y2,y3,y4,y5⟩:=cells6 z6;clear hZ;refine bodyPost_ret (v:=zby (kv0,false)) (w:=Z) (by rw [results_cell_tmp rfl];go_simp;rfl) rfl ⟨rfl,hzf hf2 (Nat.le_refl _)⟩
 obtain ⟨H,hH⟩:=HI.out rfl
 simp only [if_true,hH];generalize hr:hadH H rev=r at *;obtain ⟨⟨r1,r2,r3,r4,r5,r6⟩,rb⟩:=r;have HR:=H_ hr;have HP:=H_ hH;clear hr hH;go_enter Try.func79,Try.ntmps79
 go_wp2_with (first
  | (go_at_call 112;refine (HG.out _ (hT.fr HT.out ((Fr.refl No w).alloc _) (fun _ _ s=>s))).mono ?_;rintro e w1 ⟨rfl,hf1⟩
     have hf2:Fr No w w1:=((Fr.refl No w).alloc _).trans0 hf1;have k6':w1.heap[w.heap.size]? = some (.cells #[.string ByteArray.empty,.string ByteArray.empty,.int .i64 0,.int .i64 0,.int .i64 0,.int .i64 0] 57 (0,0)):=hf1.heap (zac _ _ _ rfl) id;unfold zeg)
  | (go_at_call 71;refine (HH.out _ (hSA.out.fr0 hT hf2) g1 H HP.out).mono ?_;rintro e w2 ⟨rfl,hf3⟩
     rw [HR.out];have hf4:Fr No w w2:=hf2.trans0 hf3;have k6:w2.heap[w.heap.size]? = some (.cells #[.string ByteArray.empty,.string ByteArray.empty,.int .i64 0,.int .i64 0,.int .i64 0,.int .i64 0] 57 (0,0)):=hf3.heap k6' id;obtain ⟨k0,k1,k2,k3,k4,k5⟩:=cells6 k6;have kf:∀ i,w2.frozen? ⟨w.heap.size,i,none⟩=false:=fun i=>by simp [World.frozen?,k6]
     unfold zby kvV))
 obtain ⟨Z,hZ,z6,hzf⟩:=zhp (w:=w) k6 ⟨r1,r2,r3,r4,r5,r6⟩;dsimp only at hZ z6;rw [hZ];obtain ⟨y0,y1,y2,y3,y4,y5⟩:=cells6 z6;clear hZ;refine bodyPost_ret (v:=zby (⟨r1,r2,r3,r4,r5,r6⟩,rb)) (w:=Z) (by rw [results_cell_tmp rfl];go_simp;rfl) rfl ⟨rfl,hzf hf4 (Nat.le_refl _)⟩
def toOf (key end_:ByteArray):ByteArray:=if end_.toList.isEmpty then key++⟨#[0]⟩ else if end_.toList == [0] then ByteArray.empty else end_
def oneL (S:St) (rev:Int) (p:ByteArray × Int):Option Kv:=match S.past p.2 with
 | some H=>if (hadH H rev).2 then some (hadH H rev).1 else none
 | none=>none
def zah (S:St) (R:Pairs) (rev:Int):List Kv:=R.filterMap (oneL S rev)
def zat (S:St) (key end_:ByteArray) (rev:Int):List Kv:=zah S (rangeT S.T key (toOf key end_)) rev
theorem info57:(Try.prog.info? 57).map (fun i=>(i.zero,i.size,i.bytes))=some (some (.agg #[.string ByteArray.empty,.string ByteArray.empty,.int .i64 0,.int .i64 0,.int .i64 0,.int .i64 0]),6,64):=by kernel_rfl
theorem zfp {T:Pairs} {a b:ByteArray} {p:ByteArray × Int} (h:p∈rangeT T a b):p∈T:=(List.mem_filter.1 h).1
set_option maxHeartbeats 4000000 in
theorem zfh {TA:zan} {N:Nat} (hT:TreeOk TA N) {n:Nat} (hn:n<=1099511627) (w:World) (s:Nat) (S:St) (F:Nat->Prop) (hS:zaj TA w s S F) (hok:StOk n S) (hN:S.T.length<=1099511627) (key end_:ByteArray) (rev:Int) (hks:key.size<=1099511627776) :
 Calls Try.prog 77 #[.pointer (some ⟨s,0,none⟩),.string key,.string end_,.int .i64 rev] w fun e w'=>∃ v,e = .returned v/\SlF w' 57 6 kvC v (zat S key end_ rev)/\Fr No w w'/\(∀ b,v.ownBlock=some b->w.heap.size<=b):=by
 have hhad:=fun W hW at_ H hH=>zhy hT hn W s S F hW hok at_ rev H hH;have hSA:=H_ hS;obtain ⟨t,p,ev,hp,FT,FH,a,hF⟩:=hS;have c0:=a.obj.cell 0 rfl;have l1:=a.obj.lt;have HT:=H_ a.tree;have HLen:=H_ fun W hW=>hT.len (w:=W) (t:=t) (T:=S.T) (F:=FT) hW;have hrange:=fun W to1 hW=>hT.range (w:=W) (t:=t) (T:=S.T) (F:=FT) key to1 hW;have HH:=H_ hhad;have HOk:=H_ hok.id;obtain ⟨i0,hi0,hz0,hz1,hz2⟩:=info_parts info57;have hlenR:∀ to1,(rangeT S.T key to1).length<=S.T.length:=fun to1=>List.length_filter_le _ _
 have hto:(end_.toList.isEmpty=true/\toOf key end_=key++⟨#[0]⟩)\/(end_.toList.isEmpty=false/\(end_.toList == [0])=true/\toOf key end_=⟨#[]⟩)\/(end_.toList.isEmpty=false/\(end_.toList == [0])=false/\toOf key end_=end_):=by
  unfold toOf;have he:ByteArray.empty=⟨#[]⟩:=rfl;rw [he];cases h1:end_.toList.isEmpty
  · cases h2:(end_.toList == [0])
    · exact .inr (.inr ⟨rfl,rfl,by simp⟩)
    exact .inr (.inl ⟨rfl,rfl,by simp⟩)
  exact .inl ⟨rfl,by simp⟩
 have hks':¬ 9223372036854775807 < key.size+1:=by omega
 clear a hhad hks;have HF0:Fr No w w:=Fr.refl No w;have HX:∃ X,toOf key end_=X/\((end_.toList.isEmpty=true/\X=key++⟨#[0]⟩)\/(end_.toList.isEmpty=false/\(end_.toList == [0])=true/\X=⟨#[]⟩)\/(end_.toList.isEmpty=false/\(end_.toList == [0])=false/\X=end_)):=⟨_,rfl,hto⟩;obtain ⟨X,hX,hto⟩:=HX
 unfold zat;rw [hX];have hRl:=hlenR X;have hRm:∀ q∈rangeT S.T key X,q∈S.T:=fun q hq=>zfp hq;have hrX:=fun W hW=>hrange W X hW;generalize rangeT S.T key X=R at hRl hRm hrX ⊢
 have HRM:=H_ hRm;have HRange:=H_ hrX;clear hlenR hrange hRm hrX hX;rcases hto with ⟨h1,hX2⟩ | ⟨h1,h2,hX2⟩ | ⟨h1,h2,hX2⟩
 all_goals
  have HX2:=H_ hX2;clear hX2;go_enter Try.func77,Try.ntmps77;go_wp2_with fail;have hS0:w.drew.cell? ⟨s,0,none⟩=some (.pointer (some ⟨t,0,none⟩)):=c0
  go_region_held (fun W=>W.cell? ⟨s,0,none⟩=some (.pointer (some ⟨t,0,none⟩)))
   (first | assumption | exact hf2.cell0 c0)
   (first
     | (go_at_call 70;refine (HLen.out _ (hT.fr HT.out (Fr.refl No w).drew (fun _ _ s=>s))).mono ?_;rintro e w' ⟨rfl,rfl⟩)
     | (go_at_call 69;(first | rw [<-HX2.out] | skip);refine (HRange.out _ (hT.fr HT.out (Fr.refl No w).drew (fun _ _ s=>s))).mono ?_;rintro e w2 ⟨v,rfl,hv,hf1,hvn⟩
        have hf2:Fr No w w2:=(Fr.refl No w).drew.trans0 hf1;obtain ⟨va,vcap,rfl,hc1,hc2,hva⟩:=hv.shape;have HV:=H_ hv;have HVA:=H_ hva;clear hv hva))
  clear hS0;have l2:=hf2.size;go_wp2_with fail
  go_loopg [36,10] R.length (fun g s36 s10 wr=>∃ (i:Nat) (o:Value),s36 = .int .i64 i/\s10=o/\i+g=R.length/\Hid (SlF wr 57 6 kvC o (zah S (R.take i) rev))/\Fr No w wr/\w2.heap.size<=wr.heap.size/\Hid (∀ b,o.ownBlock=some b->w2.heap.size<=b)/\Hid (Fr No w2 wr))
  case atStart=>exact ⟨0,_,rfl,rfl,by simp,H_ (SlF.nil _ _ _ _),hf2,Nat.le_refl _,H_ (by simp [Value.ownBlock]),H_ (Fr.refl _ _)⟩
  case round =>
   obtain ⟨i,o,rfl,rfl,hi,HO,hfr,hsz,HOn,HF2⟩:=hrel
   cases gk with
   | zero =>
     have hil:¬ (i:Int) < (R.length:Int):=(by omega);go_wp2;go_ret;have e1:=HO.out;rw [List.take_of_length_le (by omega)] at e1;exact ⟨_,rfl,e1,hfr,fun b hb=>by have:=HOn.out b hb;omega⟩
   | succ g =>
     have hil:(i:Int) < (R.length:Int):=(by omega);obtain ⟨q,hq⟩:∃ q,R[i]? = some q:=⟨_,List.getElem?_eq_getElem (by omega)⟩;obtain ⟨H,hH⟩:=HOk.out q (HRM.out q (List.mem_of_getElem? hq));obtain ⟨gb,go,rfl⟩:=HVA.out (by omega);have hVr:=HV.out.fr0 HF2.out;have x0:=hVr.cell0 zaf i hq rfl;have x1:=hVr.cell zaf i 1 hq rfl;have hone:oneL S rev q=if (hadH H rev).2 then some (hadH H rev).1 else none:=(by unfold oneL;rw [hH])
     have hstep:zah S (R.take (i+1)) rev=zah S (R.take i) rev++(oneL S rev q).toList:=by
      unfold zah;rw [List.take_add_one,hq,List.filterMap_append];cases h:oneL S rev q <;> simp [h]
     have HST:=H_ hstep;have HON:=H_ hone;have HPH:=H_ hH;have HQ:=H_ hq;clear hstep hone hH hq hVr;rcases hr:hadH H rev with ⟨⟨r1,r2,r3,r4,r5,r6⟩,rb⟩
     rw [hr] at HON;have HR:=H_ hr;clear hr;obtain ⟨o1,o2,rfl,ho1,ho2,ho3⟩:=HO.out.shape;clear ho3;have hob:(zah S (R.take i) rev).length<=R.length:=Nat.le_trans (List.length_filterMap_le _ _) (by simp;omega);have hi5:0<=(i:Int)+1:=(by omega);cases rb
     · have HE:Hid (zah S (R.take (i+1)) rev=zah S (R.take i) rev):=H_ (by rw [HST.out,HON.out];simp)
       clear HST HON
       go_wp2_with (go_at_call 71;refine (HH.out _ (hSA.out.fr0 hT (hfr.alloc _)) q.2 H HPH.out).mono ?_;rintro e w3 ⟨rfl,hf3⟩
                    have hf4:Fr No wr w3:=((Fr.refl No wr).alloc _).trans0 hf3;rw [HR.out];unfold zby kvV)
       go_roundg g
       case rel =>
        have hf5:Fr No wr (w3.alloc (Obj.cells #[Value.string r1,Value.string r2,Value.int .i64 r3,Value.int .i64 r4,Value.int .i64 r5,Value.int .i64 r6] 57)):=hf4.alloc _;exact ⟨i+1,_,by go_num,rfl,by omega,H_ (by rw [HE.out];exact HO.out.fr0 hf5),hfr.trans0 hf5,Nat.le_trans hsz hf5.size,HOn,H_ (HF2.out.trans0 hf5)⟩
       case measure=>omega
     have HE:Hid (zah S (R.take (i+1)) rev=zah S (R.take i) rev++[⟨r1,r2,r3,r4,r5,r6⟩]):=H_ (by rw [HST.out,HON.out];simp)
     clear HST HON
     go_wp2_with (first
      | (go_at_call 71;refine (HH.out _ (hSA.out.fr0 hT (hfr.alloc _)) q.2 H HPH.out).mono ?_;rintro e w3 ⟨rfl,hf3⟩
         have hf4:Fr No wr w3:=((Fr.refl No wr).alloc _).trans0 hf3;have hnew:=zas (w3.alloc (.cells [Value.string r1,.string r2,.int .i64 r3,.int .i64 r4,.int .i64 r5,.int .i64 r6].toArray 57)) [Value.string r1,.string r2,.int .i64 r3,.int .i64 r4,.int .i64 r5,.int .i64 r6] 57 (0,0);rw [HR.out];unfold zby kvV)
      | (at_builtin;refine zap rfl _ _ 53 rfl 57 i0 _ 6 64 Try.underlying53 hi0 hz0 hz1 hz2 rfl (by decide) _ (zah S (R.take i) rev) rfl (((HO.out.fr0 hf4).alloc _).alloc _) (w3.heap.size+1) 1 (⟨r1,r2,r3,r4,r5,r6⟩:Kv) rfl (by simpa [kvC] using hnew) rfl ?c1 ?c2 ?c3 ?_))
     case c1=>intro u hu;simp [kvC] at hu;rcases hu with rfl | rfl | rfl | rfl | rfl | rfl <;> rfl
     case c2=>unfold maxLen;omega
     case c3=>omega
     intro g1 o' cap w4 hs4 hg4 hb4 hlt4;have hlen4:(zah S (R.take i) rev++[(⟨r1,r2,r3,r4,r5,r6⟩:Kv)]).length=(zah S (R.take i) rev).length+1:=(by simp);have hfA:Fr No w w4:=(((hfr.trans0 hf4).alloc _).alloc _).grown hg4 fun k hk=>.inr (by have:=HOn.out k hk;omega);have hfB:Fr No w2 w4:=(((HF2.out.trans0 hf4).alloc _).alloc _).grown hg4 fun k hk=>.inr (HOn.out k hk)
     have hg1:w2.heap.size<=g1:=by
      rcases hb4 with e | e
      · exact HOn.out _ e
      have:=hf4.size;try simp at e
      omega
     have H4:=H_ hs4;have HL4:=H_ hlen4;clear hs4 hlen4 hg4 hb4 hnew;go_wp2;go_roundg g
     case rel =>
      exact ⟨i+1,_,by go_num,rfl,by omega,H_ (by rw [HE.out];exact H4.out),hfA,hfB.size,H_ (fun b hb=>by simp [Value.ownBlock] at hb;omega),H_ hfB⟩
     case measure=>omega
end Go.Proofs.Ythljnnjpmdgkoaa