/- Own lemmas. -/
import Derived.Test.YthljnnjpmdgkoaaGreatK15
import Derived.Test.YthljnnjpmdgkoaaGreatK13
import Derived.Test.YthljnnjpmdgkoaaGreatK00
namespace Go.Proofs.YthljnnjpmdgkoaaGreat
open Go Go.Proofs Go.RowKit
set_option maxRecDepth 100000
structure LayR (TA:zaq) (w:World) (s sb vb ab:Nat) (S:St) (F:Nat->Prop) (ev:Value) (E:List Ev) (kind:Int) (kv:Value) (L:List Kv) (count:Int) (more:Bool):Prop where
 store:zak TA w s S F
 box:Has w sb [.pointer (some ⟨s,0,none⟩)]
 evs:Has w vb [ev]
 evl:SlF w 101 13 evC ev E
 ans:Has w ab [.int .i64 kind,kv,.int .i64 count,.bool more]
 kvl:SlF w 99 6 kvC kv L
 f1:¬ F sb
 f2:¬ F vb
 f3:¬ F ab
 f4:∀ b,ev.ownBlock=some b->¬ F b
 f5:∀ b,kv.ownBlock=some b->¬ F b
 n1:sb≠vb
 n2:sb≠ab
 n3:vb≠ab
 e1:ev.ownBlock≠some sb
 e2:ev.ownBlock≠some vb
 e3:ev.ownBlock≠some ab
 k1:kv.ownBlock≠some sb
 k2:kv.ownBlock≠some vb
 k3:kv.ownBlock≠some ab
 ek:∀ b,ev.ownBlock=some b->kv.ownBlock≠some b
def told (x:Ev):List Kv:=if 0<x.prev.version then [x.prev] else []
set_option maxHeartbeats 4000000 in
theorem znv {TA:zaq} {N:Nat} (hT:TreeOk TA N) {n:Nat} (hn:n<=1099511627) (w:World) (s sb vb ab:Nat) (S:St) (F:Nat->Prop) (ev:Value) (E:List Ev) (kind:Int) (kv:Value) (L:List Kv) (count:Int) (more:Bool)
 (a:LayR TA w s sb vb ab S F ev E kind kv L count more) (hok:StOk n S) (x:Ev) (hx:DoOk N S x) (hE:E.length<=1099511627) (hL:L.length<=1099511627) (hc0:0<=count) (hc1:count<=top) :
 Calls Tryz.prog 86 #[.pointer (some ⟨ab,0,none⟩),evV x,.pointer (some ⟨sb,0,none⟩),.pointer (some ⟨vb,0,none⟩)] w fun e w'=>(∃ v,e=.returned v) ∧
  ∃ F' ev' kv',LayR TA w' s sb vb ab (doS S x) F' ev' (E++[x]) kind kv' (L++told x) (count+(told x).length) more ∧
   Fr (fun b=>F b\/b=vb\/b=ab\/ev.ownBlock=some b\/kv.ownBlock=some b) w w'/\(∀ b,F' b->F b\/w.heap.size<=b)/\(∀ b,ev'.ownBlock=some b->ev.ownBlock=some b\/w.heap.size<=b) ∧
   (∀ b,kv'.ownBlock=some b->kv.ownBlock=some b\/w.heap.size<=b):=by
 have d:=H_ a;have HX:=H_ hx;have az:=a.store.lt hT;have c0:=a.box.cell 0 rfl;have a7:=zad w (Obj.cells #[.int .i64 x.kind,.string x.kv.key,.string x.kv.value,.int .i64 x.kv.create,.int .i64 x.kv.mod,.int .i64 x.kv.version,.int .i64 x.kv.lease,.string x.prev.key,.string x.prev.value,.int .i64 x.prev.create,.int .i64 x.prev.mod,.int .i64 x.prev.version,.int .i64 x.prev.lease] 101) _ rfl;have A:Fr No w (w.alloc (Obj.cells #[.int .i64 x.kind,.string x.kv.key,.string x.kv.value,.int .i64 x.kv.create,.int .i64 x.kv.mod,.int .i64 x.kv.version,.int .i64 x.kv.lease,.string x.prev.key,.string x.prev.value,.int .i64 x.prev.create,.int .i64 x.prev.mod,.int .i64 x.prev.version,.int .i64 x.prev.lease] 101)):=(Fr.refl No w).alloc _;have b5:=a.box.lt;have b4:=a.evs.lt;have b8:=a.ans.lt
 have aT:¬ F w.heap.size:=fun h=>by have:=az _ h;omega
 obtain ⟨i0,ax,aF,aE,ay⟩:=info_parts info73;obtain ⟨j0,aR,aA,av,aM⟩:=info_parts info57;unfold top at hc1;unfold evV;clear a hx;go_enter Tryz.func86,Tryz.ntmps86
 go_wp2_with (first
  | (go_at_call 68;refine (zrp hT hn _ s S F (d.out.store.fr0 hT A) hok x HX.out).mono ?_;rintro e w1 ⟨⟨v,rfl⟩,F1,Y,z,aa⟩
     have t:=z.heap a7 aT;obtain ⟨k0,k1,k2,k3,k4,k5,k6,k7,k8,k9,aS,an,aJ⟩:=cells13 t;have v1:w1.cell? ⟨vb,0,none⟩=some ev:=z.cell (A.cell0 (d.out.evs.cell 0 rfl)) d.out.f2;have q:=zar w1 [.int .i64 x.kind,.string x.kv.key,.string x.kv.value,.int .i64 x.kv.create,.int .i64 x.kv.mod,.int .i64 x.kv.version,.int .i64 x.kv.lease,.string x.prev.key,.string x.prev.value,.int .i64 x.prev.create,.int .i64 x.prev.mod,.int .i64 x.prev.version,.int .i64 x.prev.lease] 101 (0,0))
  | (at_builtin;refine zao rfl _ _ 28 rfl 101 i0 _ 13 136 Tryz.underlying28 ax aF aE ay rfl (by decide) ev E rfl (((d.out.evl.fr0 A).fr z d.out.f4).alloc _) w1.heap.size 1 x rfl q rfl ?c1 ?c2 ?c3 ?_))
 case c1=>intro u hu;simp [evC,kvC] at hu;rcases hu with rfl | rfl | rfl | rfl | rfl | rfl | rfl | rfl | rfl | rfl | rfl | rfl | rfl <;> rfl
 case c2=>unfold maxLen;omega
 case c3=>omega
 intro i W f B ah C ai aU;have aY:w.heap.size+1<=w1.heap.size:=by have:=zaa t;omega
 have y:Fr (fun b=>ev.ownBlock=some b) w1 B:=((Fr.refl _ w1).alloc _).grown C fun k hk=>.inl hk;have O:=d.out.evl.lt;have T:=d.out.kvl.lt
 have m:ev.ownBlock=some i\/w1.heap.size<=i:=by
  rcases ai with h | h
  · exact .inl h
  right;have h':i=w1.heap.size+1:=by simpa using h
  omega
 have ae:ev.ownBlock≠some w.heap.size:=fun h=>by have:=O _ h;omega
 have v2:=y.cell v1 d.out.e2;have aO:B.frozen? ⟨vb,0,none⟩=false:=y.free v1 (z.free (A.cell0 (d.out.evs.cell 0 rfl)) (A.free0 (d.out.evs.cell 0 rfl) (d.out.evs.free 0)) d.out.f2) d.out.e2;have au:=y.cell an ae;have V:=y.heap t ae;have U:=Y.lt hT;have aP:=H_ Y;have aH:=H_ z;have ao:=H_ aa;have aI:=H_ ah;have Z:=H_ y;have aC:=H_ V;have aw:vb≠w.heap.size:=by omega
 clear Y z aa ah C ai y t a7 k0 k1 k2 k3 k4 k5 k6 k7 k8 k9 aS an aJ v1 q V;go_upto_if 16 with fail;have aZ:w1.heap.size<=B.heap.size:=Z.out.size
 have o:∀ b,b<w.heap.size+1->¬ F b->¬ F1 b:=fun b hb hF h=>by
  rcases ao.out b h with h | h
  · exact hF h
  simp at h;omega
 have P:Fr (fun b=>b=vb) B (B.setCell ⟨vb,0,none⟩ (.slice (some ⟨i,W,none⟩) (E.length+1) f)):=(Fr.refl _ B).setAt 0 _;have ad:Fr F w w1:=(A.mono fun _ _ s=>s.elim).trans aH.out fun _ _ h=>h;have X:Fr (fun b=>F b\/ev.ownBlock=some b) w B:=(ad.mono fun _ _ h=>.inl h).trans Z.out fun _ _ h=>.inr h
 have M:Fr (fun b=>F b\/b=vb\/ev.ownBlock=some b) w (B.setCell ⟨vb,0,none⟩ (.slice (some ⟨i,W,none⟩) (E.length+1) f)) :=
  (X.mono fun b _ h=>h.elim .inl fun h=>.inr (.inr h)).trans P fun b _ h=>.inr (.inl h)
 have K:LayR TA (B.setCell ⟨vb,0,none⟩ (.slice (some ⟨i,W,none⟩) (E.length+1) f)) s sb vb ab (doS S x) F1 (.slice (some ⟨i,W,none⟩) (E.length+1) f) (E++[x]) kind kv L count more:={
  store:=(aP.out.fr hT Z.out fun b hb e=>o b (by have:=O b e;omega) (d.out.f4 b e) hb).fr hT P fun b hb e=>o vb (by omega) d.out.f2 (by have e':b=vb:=e;rw [<-e'];exact hb)
  box:=d.out.box.fr M fun h=>h.elim d.out.f1 fun h=>h.elim d.out.n1 d.out.e1
  evs:=(d.out.evs.fr X fun h=>h.elim d.out.f2 d.out.e2).set 0 _
  evl:=aI.out.other ⟨vb,0,none⟩ _ (by
   simp only [Value.ownBlock,ne_eq,Option.some.injEq];rintro rfl;rcases m with h | h
   · exact d.out.e2 h
   omega)
  ans:=d.out.ans.fr M fun h=>h.elim d.out.f3 fun h=>h.elim (fun h=>d.out.n3 h.symm) d.out.e3
  kvl:=d.out.kvl.fr M fun b hb h=>by
   rcases h with h | h | h
   · exact d.out.f5 b hb h
   · exact d.out.k2 (h▸hb)
   exact d.out.ek b h hb
  f1:=o sb (by omega) d.out.f1
  f2:=o vb (by omega) d.out.f2
  f3:=o ab (by omega) d.out.f3
  f4:=fun b hb h=>by
   obtain rfl:i=b:=by simpa [Value.ownBlock] using hb
   rcases m with I | I
   · exact o i (by have:=O i I;omega) (d.out.f4 i I) h
   have:=U i h;omega
  f5:=fun b hb h=>o b (by have:=T b hb;omega) (d.out.f5 b hb) h
  n1:=d.out.n1
  n2:=d.out.n2
  n3:=d.out.n3
  e1:=by
   simp only [Value.ownBlock,ne_eq,Option.some.injEq];rintro rfl;rcases m with h | h
   · exact d.out.e1 h
   omega
  e2:=by
   simp only [Value.ownBlock,ne_eq,Option.some.injEq];rintro rfl;rcases m with h | h
   · exact d.out.e2 h
   omega
  e3:=by
   simp only [Value.ownBlock,ne_eq,Option.some.injEq];rintro rfl;rcases m with h | h
   · exact d.out.e3 h
   omega
  k1:=d.out.k1
  k2:=d.out.k2
  k3:=d.out.k3
  ek:=fun b hb h=>by
   obtain rfl:i=b:=by simpa [Value.ownBlock] using hb
   rcases m with I | I
   · exact d.out.ek i I h
   have:=T i h;omega }
 have a5:=P.heap aC.out (fun e=>aw e.symm);have aj:(B.setCell ⟨vb,0,none⟩ (.slice (some ⟨i,W,none⟩) (E.length+1) f)).heap.size=B.heap.size:=by simp
 have aX:w1.heap.size<=(B.setCell ⟨vb,0,none⟩ (.slice (some ⟨i,W,none⟩) (E.length+1) f)).heap.size:=by omega
 clear aj;generalize B.setCell ⟨vb,0,none⟩ (.slice (some ⟨i,W,none⟩) (E.length+1) f)=j at *;have c:=H_ K;have a3:=H_ M;have l:=H_ a5;clear K M a5 P ad X au v2 aO
 have Q:∀ b,F1 b->F b\/w.heap.size<=b:=fun b hb=>by
  rcases ao.out b hb with h | h
  · exact .inl h
  simp at h;exact .inr (by omega)
 have R:∀ b,(Value.slice (some ⟨i,W,none⟩) (E.length+1) f).ownBlock=some b->ev.ownBlock=some b\/w.heap.size<=b:=fun b hb=>by
  obtain rfl:i=b:=by simpa [Value.ownBlock] using hb
  rcases m with h | h
  · exact .inl h
  exact .inr (by omega)
 by_cases hv:0<x.prev.version
 · have g:told x = [x.prev]:=by unfold told;rw [if_pos hv]
   have a1:=c.out.ans.cell 1 rfl;have a2:=c.out.ans.cell 2 rfl;have f1:=c.out.ans.free 1;have f2:=c.out.ans.free 2;have ar:=c.out.kvl.lt;have ak:=c.out.ans.lt;have bk:=zaa l.out;have q7:j.cell? ⟨w.heap.size,7,none⟩=some (.string x.prev.key):=(by simp [World.cell?,l.out]);have q8:j.cell? ⟨w.heap.size,8,none⟩=some (.string x.prev.value):=(by simp [World.cell?,l.out]);have q9:j.cell? ⟨w.heap.size,9,none⟩=some (.int .i64 x.prev.create):=(by simp [World.cell?,l.out]);have bo:j.cell? ⟨w.heap.size,10,none⟩=some (.int .i64 x.prev.mod):=(by simp [World.cell?,l.out]);have bi:j.cell? ⟨w.heap.size,11,none⟩=some (.int .i64 x.prev.version):=(by simp [World.cell?,l.out]);have b9:j.cell? ⟨w.heap.size,12,none⟩=some (.int .i64 x.prev.lease):=(by simp [World.cell?,l.out])
   have q:=zar j.drew [.string x.prev.key,.string x.prev.value,.int .i64 x.prev.create,.int .i64 x.prev.mod,.int .i64 x.prev.version,.int .i64 x.prev.lease] 99 (0,0);have D:=c.out.k3;have HT:=H_ g;clear g;go_wp2_with fail
   go_region_law (refine zgw rfl _ _ 27 rfl 99 j0 _ 6 64 Tryz.underlying27 aR aA av aM rfl (by decide) _ L rfl (c.out.kvl.fr0 ((Fr.refl No j).drew.alloc _)) j.heap.size 1 x.prev rfl q rfl (by intro u hu;simp [kvC] at hu;rcases hu with rfl | rfl | rfl | rfl | rfl | rfl <;> rfl) (by unfold maxLen;omega) (by omega) ?_;intro H o2 r w4 a8 a9 a4 aW;have G:Fr (fun k=>kv.ownBlock=some k) j w4:=((Fr.refl _ j).drew.alloc _).grown a9 (fun k hk=>.inl hk);have b1:=G.cell a1 D;have bf:=G.free a1 f1 D;have b2:=G.cell a2 D;have bd:=G.free a2 f2 D;have aB:=H_ a8;have aL:=H_ a4;have al:=H_ G;clear a8 a9 a4 G)
   all_goals
    have bg:count+1<=1099511627777:=(by omega);go_wp2;refine bodyPost_end (results_none rfl _ _ _) rfl ?_
    have C:kv.ownBlock=some H\/j.heap.size<=H:=by
     rcases aL.out with h | h
     · exact .inl h
     right
     have h':H=j.heap.size+1:=(by simpa using h);omega
    have aK:∀ b,F1 b->b<j.heap.size:=fun b h=>by have:=U b h;omega
    have aG:=c.out.evs.lt;have aD:=c.out.box.lt;have ag:=c.out.evl.lt
    have ng:∀ b,kv.ownBlock≠some b->b<j.heap.size->H≠b:=by
     rintro b I h2 rfl;rcases C with h | h
     · exact I h
     omega
    have J:Fr (fun b=>b=ab\/kv.ownBlock=some b) j ((w4.setCell ⟨ab,1,none⟩ (.slice (some ⟨H,o2,none⟩) (L.length+1) r)).setCell ⟨ab,2,none⟩ (.int .i64 (count+1))) :=
     ((al.out.mono fun _ _ h=>.inr h).setCell (p:=⟨ab,1,none⟩) (.inl (.inl rfl)) _).setCell (p:=⟨ab,2,none⟩) (.inl (.inl rfl)) _
    have aN:∀ b,(Value.slice (some ⟨H,o2,none⟩) (L.length+1) r).ownBlock=some b->kv.ownBlock=some b\/w.heap.size<=b:=fun b hb=>by
     obtain rfl:H=b:=by simpa [Value.ownBlock] using hb
     rcases C with h | h
     · exact .inl h
     exact .inr (by omega)
    refine ⟨⟨_,rfl⟩,F1,_,.slice (some ⟨H,o2,none⟩) (L.length+1) r,{
     store:=c.out.store.fr hT J fun b hb h=>h.elim (fun h=>c.out.f3 (h▸hb)) fun h=>c.out.f5 b h hb
     box:=c.out.box.fr J fun h=>h.elim c.out.n2 c.out.k1
     evs:=c.out.evs.fr J fun h=>h.elim c.out.n3 c.out.k2
     evl:=c.out.evl.fr J fun b hb h=>h.elim (fun h=>c.out.e3 (h▸hb)) fun h=>c.out.ek b hb h
     ans:=by
      rw [HT.out];exact ((c.out.ans.fr al.out D).set 1 (.slice (some ⟨H,o2,none⟩) (L.length+1) r)).set 2 (.int .i64 (count+1))
     kvl:=by
      rw [HT.out];have af:=ng ab D ak;exact (aB.out.other ⟨ab,1,none⟩ _ (by simp [Value.ownBlock];exact af)).other ⟨ab,2,none⟩ _ (by simp [Value.ownBlock];exact af)
     f1:=c.out.f1
     f2:=c.out.f2
     f3:=c.out.f3
     f4:=c.out.f4
     f5:=fun b hb h=>by
      obtain rfl:H=b:=by simpa [Value.ownBlock] using hb
      rcases C with I | I
      · exact c.out.f5 H I h
      have:=aK H h;omega
     n1:=c.out.n1
     n2:=c.out.n2
     n3:=c.out.n3
     e1:=c.out.e1
     e2:=c.out.e2
     e3:=c.out.e3
     k1:=by simp only [Value.ownBlock,ne_eq,Option.some.injEq];exact ng sb c.out.k1 aD
     k2:=by simp only [Value.ownBlock,ne_eq,Option.some.injEq];exact ng vb c.out.k2 aG
     k3:=by simp only [Value.ownBlock,ne_eq,Option.some.injEq];exact ng ab c.out.k3 ak
     ek:=fun b hb=>by
      simp only [Value.ownBlock,ne_eq,Option.some.injEq];exact ng b (c.out.ek b hb) (ag b hb) },?_,Q,R,aN⟩
    refine (a3.out.mono fun b _ h=>h.elim .inl fun h=>h.elim (fun h=>.inr (.inl h)) fun h=>.inr (.inr (.inr (.inl h)))).trans J fun b _ h=>h.elim (fun h=>.inr (.inr (.inl h))) fun h=>.inr (.inr (.inr (.inr h)))
 have g:told x = []:=by unfold told;rw [if_neg hv]
 have HT:=H_ g;clear g;go_wp2;refine bodyPost_end (results_none rfl _ _ _) rfl ?_;exact ⟨⟨_,rfl⟩,F1,_,kv,by rw [HT.out];simpa using c.out,a3.out.mono fun b _ h=>h.elim .inl fun h=>h.elim (fun h=>.inr (.inl h)) fun h=>.inr (.inr (.inr (.inl h))),Q,R,fun b hb=>.inl hb⟩
def st0:St:={ T:=[],past:=fun _=>none,next:=0,rev:=0,mark:=0,events:=[] }
theorem zgk {TA:zaq} {N:Nat} (hT:TreeOk TA N) (w:World):Calls Tryz.prog 17 #[] w fun e w'=>∃ s,e=.returned (.pointer (some ⟨s,0,none⟩))/\∃ F,zak TA w' s st0 F/\Fr No w w'/\(∀ b,F b->w.heap.size<=b):=by
 have k:∀ w,(Instr.makeMap 105 none).run Tryz.prog w=.ok (.map (some w.heap.size)) (w.alloc (.map #[] 0)):=fun w=>run_makeMap 105 w;go_enter Tryz.func17,Tryz.ntmps17;go_wp2_with (go_at_call 51;refine (hT.new w).mono ?_;rintro e w1 ⟨t,rfl,c,f,d,j⟩);go_ret;have a:=hT.lt f;have g:=d.size;refine ⟨_,rfl,storeF (w1.heap.size+1) w1.heap.size (.slice none 0 0) c fun _ _=>False,⟨t,w1.heap.size,.slice none 0 0,fun _=>none,c,fun _ _=>False,?_,fun _=>Iff.rfl⟩,(d.alloc _).alloc _,?_⟩
 · exact {
    obj:=⟨107,zad _ _ _ (by simp)⟩
    tree:=hT.fr f (((Fr.refl No w1).alloc _).alloc _) fun _ _ s=>s
    map:=(MapAt.made w1).alloc _
    events:=SlF.nil _ _ _ _
    hist:=fun i H h=>by simp [st0] at h
    gone:=fun i h=>⟨rfl,fun _ h=>h⟩
    ds:=⟨fun h=>by have:=a _ h;omega,by simp [Value.ownBlock],fun _ h=>h⟩
    dp:=⟨fun h=>by have:=a _ h;omega,by simp [Value.ownBlock],fun _ h=>h⟩
    dt:=fun b hb=>⟨by simp [Value.ownBlock],fun _ h=>h⟩
    de:=fun b hb=>by simp [Value.ownBlock] at hb
    dh:=fun _ _ _ h=>h.elim }
 rintro b (rfl | rfl | h | h | ⟨_,h⟩)
 · omega
 · omega
 · exact j b h
 · simp [Value.ownBlock] at h
 exact h.elim
theorem zkp {TA:zaq} (w:World) (s:Nat) (S:St) (F:Nat->Prop) (hS:zak TA w s S F):Calls Tryz.prog 19 #[.pointer (some ⟨s,0,none⟩)] w fun e w'=>e=.returned (.int .i64 S.rev)/\w=w':=by
 obtain ⟨t,p,c,i,b,d,a,hF⟩:=hS;have g:=a.obj.cell 3 rfl;have f:=a.obj.lt;clear a;go_enter Tryz.func19,Tryz.ntmps19;go_wp2;go_ret;exact ⟨rfl,rfl⟩
def whenE (S:St) (rev:Int):Int:=if S.rev<rev then 33 else if rev≠0/\rev<S.mark then 32 else 0
theorem zdx {TA:zaq} (w:World) (s:Nat) (S:St) (F:Nat->Prop) (hS:zak TA w s S F) (rev:Int):Calls Tryz.prog 84 #[.pointer (some ⟨s,0,none⟩),.int .i64 rev] w fun e w'=>e=.returned (.int .i64 (whenE S rev))/\w=w':=by
 obtain ⟨t,p,f,l,d,g,a,hF⟩:=hS;have k:=a.obj.cell 3 rfl;have i:=a.obj.cell 4 rfl;have j:=a.obj.lt;unfold whenE;clear a;by_cases h1:S.rev<rev
 · rw [if_pos h1]
   go_enter Tryz.func84,Tryz.ntmps84;go_wp2;go_ret;exact ⟨rfl,rfl⟩
 rw [if_neg h1]
 have c:rev<=S.rev:=(by omega);by_cases h2:rev=0
 · subst h2
   go_enter Tryz.func84,Tryz.ntmps84;go_wp2;go_ret;exact ⟨by simp,rfl⟩
 have b:(rev==0)=false:=by simpa using h2
 by_cases h3:rev<S.mark
 · rw [if_pos ⟨h2,h3⟩]
   go_enter Tryz.func84,Tryz.ntmps84;go_wp2;go_ret;exact ⟨rfl,rfl⟩
 rw [if_neg (fun h=>h3 h.2)]
 go_enter Tryz.func84,Tryz.ntmps84;go_wp2;go_ret;exact ⟨rfl,rfl⟩
theorem zsd {TA:zaq} (w:World) (s:Nat) (S:St) (F:Nat->Prop) (hS:zak TA w s S F) (v:Value) (hr:S.rev<top):Calls Tryz.prog 85 #[.pointer (some ⟨s,0,none⟩),v] w fun e w'=>e=.returned (.bool true)/\Fr No w w':=by
 obtain ⟨t,p,d,j,c,f,a,hF⟩:=hS;have i:=a.obj.cell 3 rfl;have g:=a.obj.lt;have b:∀ (fn:Fn) (first cap:Array Value) (w:World),(Instr.makeFunc fn first cap).run Tryz.prog w=.ok (.func fn first cap) w:=fun _ _ _ _=>rfl;unfold top at hr;clear a;go_enter Tryz.func85,Tryz.ntmps85;go_wp2;go_ret;exact ⟨rfl,(Fr.refl No w).alloc _⟩
def revOf (g:Rg) (rev:Int):Int:=if g.rev≠0 then g.rev else rev
def allL (S:St) (g:Rg) (rev:Int):List Kv:=zaz S g.key g.end_ (revOf g rev)
def moreB (S:St) (g:Rg) (rev:Int):Bool:=!g.count&&decide (0<g.limit)&&decide (g.limit<(allL S g rev).length)
def cutL (g:Rg) (more:Bool) (l:List Kv):List Kv:=if more then l.take g.limit.toNat else l
def getL (S:St) (g:Rg) (rev:Int):List Kv :=
 if g.count then [] else
  let l:=cutL g (moreB S g rev) (if g.desc then (allL S g rev).reverse else allL S g rev)
  if g.keys then l.map fun x=>{ x with value:=ByteArray.empty } else l
def SlR {α:Type} (w:World) (sz:Nat) (f:α->List Value) (v:Value) (L:List α):Prop :=
 ∃ a cap,v=.slice a L.length cap/\L.length<=cap/\cap<=maxLen ∧
  (0<L.length->∃ g o,a=some ⟨g,o,none⟩/\∀ (i:Nat) (x:α),L[i]?=some x->∀ (j:Nat) (u:Value),(f x)[j]?=some u->w.cell? ⟨g,o+i * sz+j,none⟩=some u)
section
variable {α:Type} {f:α->List Value} {w:World} {e sz:Nat} {v:Value} {L:List α}
theorem SlF.toR (hf:∀ x,(f x).length=sz) (h:SlF w e sz f v L):SlR w sz f v L:=by
 obtain ⟨a,cap,rfl,d,b,c⟩:=h.shape;refine ⟨a,cap,rfl,d,b,fun hp=>?_⟩;obtain ⟨g,o,rfl⟩:=c hp;exact ⟨g,o,rfl,fun i x hx j u hu=>h.cell hf i j hx hu⟩
theorem SlR.nil (w:World) (sz:Nat) (f:α->List Value):SlR w sz f (.slice none 0 0) []:=⟨none,0,rfl,Nat.le_refl _,by simp,fun h=>by simp at h⟩
theorem SlR.shape (h:SlR w sz f v L):∃ a cap,v=.slice a L.length cap/\L.length<=cap/\cap<=maxLen/\(0<L.length->∃ g o,a=some ⟨g,o,none⟩):=by
 obtain ⟨a,cap,rfl,e,b,c⟩:=h;exact ⟨a,cap,rfl,e,b,fun hp=>by obtain ⟨g,o,d,_⟩:=c hp;exact ⟨g,o,d⟩⟩
theorem SlR.cell {g o cap:Nat} (_:∀ x,(f x).length=sz) (h:SlR w sz f (.slice (some ⟨g,o,none⟩) L.length cap) L) (i j:Nat) {x:α} {u:Value} (hx:L[i]?=some x) (hu:(f x)[j]?=some u) :
 w.cell? ⟨g,o+i * sz+j,none⟩=some u:=by
 obtain ⟨a,b,d,q,l,e⟩:=h;have n:=(List.getElem?_eq_some_iff.1 hx).1;obtain ⟨m,p,c,k⟩:=e (by omega);simp only [Value.slice.injEq,true_and] at d;obtain ⟨rfl,rfl⟩:=d;simp only [Option.some.injEq,Addr.mk.injEq,and_true] at c;obtain ⟨rfl,rfl⟩:=c;exact k i x hx j u hu
theorem SlR.cell0 {g o cap:Nat} (hf:∀ x,(f x).length=sz) (h:SlR w sz f (.slice (some ⟨g,o,none⟩) L.length cap) L) (i:Nat) {x:α} {u:Value} (hx:L[i]?=some x) (hu:(f x)[0]?=some u) :
 w.cell? ⟨g,o+i * sz,none⟩=some u:=h.cell hf i 0 hx hu
theorem SlR.cells5 {g o cap:Nat} {v0 v1 v2 v3 v4:Value} (hf:∀ x,(f x).length=5) (h:SlR w 5 f (.slice (some ⟨g,o,none⟩) L.length cap) L) (i:Nat) {x:α} (hx:L[i]?=some x) (hv:f x = [v0,v1,v2,v3,v4]):w.cell? ⟨g,o+i * 5,none⟩=some v0/\w.cell? ⟨g,o+i * 5+1,none⟩=some v1/\w.cell? ⟨g,o+i * 5+2,none⟩=some v2/\w.cell? ⟨g,o+i * 5+3,none⟩=some v3/\w.cell? ⟨g,o+i * 5+4,none⟩=some v4:=⟨h.cell0 hf i hx (by rw [hv];rfl),h.cell hf i 1 hx (by rw [hv];rfl),h.cell hf i 2 hx (by rw [hv];rfl),h.cell hf i 3 hx (by rw [hv];rfl),h.cell hf i 4 hx (by rw [hv];rfl)⟩
theorem SlR.cells10 {g o cap:Nat} {v0 v1 v2 v3 v4 v5 v6 v7 v8 v9:Value} (hf:∀ x,(f x).length=10) (h:SlR w 10 f (.slice (some ⟨g,o,none⟩) L.length cap) L) (i:Nat) {x:α} (hx:L[i]?=some x) (hv:f x = [v0,v1,v2,v3,v4,v5,v6,v7,v8,v9]):w.cell? ⟨g,o+i * 10,none⟩=some v0/\w.cell? ⟨g,o+i * 10+1,none⟩=some v1/\w.cell? ⟨g,o+i * 10+2,none⟩=some v2/\w.cell? ⟨g,o+i * 10+3,none⟩=some v3/\w.cell? ⟨g,o+i * 10+4,none⟩=some v4/\w.cell? ⟨g,o+i * 10+5,none⟩=some v5/\w.cell? ⟨g,o+i * 10+6,none⟩=some v6/\w.cell? ⟨g,o+i * 10+7,none⟩=some v7/\w.cell? ⟨g,o+i * 10+8,none⟩=some v8/\w.cell? ⟨g,o+i * 10+9,none⟩=some v9:=⟨h.cell0 hf i hx (by rw [hv];rfl),h.cell hf i 1 hx (by rw [hv];rfl),h.cell hf i 2 hx (by rw [hv];rfl),h.cell hf i 3 hx (by rw [hv];rfl),h.cell hf i 4 hx (by rw [hv];rfl),h.cell hf i 5 hx (by rw [hv];rfl),h.cell hf i 6 hx (by rw [hv];rfl),h.cell hf i 7 hx (by rw [hv];rfl),h.cell hf i 8 hx (by rw [hv];rfl),h.cell hf i 9 hx (by rw [hv];rfl)⟩
theorem SlR.fr {w':World} {S:Nat->Prop} (h:SlR w sz f v L) (hf:Fr S w w') (hn:∀ k,v.ownBlock=some k->¬ S k):SlR w' sz f v L:=by
 obtain ⟨a,cap,rfl,e,b,c⟩:=h;refine ⟨a,cap,rfl,e,b,fun hp=>?_⟩;obtain ⟨g,o,rfl,d⟩:=c hp;exact ⟨g,o,rfl,fun i x hx j u hu=>hf.cell (d i x hx j u hu) (hn g rfl)⟩
theorem SlR.fr0 {w':World} (h:SlR w sz f v L) (hf:Fr No w w'):SlR w' sz f v L:=h.fr hf fun _ _ h=>h
theorem SlR.alloc (h:SlR w sz f v L) (o:Obj):SlR (w.alloc o) sz f v L:=h.fr0 ((Fr.refl No w).alloc o)
theorem SlR.drew (h:SlR w sz f v L):SlR w.drew sz f v L:=h
theorem SlR.take {a:Option Addr} {cap:Nat} (_:∀ x,(f x).length=sz) (h:SlR w sz f (.slice a L.length cap) L) (k:Nat) (hk:k<=L.length):SlR w sz f (.slice a k cap) (L.take k):=by
 obtain ⟨n,b,c,q,d,e⟩:=h;simp only [Value.slice.injEq,true_and] at c;obtain ⟨rfl,rfl⟩:=c;have l:(L.take k).length=k:=by simp;omega
 refine ⟨a,cap,by rw [l],by omega,d,fun hp=>?_⟩;obtain ⟨g,o,j,m⟩:=e (by omega);refine ⟨g,o,j,fun i x hx=>m i x ?_⟩;have p:=(List.getElem?_eq_some_iff.1 hx).1;rw [List.getElem?_take_of_lt (by omega)] at hx;exact hx
theorem SlR.drop {g o cap:Nat} (_:∀ x,(f x).length=sz) (h:SlR w sz f (.slice (some ⟨g,o,none⟩) L.length cap) L) (k:Nat) (hk:k<=L.length) :
 SlR w sz f (.slice (if cap=k then some ⟨g,o,none⟩ else some ⟨g,o+k * sz,none⟩) (L.length-k) (cap-k)) (L.drop k):=by
 obtain ⟨n,a,c,r,m,d⟩:=h;simp only [Value.slice.injEq,true_and] at c;obtain ⟨rfl,rfl⟩:=c;have e:(L.drop k).length=L.length-k:=by simp
 refine ⟨_,_,by rw [e],by omega,by omega,fun hp=>?_⟩;obtain ⟨p,q,b,l⟩:=d (by omega);simp only [Option.some.injEq,Addr.mk.injEq,and_true] at b;obtain ⟨rfl,rfl⟩:=b;refine ⟨g,o+k * sz,by rw [if_neg (by omega)],fun i x hx j u hu=>?_⟩;rw [List.getElem?_drop] at hx;have:=l (k+i) x hx j u hu
 rwa [Nat.add_mul,<-Nat.add_assoc] at this
end
def clash (o p:Opr):Bool:=(p.kind==1&&p.rg.key.toList==o.rg.key.toList)||(p.kind==2&&inB o.rg.key p.rg.key p.rg.end_)
theorem zqh (w:World) (o p:Opr) (b:Nat) (hb:w.heap[b]?=some (.cells (opC o).toArray 94 (0,0))) :
 Calls Tryz.prog 128 #[opV p,.pointer (some ⟨b,0,none⟩)] w fun e w'=>e=.returned (.bool (clash o p))/\Fr No w w':=by
 obtain ⟨a,⟨f,n,i,q,t,r,j⟩,k,l⟩:=p;unfold opV clash;dsimp only;have g:=zaa hb;have m:w.cell? ⟨b,1,none⟩=some (.string o.rg.key):=by unfold World.cell?;simp only;rw [hb];rfl
 have s:=H_ hb;clear hb;by_cases h1:a=1
 · subst h1
   cases h2:(f.toList==o.rg.key.toList)
   · go_enter Tryz.func128,Tryz.ntmps128
     go_wp2;go_ret;exact ⟨by simp,(Fr.refl No w).alloc _⟩
   go_enter Tryz.func128,Tryz.ntmps128
   go_wp2;go_ret;exact ⟨by simp,(Fr.refl No w).alloc _⟩
 have d:(a==1)=false:=by simpa using h1
 by_cases h2:a=2
 · subst h2
   go_enter Tryz.func128,Tryz.ntmps128;go_wp2_with (go_at_call 129;refine (zyj _ _ _ _).mono ?_;rintro e w' ⟨rfl,rfl⟩);go_ret;exact ⟨by simp,(Fr.refl No w).alloc _⟩
 have c:(a==2)=false:=by simpa using h2
 go_enter Tryz.func128,Tryz.ntmps128;go_wp2;go_ret;exact ⟨by simp [d,c],(Fr.refl No w).alloc _⟩
def idxOp (P:Opr->Bool) (l:List Opr):Int:=if l.findIdx P=l.length then -1 else (l.findIdx P:Int)
theorem zig (w:World) (v:Value) (l:List Opr) (o:Opr) (b:Nat) (hb:w.heap[b]?=some (.cells (opC o).toArray 94 (0,0))) (hv:SlR w 10 opC v l) (hl:l.length<=1099511627) :
 Calls Tryz.prog 165 #[v,.func (.func 128) #[] #[.pointer (some ⟨b,0,none⟩)]] w fun e w'=>e=.returned (.int .i64 (idxOp (clash o) l))/\Fr No w w':=by
 obtain ⟨a,cap,rfl,C,G,B⟩:=hv.shape;have D:=H_ hv;clear hv;have F:=H_ B;clear B;have E:=H_ hb;clear hb;go_enter Tryz.func165,Tryz.ntmps165;go_wp2
 go_loopg [8] l.length (fun g s8 wr=>∃ i:Nat,s8=.int .i64 i/\i+g=l.length/\Hid (∀ j,j<i->∀ p,l[j]?=some p->clash o p=false)/\Hid (Fr No w wr))
 case atStart=>exact ⟨0,rfl,by simp,H_ (by simp),H_ (Fr.refl No w)⟩
 case round =>
  obtain ⟨i,rfl,S,u,m⟩:=hrel
  cases gk with
  | zero =>
    have s:¬ (i:Int)<(l.length:Int):=(by omega);go_wp2;go_ret;refine ⟨?_,m.out⟩
    have z:l.findIdx (clash o)=l.length:=by
     rw [List.findIdx_eq_length];intro x d;obtain ⟨j,n,rfl⟩:=List.getElem_of_mem d;exact u.out j (by omega) _ (List.getElem?_eq_getElem n)
    unfold idxOp;rw [if_pos z]
    rfl
  | succ g =>
    obtain ⟨O,go,rfl⟩:=F.out (by omega);obtain ⟨p,d⟩:∃ p,l[i]?=some p:=⟨_,List.getElem?_eq_getElem (by omega)⟩;have c:=D.out.fr0 m.out;have P:=c.cell0 zaf i d rfl;have M:=c.cell zaf i 1 d rfl;have J:=c.cell zaf i 2 d rfl;have N:=c.cell zaf i 3 d rfl;have Q:=c.cell zaf i 4 d rfl;have R:=c.cell zaf i 5 d rfl;have L:=c.cell zaf i 6 d rfl;have H:=c.cell zaf i 7 d rfl;have K:=c.cell zaf i 8 d rfl;have I:=c.cell zaf i 9 d rfl;have s:(i:Int)<(l.length:Int):=(by omega);have f:=zqh wr o p b (m.out.heap E.out id);unfold opV at f;cases hp:clash o p
    · rw [hp] at f
      have r:=H_ d;have t:=H_ hp;clear d hp c;go_wp2_with (go_at_call 128;refine f.mono ?_;rintro e w1 ⟨rfl,A⟩);go_roundg g
      case rel=>exact ⟨i+1,by go_num,by omega,H_ (fun j n q hq=>by
       by_cases hji:j=i
       · subst hji;rw [r.out] at hq;cases hq;exact t.out
       exact u.out j (by omega) q hq),H_ (m.out.trans0 A)⟩
      case measure=>omega
    rw [hp] at f
    have r:=H_ d;have t:=H_ hp;clear d hp c;go_wp2_with (go_at_call 128;refine f.mono ?_;rintro e w1 ⟨rfl,A⟩);go_ret;refine ⟨?_,m.out.trans0 A⟩
    have z:l.findIdx (clash o)=i:=by
     have k:i<l.length:=(by omega);rw [List.findIdx_eq k];have y:l[i]=p:=(List.getElem?_eq_some_iff.1 r.out).2;refine ⟨by rw [y];exact t.out,fun j n=>?_⟩;exact u.out j n _ (List.getElem?_eq_getElem (by omega))
    unfold idxOp;rw [z,if_neg (by omega)]
    rfl
theorem zdl (w:World) (v:Value) (l:List Opr) (o:Opr) (b:Nat) (hb:w.heap[b]?=some (.cells (opC o).toArray 94 (0,0))) (hv:SlR w 10 opC v l) (hl:l.length<=1099511627) :
 Calls Tryz.prog 130 #[v,.func (.func 128) #[] #[.pointer (some ⟨b,0,none⟩)]] w fun e w'=>e=.returned (.bool (l.any (clash o)))/\Fr No w w':=by
 have a:=zig w v l o b hb hv hl
 have d:(0<=idxOp (clash o) l/\l.any (clash o)=true)\/(¬ 0<=idxOp (clash o) l/\l.any (clash o)=false):=by
  unfold idxOp;by_cases h:l.findIdx (clash o)=l.length
  · rw [if_pos h]
    rw [List.findIdx_eq_length] at h;exact .inr ⟨by omega,by rw [List.any_eq_false];simpa using h⟩
  rw [if_neg h]
  refine .inl ⟨by omega,?_⟩;have c:l.findIdx (clash o)<l.length:=Nat.lt_of_le_of_ne List.findIdx_le_length h;rw [List.any_eq_true];exact ⟨_,List.getElem_mem c,List.findIdx_getElem⟩
 generalize idxOp (clash o) l=n at *;generalize l.any (clash o)=t at *;clear hv hb;rcases d with ⟨g,rfl⟩ | ⟨g,rfl⟩
 all_goals
  go_enter Tryz.func130,Tryz.ntmps130;go_wp2_with (go_at_call 165;refine a.mono ?_;rintro e w1 ⟨rfl,f⟩);go_ret;exact ⟨by first | rfl | (simp;omega),f⟩
def zdd (l:List Opr) (i:Nat):Bool:=match l[i]? with
 | some o=>o.kind==1&&((l.take i).any (clash o)||(l.drop (i+1)).any (clash o))
 | none=>false
def twice (l:List Opr):Bool:=(List.range l.length).any (zdd l)
def checkE (l:List Opr):Int:=if 16<l.length then 31 else match l.find? fun o=>oneE o != 0 with
 | some o=>oneE o
 | none=>if twice l then 34 else 0
set_option maxHeartbeats 4000000 in
theorem zez (w:World) (v:Value) (l:List Opr) (hv:SlR w 10 opC v l) (hl:l.length<=1099511627) (hks:∀ o∈l,o.rg.key.size<=1099511627776) :
 Calls Tryz.prog 83 #[v] w fun e w'=>e=.returned (.int .i64 (checkE l))/\Fr No w w':=by
 obtain ⟨a,cap,rfl,aF,aC,ha⟩:=hv.shape;have HV:=H_ hv;clear hv;have HA:=H_ ha;clear ha;have ad:=H_ hks;clear hks;by_cases h16:16<l.length
 · have a4:(16:Int)<(l.length:Int):=by omega
   have:checkE l=31:=(by unfold checkE;rw [if_pos h16]);rw [this];go_enter Tryz.func83,Tryz.ntmps83;go_wp2;go_ret;exact ⟨rfl,Fr.refl No w⟩
 have a4:¬ (16:Int)<(l.length:Int):=by omega
 have hE:checkE l=match l.find? fun o=>oneE o != 0 with
  | some o=>oneE o
  | none=>if twice l then 34 else 0:=by unfold checkE;rw [if_neg h16]
 have HE:=H_ hE;clear hE;go_enter Tryz.func83,Tryz.ntmps83;go_wp2
 go_loopg [14] l.length (fun g s14 wr=>∃ i:Nat,s14=.int .i64 i/\i+g=l.length/\Hid (∀ j,j<i->∀ p,l[j]?=some p->oneE p=0)/\Hid (Fr No w wr))
 case atStart=>exact ⟨0,rfl,by simp,H_ (by simp),H_ (Fr.refl No w)⟩
 case round =>
  obtain ⟨i,rfl,hi,X,y⟩:=hrel
  cases gk with
  | zero =>
    have T:¬ (i:Int)<(l.length:Int):=(by omega)
    have z:checkE l=if twice l then 34 else 0:=by
     rw [HE.out]
     have:l.find? (fun o=>oneE o != 0)=none:=by
      rw [List.find?_eq_none];intro x f;obtain ⟨j,R,rfl⟩:=List.getElem_of_mem f;have:=X.out j (by omega) _ (List.getElem?_eq_getElem R);simp [this]
     rw [this]
    have D:=H_ z;clear z;have ag:=y;clear X;have aL:∀ (fn:Fn) (first cap:Array Value) (w:World),(Instr.makeFunc fn first cap).run Tryz.prog w=.ok (.func fn first cap) w:=fun _ _ _ _=>rfl;go_wp2
    go_loopg [26] l.length (fun g s26 wr=>∃ i:Nat,s26=.int .i64 i/\i+g=l.length/\Hid (∀ j,j<i->zdd l j=false)/\Hid (Fr No w wr))
    case atStart=>exact ⟨0,rfl,by simp,H_ (by simp),ag⟩
    case round =>
     obtain ⟨i,rfl,hi,X,y⟩:=hrel
     cases gk with
     | zero =>
       have T:¬ (i:Int)<(l.length:Int):=(by omega)
       have a5:checkE l=0:=by
        rw [D.out]
        have:twice l=false:=by
         unfold twice;rw [List.any_eq_false];intro j R;simp at R;simpa using X.out j (by omega)
        rw [this];rfl
       have ai:=H_ a5;clear a5;go_wp2;go_ret;exact ⟨by rw [ai.out];rfl,y.out⟩
     | succ g =>
       obtain ⟨gb,go,rfl⟩:=HA.out (by omega);obtain ⟨p,f⟩:∃ p,l[i]?=some p:=⟨_,List.getElem?_eq_getElem (by omega)⟩;have c:=HV.out.fr0 y.out;have x0:=c.cell0 zaf i f rfl;have x1:=c.cell zaf i 1 f rfl;have x2:=c.cell zaf i 2 f rfl;have x3:=c.cell zaf i 3 f rfl;have x4:=c.cell zaf i 4 f rfl;have x5:=c.cell zaf i 5 f rfl;have x6:=c.cell zaf i 6 f rfl;have x7:=c.cell zaf i 7 f rfl;have x8:=c.cell zaf i 8 f rfl;have x9:=c.cell zaf i 9 f rfl;have T:(i:Int)<(l.length:Int):=(by omega);have a8:zdd l i=(p.kind==1&&((l.take i).any (clash p)||(l.drop (i+1)).any (clash p))):=(by unfold zdd;rw [f]);have a7:=H_ c;have a1:=H_ a8
       have L:∀ b:Bool,zdd l i=b->b=true->checkE l=34:=by
        intro b hb ae;rw [D.out,if_pos];unfold twice;rw [List.any_eq_true];exact ⟨i,by simp;omega,by rw [hb,ae]⟩
       have J:=H_ L;clear f c a8 L;obtain ⟨p1,⟨H,I,M,G,P,O,F⟩,N,K⟩:=p
       have C:∀ (wz:World),zdd l i=false->Fr No w wz->∃ k:Nat,Value.int .i64 ((i:Int)+1)=.int .i64 k/\k+g=l.length/\Hid (∀ j,j<k->zdd l j=false)/\Hid (Fr No w wz):=fun wz h r =>
        ⟨i+1,by go_num,by omega,H_ (fun j R=>by
          by_cases hji:j=i
          · subst hji;exact h
          exact X.out j (by omega)),H_ r⟩
       have HN:=H_ C;clear C;by_cases h1:p1=1
       · subst h1
         have aJ:(0:Int)<=(i:Int)+1:=(by omega);have aG:(i:Int)+1<=(l.length:Int):=(by omega);have af:i<=l.length:=(by omega);have aj:i+1<=l.length:=(by omega);have aB:(i:Int)<=(cap:Int):=(by omega);have av:i<=cap:=(by omega);have a2:=a7.out.take zaf i af;have a9:=a7.out.drop zaf (i+1) aj;have Z:=H_ a2;have U:=H_ a9;clear a2 a9;have a6:(l.take i).length=i:=(by simp;omega);have aa:(l.drop (i+1)).length=l.length-(i+1):=(by simp);have t:=fun W hb hv=>zdl W (.slice (some ⟨gb,go,none⟩) i cap) (l.take i) ⟨1,⟨H,I,M,G,P,O,F⟩,N,K⟩ wr.heap.size hb hv (by omega);have s:=fun W A hb hv=>zdl W (.slice A (l.length-(i+1)) (cap-(i+1))) (l.drop (i+1)) ⟨1,⟨H,I,M,G,P,O,F⟩,N,K⟩ wr.heap.size hb hv (by omega);have az:=H_ a6
         have aM:=H_ aa;clear a6 aa;generalize aK:(if cap=i+1 then some (⟨gb,go,none⟩:Addr) else some ⟨gb,go+(i+1) * 10,none⟩)=A1 at U;have d:=a1.out;simp only at d;cases ht1:(l.take i).any (clash ⟨1,⟨H,I,M,G,P,O,F⟩,N,K⟩)
         · rw [ht1] at t d
           have E:=H_ t;clear t ht1;cases ht2:(l.drop (i+1)).any (clash ⟨1,⟨H,I,M,G,P,O,F⟩,N,K⟩)
           · rw [ht2] at s d
             have Y:=H_ s;have n:=H_ d;clear s ht2 d
             go_wp2_with (first
              | (go_at_call 130;refine (E.out _ (zad _ _ _ rfl) (Z.out.alloc _)).mono ?_;rintro e w1 ⟨rfl,r⟩
                 have u:=r.heap (zad wr (.cells #[.int .i64 1,.string H,.string I,.int .i64 M,.int .i64 G,.bool P,.bool O,.bool F,.string N,.int .i64 K] 94) _ rfl) id;have B:=(U.out.alloc (.cells #[.int .i64 1,.string H,.string I,.int .i64 M,.int .i64 G,.bool P,.bool O,.bool F,.string N,.int .i64 K] 94)).fr0 r;have S:=H_ u;have V:=H_ B;clear u B)
              | (go_at_call 130;refine (Y.out _ _ S.out V.out).mono ?_;rintro e w2 ⟨rfl,Q⟩))
             go_roundg g
             case rel=>exact HN.out _ (by rw [n.out];rfl) (((y.out.alloc _).trans0 r).trans0 Q)
             case measure=>omega
           rw [ht2] at s d
           have Y:=H_ s;have n:=H_ d;clear s ht2 d
           go_wp2_with (first
            | (go_at_call 130;refine (E.out _ (zad _ _ _ rfl) (Z.out.alloc _)).mono ?_;rintro e w1 ⟨rfl,r⟩
               have u:=r.heap (zad wr (.cells #[.int .i64 1,.string H,.string I,.int .i64 M,.int .i64 G,.bool P,.bool O,.bool F,.string N,.int .i64 K] 94) _ rfl) id;have B:=(U.out.alloc (.cells #[.int .i64 1,.string H,.string I,.int .i64 M,.int .i64 G,.bool P,.bool O,.bool F,.string N,.int .i64 K] 94)).fr0 r;have S:=H_ u;have V:=H_ B;clear u B)
            | (go_at_call 130;refine (Y.out _ _ S.out V.out).mono ?_;rintro e w2 ⟨rfl,Q⟩))
           go_ret;exact ⟨by rw [J.out _ n.out rfl];rfl,((y.out.alloc _).trans0 r).trans0 Q⟩
         rw [ht1] at t d
         have E:=H_ t;have n:=H_ d;clear t ht1 s d;go_wp2_with (go_at_call 130;refine (E.out _ (zad _ _ _ rfl) (Z.out.alloc _)).mono ?_;rintro e w1 ⟨rfl,r⟩);go_ret;exact ⟨by rw [J.out _ n.out rfl];rfl,(y.out.alloc _).trans0 r⟩
       have ak:(p1==1)=false:=by simpa using h1
       go_wp2;go_roundg g
       case rel=>exact HN.out _ (by rw [a1.out,ak];rfl) (y.out.alloc _)
       case measure=>omega
  | succ g =>
    obtain ⟨gb,go,rfl⟩:=HA.out (by omega);obtain ⟨p,f⟩:∃ p,l[i]?=some p:=⟨_,List.getElem?_eq_getElem (by omega)⟩;have c:=HV.out.fr0 y.out;have x0:=c.cell0 zaf i f rfl;have x1:=c.cell zaf i 1 f rfl;have x2:=c.cell zaf i 2 f rfl;have x3:=c.cell zaf i 3 f rfl;have x4:=c.cell zaf i 4 f rfl;have x5:=c.cell zaf i 5 f rfl;have x6:=c.cell zaf i 6 f rfl;have x7:=c.cell zaf i 7 f rfl;have x8:=c.cell zaf i 8 f rfl;have x9:=c.cell zaf i 9 f rfl;have T:(i:Int)<(l.length:Int):=(by omega);have m:=fun W=>zuw W p (ad.out p (List.mem_of_getElem? f));unfold opV at m;by_cases hp:oneE p=0
    · rw [hp] at m
      have Hx:=H_ f;have Hp:=H_ hp;have Ho:=H_ m;clear f hp c m;go_wp2_with (go_at_call 127;refine (Ho.out _).mono ?_;rintro e w1 ⟨rfl,r⟩);go_roundg g
      case rel=>exact ⟨i+1,by go_num,by omega,H_ (fun j R q hq=>by
       by_cases hji:j=i
       · subst hji;rw [Hx.out] at hq;cases hq;exact Hp.out
       exact X.out j (by omega) q hq),H_ ((y.out.alloc _).trans0 r)⟩
      case measure=>omega
    have aD:(oneE p==0)=false:=by simpa using hp
    have z:checkE l=oneE p:=by
     rw [HE.out]
     have:l.find? (fun o=>oneE o != 0)=some p:=by
      rw [List.find?_eq_some_iff_getElem];have a3:i<l.length:=(by omega);refine ⟨by simpa using hp,i,a3,(List.getElem?_eq_some_iff.1 f).2,fun j R=>?_⟩;have:=X.out j R _ (List.getElem?_eq_getElem (by omega));simp [this]
     rw [this]
    have D:=H_ z;have Ho:=H_ m;generalize oneE p=ep at *;clear f hp c m z;go_wp2_with (go_at_call 127;refine (Ho.out _).mono ?_;rintro e w1 ⟨rfl,r⟩);go_ret;exact ⟨by rw [D.out];rfl,(y.out.alloc _).trans0 r⟩
structure Ans where
 kind:Int
 kvs:List Kv
 count:Int
 more:Bool
def ansC (q:Ans×Value):List Value:=[.int .i64 q.1.kind,q.2,.int .i64 q.1.count,.bool q.1.more]
theorem zbn (q:Ans×Value):(ansC q).length=4:=rfl
structure AnsR (w:World) (v:Value) (Z:List (Ans×Value)):Prop where
 sl:SlF w 97 4 ansC v Z
 kvs:∀ (i:Nat) (q:Ans×Value),Z[i]?=some q->SlF w 99 6 kvC q.2 q.1.kvs
 apart:∀ (i:Nat) (q:Ans×Value),Z[i]?=some q->∀ b,q.2.ownBlock=some b->v.ownBlock≠some b
def ansF (v:Value) (Z:List (Ans×Value)) (b:Nat):Prop:=v.ownBlock=some b\/∃ (i:Nat) (q:Ans×Value),Z[i]?=some q/\q.2.ownBlock=some b
theorem AnsR.nil (w:World):AnsR w (.slice none 0 0) []:=⟨SlF.nil _ _ _ _,by simp,by simp⟩
theorem AnsR.lt {w:World} {v:Value} {Z:List (Ans×Value)} (h:AnsR w v Z):∀ b,ansF v Z b->b<w.heap.size:=by
 rintro b (e | ⟨i,q,a,e⟩)
 · exact h.sl.lt b e
 exact (h.kvs i q a).lt b e
theorem AnsR.fr {w w':World} {v:Value} {Z:List (Ans×Value)} {S:Nat->Prop} (h:AnsR w v Z) (hf:Fr S w w') (hn:∀ b,ansF v Z b->¬ S b):AnsR w' v Z :=
 ⟨h.sl.fr hf fun b e=>hn b (.inl e),fun i q hq=>(h.kvs i q hq).fr hf fun b e=>hn b (.inr ⟨i,q,hq,e⟩),h.apart⟩
theorem AnsR.snoc {w w':World} {v v':Value} {Z:List (Ans×Value)} {a:Ans} {kv:Value} (h:AnsR w v Z) (hf:Fr (fun b=>v.ownBlock=some b) w w') (hs:SlF w' 97 4 ansC v' (Z++[(a,kv)]))
 (hk:SlF w 99 6 kvC kv a.kvs) (hd:∀ b,kv.ownBlock=some b->v.ownBlock≠some b) (hn:∀ b,v'.ownBlock=some b->v.ownBlock=some b\/w.heap.size<=b):AnsR w' v' (Z++[(a,kv)]):=by
 have key:∀ (i:Nat) (q:Ans×Value),(Z++[(a,kv)])[i]?=some q->(Z[i]?=some q)\/q=(a,kv):=by
  intro i q c;by_cases hi:i<Z.length
  · rw [List.getElem?_append_left hi] at c;exact .inl c
  rw [List.getElem?_append_right (by omega)] at c
  right
  have:i-Z.length=0:=by
   have:=(List.getElem?_eq_some_iff.1 c).1;simp at this;omega
  rw [this] at c;simpa using c.symm
 refine ⟨hs,fun i q c=>?_,fun i q c b hb e=>?_⟩
 · rcases key i q c with f | rfl
   · exact (h.kvs i q f).fr hf fun b e=>h.apart i q f b e
   exact hk.fr hf hd
 rcases key i q c with f | rfl
 · rcases hn b e with d | d
   · exact h.apart i q f b hb d
   have:=(h.kvs i q f).lt b hb;omega
 rcases hn b e with d | d
 · exact hd b hb d
 have:=hk.lt b hb;omega
def goneE (x:Kv) (rev:Int):Ev:=⟨2,⟨x.key,ByteArray.empty,0,rev,0,0⟩,x⟩
structure Run where
 S:St
 A:List Ans
 E:List Ev
def goneR (rev:Int) (r:St×List Kv×List Ev) (x:Kv):St×List Kv×List Ev:=(doS r.1 (goneE x rev),r.2.1++told (goneE x rev),r.2.2++[goneE x rev])
def stepR (rev:Int) (r:Run) (o:Opr):Run :=
 if o.kind=1 then ⟨doS r.S (zax r.S o rev),r.A++[⟨1,told (zax r.S o rev),(told (zax r.S o rev)).length,false⟩],r.E++[zax r.S o rev]⟩
 else if o.kind=2 then
  let q:=(zaz r.S o.rg.key o.rg.end_ rev).foldl (goneR rev) (r.S,[],r.E)
  ⟨q.1,r.A++[⟨2,q.2.1,q.2.1.length,false⟩],q.2.2⟩
 else if o.kind=3 then ⟨r.S,r.A++[⟨3,getL r.S o.rg rev,(allL r.S o.rg rev).length,moreB r.S o.rg rev⟩],r.E⟩
 else ⟨r.S,r.A++[⟨o.kind,[],0,false⟩],r.E⟩
def runR (rev:Int) (r:Run) (ops:List Opr):Run:=ops.foldl (stepR rev) r
def whenAll (S:St) (ops:List Opr):Int:=match ops.find? fun o=>o.kind==3&&whenE S o.rg.rev != 0 with
 | some o=>whenE S o.rg.rev
 | none=>0
def applyE (S:St) (ops:List Opr):Int:=if checkE ops≠0 then checkE ops else whenAll S ops
def applyS (S:St) (ops:List Opr):St :=
 let r:=runR (S.rev+1) ⟨S,[],[]⟩ ops
 if r.E = [] then r.S else { r.S with rev:=S.rev+1 }
end Go.Proofs.YthljnnjpmdgkoaaGreat