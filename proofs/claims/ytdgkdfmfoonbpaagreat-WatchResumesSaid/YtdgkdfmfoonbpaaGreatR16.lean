/- Own lemmas. -/
import Derived.Test.YtdgkdfmfoonbpaaGreatR15
import Derived.Test.YtdgkdfmfoonbpaaGreatR13
import Derived.Test.YtdgkdfmfoonbpaaGreatR00
namespace Go.Proofs.YtdgkdfmfoonbpaaGreat
open Go Go.Proofs Go.RowKit
set_option maxRecDepth 100000
structure LayR (TA:zai) (w:World) (s sb vb ab:Nat) (S:St) (F:Nat->Prop) (ev:Value) (E:List Ev) (kind:Int) (kv:Value) (L:List Kv) (count:Int) (more:Bool):Prop where
 store:zal TA w s S F
 box:Has w sb [.pointer (some ⟨s,0,none⟩)]
 evs:Has w vb [ev]
 evl:SlF w 72 13 evC ev E
 ans:Has w ab [.int .i64 kind,kv,.int .i64 count,.bool more]
 kvl:SlF w 70 6 kvC kv L
 f1:¬ F sb
 f2:¬ F vb
 f3:¬ F ab
 f4:∀ b,ev.ownBlock=some b->¬ F b
 f5:∀ b,kv.ownBlock=some b->¬ F b
 n1:sb≠vb
 n2:sb≠ab
 n3:vb≠ab
 e1:ev.ownBlock≠some sb
 e2:ev.ownBlock≠some vb
 e3:ev.ownBlock≠some ab
 k1:kv.ownBlock≠some sb
 k2:kv.ownBlock≠some vb
 k3:kv.ownBlock≠some ab
 ek:∀ b,ev.ownBlock=some b->kv.ownBlock≠some b
def told (x:Ev):List Kv:=if 0<x.prev.version then [x.prev] else []
set_option maxHeartbeats 4000000 in
theorem zma {TA:zai} {N:Nat} (hT:TreeOk TA N) {n:Nat} (hn:n<=1099511627) (w:World) (s sb vb ab:Nat) (S:St) (F:Nat->Prop) (ev:Value) (E:List Ev) (kind:Int) (kv:Value) (L:List Kv) (count:Int) (more:Bool)
 (a:LayR TA w s sb vb ab S F ev E kind kv L count more) (hok:StOk n S) (x:Ev) (hx:DoOk N S x) (hE:E.length<=1099511627) (hL:L.length<=1099511627) (hc0:0<=count) (hc1:count<=top) :
 Calls Tryz.prog 89 #[.pointer (some ⟨ab,0,none⟩),evV x,.pointer (some ⟨sb,0,none⟩),.pointer (some ⟨vb,0,none⟩)] w fun e w'=>(∃ v,e=.returned v) ∧
  ∃ F' ev' kv',LayR TA w' s sb vb ab (doS S x) F' ev' (E++[x]) kind kv' (L++told x) (count+(told x).length) more ∧
   Fr (fun b=>F b\/b=vb\/b=ab\/ev.ownBlock=some b\/kv.ownBlock=some b) w w'/\(∀ b,F' b->F b\/w.heap.size<=b)/\(∀ b,ev'.ownBlock=some b->ev.ownBlock=some b\/w.heap.size<=b) ∧
   (∀ b,kv'.ownBlock=some b->kv.ownBlock=some b\/w.heap.size<=b):=by
 have d:=H_ a;have HX:=H_ hx;have aF:=a.store.lt hT;have c0:=a.box.cell 0 rfl;have a9:=zae w (Obj.cells #[.int .i64 x.kind,.string x.kv.key,.string x.kv.value,.int .i64 x.kv.create,.int .i64 x.kv.mod,.int .i64 x.kv.version,.int .i64 x.kv.lease,.string x.prev.key,.string x.prev.value,.int .i64 x.prev.create,.int .i64 x.prev.mod,.int .i64 x.prev.version,.int .i64 x.prev.lease] 72) _ rfl;have y:Fr No w (w.alloc (Obj.cells #[.int .i64 x.kind,.string x.kv.key,.string x.kv.value,.int .i64 x.kv.create,.int .i64 x.kv.mod,.int .i64 x.kv.version,.int .i64 x.kv.lease,.string x.prev.key,.string x.prev.value,.int .i64 x.prev.create,.int .i64 x.prev.mod,.int .i64 x.prev.version,.int .i64 x.prev.lease] 72)):=(Fr.refl No w).alloc _;have bl:=a.box.lt;have bm:=a.evs.lt;have bk:=a.ans.lt
 have aP:¬ F w.heap.size:=fun h=>by have:=aF _ h;omega
 obtain ⟨i0,aB,aK,aL,aM⟩:=info_parts info73;obtain ⟨j0,aC,aH,aI,aJ⟩:=info_parts info57;unfold top at hc1;unfold evV;clear a hx;go_enter Tryz.func89,Tryz.ntmps89
 go_wp2_with (first
  | (go_at_call 86;refine (zpi hT hn _ s S F (d.out.store.fr0 hT y) hok x HX.out).mono ?_;rintro e w1 ⟨⟨v,rfl⟩,F1,Y,z,af⟩
     have r:=z.heap a9 aP;obtain ⟨k0,k1,k2,k3,k4,k5,k6,k7,k8,k9,aN,al,aO⟩:=cells13 r;have v1:w1.cell? ⟨vb,0,none⟩=some ev:=z.cell (y.cell0 (d.out.evs.cell 0 rfl)) d.out.f2;have t:=zav w1 [.int .i64 x.kind,.string x.kv.key,.string x.kv.value,.int .i64 x.kv.create,.int .i64 x.kv.mod,.int .i64 x.kv.version,.int .i64 x.kv.lease,.string x.prev.key,.string x.prev.value,.int .i64 x.prev.create,.int .i64 x.prev.mod,.int .i64 x.prev.version,.int .i64 x.prev.lease] 72 (0,0))
  | (at_builtin;refine zao rfl _ _ 41 rfl 72 i0 _ 13 136 Tryz.underlying41 aB aK aL aM rfl (by decide) ev E rfl (((d.out.evl.fr0 y).fr z d.out.f4).alloc _) w1.heap.size 1 x rfl t rfl ?c1 ?c2 ?c3 ?_))
 case c1=>intro u hu;simp [evC,kvC] at hu;rcases hu with rfl | rfl | rfl | rfl | rfl | rfl | rfl | rfl | rfl | rfl | rfl | rfl | rfl <;> rfl
 case c2=>unfold maxLen;omega
 case c3=>omega
 intro i W f G ag C a7 aW;have aY:w.heap.size+1<=w1.heap.size:=by have:=zac r;omega
 have A:Fr (fun b=>ev.ownBlock=some b) w1 G:=((Fr.refl _ w1).alloc _).grown C fun k hk=>.inl hk;have K:=d.out.evl.lt;have V:=d.out.kvl.lt
 have m:ev.ownBlock=some i\/w1.heap.size<=i:=by
  rcases a7 with h | h
  · exact .inl h
  right;have h':i=w1.heap.size+1:=by simpa using h
  omega
 have am:ev.ownBlock≠some w.heap.size:=fun h=>by have:=K _ h;omega
 have v2:=A.cell v1 d.out.e2;have aT:G.frozen? ⟨vb,0,none⟩=false:=A.free v1 (z.free (y.cell0 (d.out.evs.cell 0 rfl)) (y.free0 (d.out.evs.cell 0 rfl) (d.out.evs.free 0)) d.out.f2) d.out.e2;have aR:=A.cell al am;have T:=A.heap r am;have Q:=Y.lt hT;have aw:=H_ Y;have av:=H_ z;have a5:=H_ af;have ax:=H_ ag;have X:=H_ A;have ar:=H_ T;have aQ:vb≠w.heap.size:=by omega
 clear Y z af ag C a7 A r a9 k0 k1 k2 k3 k4 k5 k6 k7 k8 k9 aN al aO v1 t T;go_upto_if 16 with fail;have aZ:w1.heap.size<=G.heap.size:=X.out.size
 have o:∀ b,b<w.heap.size+1->¬ F b->¬ F1 b:=fun b hb hF h=>by
  rcases a5.out b h with h | h
  · exact hF h
  simp at h;omega
 have P:Fr (fun b=>b=vb) G (G.setCell ⟨vb,0,none⟩ (.slice (some ⟨i,W,none⟩) (E.length+1) f)):=(Fr.refl _ G).setAt 0 _;have ak:Fr F w w1:=(y.mono fun _ _ s=>s.elim).trans av.out fun _ _ h=>h;have Z:Fr (fun b=>F b\/ev.ownBlock=some b) w G:=(ak.mono fun _ _ h=>.inl h).trans X.out fun _ _ h=>.inr h
 have O:Fr (fun b=>F b\/b=vb\/ev.ownBlock=some b) w (G.setCell ⟨vb,0,none⟩ (.slice (some ⟨i,W,none⟩) (E.length+1) f)) :=
  (Z.mono fun b _ h=>h.elim .inl fun h=>.inr (.inr h)).trans P fun b _ h=>.inr (.inl h)
 have J:LayR TA (G.setCell ⟨vb,0,none⟩ (.slice (some ⟨i,W,none⟩) (E.length+1) f)) s sb vb ab (doS S x) F1 (.slice (some ⟨i,W,none⟩) (E.length+1) f) (E++[x]) kind kv L count more:={
  store:=(aw.out.fr hT X.out fun b hb e=>o b (by have:=K b e;omega) (d.out.f4 b e) hb).fr hT P fun b hb e=>o vb (by omega) d.out.f2 (by have e':b=vb:=e;rw [<-e'];exact hb)
  box:=d.out.box.fr O fun h=>h.elim d.out.f1 fun h=>h.elim d.out.n1 d.out.e1
  evs:=(d.out.evs.fr Z fun h=>h.elim d.out.f2 d.out.e2).set 0 _
  evl:=ax.out.other ⟨vb,0,none⟩ _ (by
   simp only [Value.ownBlock,ne_eq,Option.some.injEq];rintro rfl;rcases m with h | h
   · exact d.out.e2 h
   omega)
  ans:=d.out.ans.fr O fun h=>h.elim d.out.f3 fun h=>h.elim (fun h=>d.out.n3 h.symm) d.out.e3
  kvl:=d.out.kvl.fr O fun b hb h=>by
   rcases h with h | h | h
   · exact d.out.f5 b hb h
   · exact d.out.k2 (h▸hb)
   exact d.out.ek b h hb
  f1:=o sb (by omega) d.out.f1
  f2:=o vb (by omega) d.out.f2
  f3:=o ab (by omega) d.out.f3
  f4:=fun b hb h=>by
   obtain rfl:i=b:=by simpa [Value.ownBlock] using hb
   rcases m with I | I
   · exact o i (by have:=K i I;omega) (d.out.f4 i I) h
   have:=Q i h;omega
  f5:=fun b hb h=>o b (by have:=V b hb;omega) (d.out.f5 b hb) h
  n1:=d.out.n1
  n2:=d.out.n2
  n3:=d.out.n3
  e1:=by
   simp only [Value.ownBlock,ne_eq,Option.some.injEq];rintro rfl;rcases m with h | h
   · exact d.out.e1 h
   omega
  e2:=by
   simp only [Value.ownBlock,ne_eq,Option.some.injEq];rintro rfl;rcases m with h | h
   · exact d.out.e2 h
   omega
  e3:=by
   simp only [Value.ownBlock,ne_eq,Option.some.injEq];rintro rfl;rcases m with h | h
   · exact d.out.e3 h
   omega
  k1:=d.out.k1
  k2:=d.out.k2
  k3:=d.out.k3
  ek:=fun b hb h=>by
   obtain rfl:i=b:=by simpa [Value.ownBlock] using hb
   rcases m with I | I
   · exact d.out.ek i I h
   have:=V i h;omega }
 have a6:=P.heap ar.out (fun e=>aQ e.symm);have ai:(G.setCell ⟨vb,0,none⟩ (.slice (some ⟨i,W,none⟩) (E.length+1) f)).heap.size=G.heap.size:=by simp
 have b0:w1.heap.size<=(G.setCell ⟨vb,0,none⟩ (.slice (some ⟨i,W,none⟩) (E.length+1) f)).heap.size:=by omega
 clear ai;generalize G.setCell ⟨vb,0,none⟩ (.slice (some ⟨i,W,none⟩) (E.length+1) f)=j at *;have c:=H_ J;have a4:=H_ O;have l:=H_ a6;clear J O a6 P ak Z aR v2 aT
 have R:∀ b,F1 b->F b\/w.heap.size<=b:=fun b hb=>by
  rcases a5.out b hb with h | h
  · exact .inl h
  simp at h;exact .inr (by omega)
 have U:∀ b,(Value.slice (some ⟨i,W,none⟩) (E.length+1) f).ownBlock=some b->ev.ownBlock=some b\/w.heap.size<=b:=fun b hb=>by
  obtain rfl:i=b:=by simpa [Value.ownBlock] using hb
  rcases m with h | h
  · exact .inl h
  exact .inr (by omega)
 by_cases hv:0<x.prev.version
 · have g:told x = [x.prev]:=by unfold told;rw [if_pos hv]
   have a1:=c.out.ans.cell 1 rfl;have a2:=c.out.ans.cell 2 rfl;have f1:=c.out.ans.free 1;have f2:=c.out.ans.free 2;have aE:=c.out.kvl.lt;have ae:=c.out.ans.lt;have b9:=zac l.out;have q7:j.cell? ⟨w.heap.size,7,none⟩=some (.string x.prev.key):=(by simp [World.cell?,l.out]);have q8:j.cell? ⟨w.heap.size,8,none⟩=some (.string x.prev.value):=(by simp [World.cell?,l.out]);have q9:j.cell? ⟨w.heap.size,9,none⟩=some (.int .i64 x.prev.create):=(by simp [World.cell?,l.out]);have bn:j.cell? ⟨w.heap.size,10,none⟩=some (.int .i64 x.prev.mod):=(by simp [World.cell?,l.out]);have bo:j.cell? ⟨w.heap.size,11,none⟩=some (.int .i64 x.prev.version):=(by simp [World.cell?,l.out]);have bp:j.cell? ⟨w.heap.size,12,none⟩=some (.int .i64 x.prev.lease):=(by simp [World.cell?,l.out])
   have t:=zav j.drew [.string x.prev.key,.string x.prev.value,.int .i64 x.prev.create,.int .i64 x.prev.mod,.int .i64 x.prev.version,.int .i64 x.prev.lease] 70 (0,0);have D:=c.out.k3;have HT:=H_ g;clear g;go_wp2_with fail
   go_region_law (refine zfw rfl _ _ 74 rfl 70 j0 _ 6 64 Tryz.underlying74 aC aH aI aJ rfl (by decide) _ L rfl (c.out.kvl.fr0 ((Fr.refl No j).drew.alloc _)) j.heap.size 1 x.prev rfl t rfl (by intro u hu;simp [kvC] at hu;rcases hu with rfl | rfl | rfl | rfl | rfl | rfl <;> rfl) (by unfold maxLen;omega) (by omega) ?_;intro H o2 q w4 ah ad a8 aX;have B:Fr (fun k=>kv.ownBlock=some k) j w4:=((Fr.refl _ j).drew.alloc _).grown ad (fun k hk=>.inl hk);have b1:=B.cell a1 D;have bf:=B.free a1 f1 D;have b2:=B.cell a2 D;have b5:=B.free a2 f2 D;have ay:=H_ ah;have au:=H_ a8;have a3:=H_ B;clear ah ad a8 B)
   all_goals
    have b8:count+1<=1099511627777:=(by omega);go_wp2;refine bodyPost_end (results_none rfl _ _ _) rfl ?_
    have C:kv.ownBlock=some H\/j.heap.size<=H:=by
     rcases au.out with h | h
     · exact .inl h
     right
     have h':H=j.heap.size+1:=(by simpa using h);omega
    have az:∀ b,F1 b->b<j.heap.size:=fun b h=>by have:=Q b h;omega
    have aG:=c.out.evs.lt;have aA:=c.out.box.lt;have aa:=c.out.evl.lt
    have ng:∀ b,kv.ownBlock≠some b->b<j.heap.size->H≠b:=by
     rintro b I h2 rfl;rcases C with h | h
     · exact I h
     omega
    have M:Fr (fun b=>b=ab\/kv.ownBlock=some b) j ((w4.setCell ⟨ab,1,none⟩ (.slice (some ⟨H,o2,none⟩) (L.length+1) q)).setCell ⟨ab,2,none⟩ (.int .i64 (count+1))) :=
     ((a3.out.mono fun _ _ h=>.inr h).setCell (p:=⟨ab,1,none⟩) (.inl (.inl rfl)) _).setCell (p:=⟨ab,2,none⟩) (.inl (.inl rfl)) _
    have aD:∀ b,(Value.slice (some ⟨H,o2,none⟩) (L.length+1) q).ownBlock=some b->kv.ownBlock=some b\/w.heap.size<=b:=fun b hb=>by
     obtain rfl:H=b:=by simpa [Value.ownBlock] using hb
     rcases C with h | h
     · exact .inl h
     exact .inr (by omega)
    refine ⟨⟨_,rfl⟩,F1,_,.slice (some ⟨H,o2,none⟩) (L.length+1) q,{
     store:=c.out.store.fr hT M fun b hb h=>h.elim (fun h=>c.out.f3 (h▸hb)) fun h=>c.out.f5 b h hb
     box:=c.out.box.fr M fun h=>h.elim c.out.n2 c.out.k1
     evs:=c.out.evs.fr M fun h=>h.elim c.out.n3 c.out.k2
     evl:=c.out.evl.fr M fun b hb h=>h.elim (fun h=>c.out.e3 (h▸hb)) fun h=>c.out.ek b hb h
     ans:=by
      rw [HT.out];exact ((c.out.ans.fr a3.out D).set 1 (.slice (some ⟨H,o2,none⟩) (L.length+1) q)).set 2 (.int .i64 (count+1))
     kvl:=by
      rw [HT.out];have ao:=ng ab D ae;exact (ay.out.other ⟨ab,1,none⟩ _ (by simp [Value.ownBlock];exact ao)).other ⟨ab,2,none⟩ _ (by simp [Value.ownBlock];exact ao)
     f1:=c.out.f1
     f2:=c.out.f2
     f3:=c.out.f3
     f4:=c.out.f4
     f5:=fun b hb h=>by
      obtain rfl:H=b:=by simpa [Value.ownBlock] using hb
      rcases C with I | I
      · exact c.out.f5 H I h
      have:=az H h;omega
     n1:=c.out.n1
     n2:=c.out.n2
     n3:=c.out.n3
     e1:=c.out.e1
     e2:=c.out.e2
     e3:=c.out.e3
     k1:=by simp only [Value.ownBlock,ne_eq,Option.some.injEq];exact ng sb c.out.k1 aA
     k2:=by simp only [Value.ownBlock,ne_eq,Option.some.injEq];exact ng vb c.out.k2 aG
     k3:=by simp only [Value.ownBlock,ne_eq,Option.some.injEq];exact ng ab c.out.k3 ae
     ek:=fun b hb=>by
      simp only [Value.ownBlock,ne_eq,Option.some.injEq];exact ng b (c.out.ek b hb) (aa b hb) },?_,R,U,aD⟩
    refine (a4.out.mono fun b _ h=>h.elim .inl fun h=>h.elim (fun h=>.inr (.inl h)) fun h=>.inr (.inr (.inr (.inl h)))).trans M fun b _ h=>h.elim (fun h=>.inr (.inr (.inl h))) fun h=>.inr (.inr (.inr (.inr h)))
 have g:told x = []:=by unfold told;rw [if_neg hv]
 have HT:=H_ g;clear g;go_wp2;refine bodyPost_end (results_none rfl _ _ _) rfl ?_;exact ⟨⟨_,rfl⟩,F1,_,kv,by rw [HT.out];simpa using c.out,a4.out.mono fun b _ h=>h.elim .inl fun h=>h.elim (fun h=>.inr (.inl h)) fun h=>.inr (.inr (.inr (.inl h))),R,U,fun b hb=>.inl hb⟩
def st0:St:={ T:=[],past:=fun _=>none,next:=0,rev:=0,mark:=0,events:=[] }
theorem zfm {TA:zai} {N:Nat} (hT:TreeOk TA N) (w:World):Calls Tryz.prog 19 #[] w fun e w'=>∃ s,e=.returned (.pointer (some ⟨s,0,none⟩))/\∃ F,zal TA w' s st0 F/\Fr No w w'/\(∀ b,F b->w.heap.size<=b):=by
 have g:∀ w,(Instr.makeMap 109 none).run Tryz.prog w=.ok (.map (some w.heap.size)) (w.alloc (.map #[] 0)):=fun w=>run_makeMap 109 w;go_enter Tryz.func19,Tryz.ntmps19;go_wp2_with (go_at_call 49;refine (hT.new w).mono ?_;rintro e w1 ⟨t,rfl,c,f,d,j⟩);go_ret;have a:=hT.lt f;have k:=d.size;refine ⟨_,rfl,storeF (w1.heap.size+1) w1.heap.size (.slice none 0 0) c fun _ _=>False,⟨t,w1.heap.size,.slice none 0 0,fun _=>none,c,fun _ _=>False,?_,fun _=>Iff.rfl⟩,(d.alloc _).alloc _,?_⟩
 · exact {
    obj:=⟨111,zae _ _ _ (by simp)⟩
    tree:=hT.fr f (((Fr.refl No w1).alloc _).alloc _) fun _ _ s=>s
    map:=(MapAt.made w1).alloc _
    events:=SlF.nil _ _ _ _
    hist:=fun i H h=>by simp [st0] at h
    gone:=fun i h=>⟨rfl,fun _ h=>h⟩
    ds:=⟨fun h=>by have:=a _ h;omega,by simp [Value.ownBlock],fun _ h=>h⟩
    dp:=⟨fun h=>by have:=a _ h;omega,by simp [Value.ownBlock],fun _ h=>h⟩
    dt:=fun b hb=>⟨by simp [Value.ownBlock],fun _ h=>h⟩
    de:=fun b hb=>by simp [Value.ownBlock] at hb
    dh:=fun _ _ _ h=>h.elim }
 rintro b (rfl | rfl | h | h | ⟨_,h⟩)
 · omega
 · omega
 · exact j b h
 · simp [Value.ownBlock] at h
 exact h.elim
theorem zdc {TA:zai} (w:World) (s:Nat) (S:St) (F:Nat->Prop) (hS:zal TA w s S F):Calls Tryz.prog 40 #[.pointer (some ⟨s,0,none⟩)] w fun e w'=>e=.returned (.int .i64 S.rev)/\w=w':=by
 obtain ⟨t,p,f,g,c,b,a,hF⟩:=hS;have d:=a.obj.cell 3 rfl;have i:=a.obj.lt;clear a;go_enter Tryz.func40,Tryz.ntmps40;go_wp2;go_ret;exact ⟨rfl,rfl⟩
def whenE (S:St) (rev:Int):Int:=if S.rev<rev then 33 else if rev≠0/\rev<S.mark then 32 else 0
theorem zde {TA:zai} (w:World) (s:Nat) (S:St) (F:Nat->Prop) (hS:zal TA w s S F) (rev:Int):Calls Tryz.prog 77 #[.pointer (some ⟨s,0,none⟩),.int .i64 rev] w fun e w'=>e=.returned (.int .i64 (whenE S rev))/\w=w':=by
 obtain ⟨t,p,j,k,f,d,a,hF⟩:=hS;have g:=a.obj.cell 3 rfl;have i:=a.obj.cell 4 rfl;have l:=a.obj.lt;unfold whenE;clear a;by_cases h1:S.rev<rev
 · rw [if_pos h1]
   go_enter Tryz.func77,Tryz.ntmps77;go_wp2;go_ret;exact ⟨rfl,rfl⟩
 rw [if_neg h1]
 have b:rev<=S.rev:=(by omega);by_cases h2:rev=0
 · subst h2
   go_enter Tryz.func77,Tryz.ntmps77;go_wp2;go_ret;exact ⟨by simp,rfl⟩
 have c:(rev==0)=false:=by simpa using h2
 by_cases h3:rev<S.mark
 · rw [if_pos ⟨h2,h3⟩]
   go_enter Tryz.func77,Tryz.ntmps77;go_wp2;go_ret;exact ⟨rfl,rfl⟩
 rw [if_neg (fun h=>h3 h.2)]
 go_enter Tryz.func77,Tryz.ntmps77;go_wp2;go_ret;exact ⟨rfl,rfl⟩
theorem zpx {TA:zai} (w:World) (s:Nat) (S:St) (F:Nat->Prop) (hS:zal TA w s S F) (v:Value) (hr:S.rev<top):Calls Tryz.prog 88 #[.pointer (some ⟨s,0,none⟩),v] w fun e w'=>e=.returned (.bool true)/\Fr No w w':=by
 obtain ⟨t,p,g,i,d,c,a,hF⟩:=hS;have f:=a.obj.cell 3 rfl;have j:=a.obj.lt;have b:∀ (fn:Fn) (first cap:Array Value) (w:World),(Instr.makeFunc fn first cap).run Tryz.prog w=.ok (.func fn first cap) w:=fun _ _ _ _=>rfl;unfold top at hr;clear a;go_enter Tryz.func88,Tryz.ntmps88;go_wp2;go_ret;exact ⟨rfl,(Fr.refl No w).alloc _⟩
def revOf (g:Rg) (rev:Int):Int:=if g.rev≠0 then g.rev else rev
def allL (S:St) (g:Rg) (rev:Int):List Kv:=zaz S g.key g.end_ (revOf g rev)
def moreB (S:St) (g:Rg) (rev:Int):Bool:=!g.count&&decide (0<g.limit)&&decide (g.limit<(allL S g rev).length)
def cutL (g:Rg) (more:Bool) (l:List Kv):List Kv:=if more then l.take g.limit.toNat else l
def getL (S:St) (g:Rg) (rev:Int):List Kv :=
 if g.count then [] else
  let l:=cutL g (moreB S g rev) (if g.desc then (allL S g rev).reverse else allL S g rev)
  if g.keys then l.map fun x=>{ x with value:=ByteArray.empty } else l
def SlR {α:Type} (w:World) (sz:Nat) (f:α->List Value) (v:Value) (L:List α):Prop :=
 ∃ a cap,v=.slice a L.length cap/\L.length<=cap/\cap<=maxLen ∧
  (0<L.length->∃ g o,a=some ⟨g,o,none⟩/\∀ (i:Nat) (x:α),L[i]?=some x->∀ (j:Nat) (u:Value),(f x)[j]?=some u->w.cell? ⟨g,o+i * sz+j,none⟩=some u)
section
variable {α:Type} {f:α->List Value} {w:World} {e sz:Nat} {v:Value} {L:List α}
theorem SlF.toR (hf:∀ x,(f x).length=sz) (h:SlF w e sz f v L):SlR w sz f v L:=by
 obtain ⟨a,cap,rfl,b,c,d⟩:=h.shape;refine ⟨a,cap,rfl,b,c,fun hp=>?_⟩;obtain ⟨g,o,rfl⟩:=d hp;exact ⟨g,o,rfl,fun i x hx j u hu=>h.cell hf i j hx hu⟩
theorem SlR.nil (w:World) (sz:Nat) (f:α->List Value):SlR w sz f (.slice none 0 0) []:=⟨none,0,rfl,Nat.le_refl _,by simp,fun h=>by simp at h⟩
theorem SlR.shape (h:SlR w sz f v L):∃ a cap,v=.slice a L.length cap/\L.length<=cap/\cap<=maxLen/\(0<L.length->∃ g o,a=some ⟨g,o,none⟩):=by
 obtain ⟨a,cap,rfl,b,c,d⟩:=h;exact ⟨a,cap,rfl,b,c,fun hp=>by obtain ⟨g,o,e,_⟩:=d hp;exact ⟨g,o,e⟩⟩
theorem SlR.cell {g o cap:Nat} (_:∀ x,(f x).length=sz) (h:SlR w sz f (.slice (some ⟨g,o,none⟩) L.length cap) L) (i j:Nat) {x:α} {u:Value} (hx:L[i]?=some x) (hu:(f x)[j]?=some u) :
 w.cell? ⟨g,o+i * sz+j,none⟩=some u:=by
 obtain ⟨a,b,d,m,n,e⟩:=h;have q:=(List.getElem?_eq_some_iff.1 hx).1;obtain ⟨l,r,c,k⟩:=e (by omega);simp only [Value.slice.injEq,true_and] at d;obtain ⟨rfl,rfl⟩:=d;simp only [Option.some.injEq,Addr.mk.injEq,and_true] at c;obtain ⟨rfl,rfl⟩:=c;exact k i x hx j u hu
theorem SlR.cell0 {g o cap:Nat} (hf:∀ x,(f x).length=sz) (h:SlR w sz f (.slice (some ⟨g,o,none⟩) L.length cap) L) (i:Nat) {x:α} {u:Value} (hx:L[i]?=some x) (hu:(f x)[0]?=some u) :
 w.cell? ⟨g,o+i * sz,none⟩=some u:=h.cell hf i 0 hx hu
theorem SlR.fr {w':World} {S:Nat->Prop} (h:SlR w sz f v L) (hf:Fr S w w') (hn:∀ k,v.ownBlock=some k->¬ S k):SlR w' sz f v L:=by
 obtain ⟨a,cap,rfl,b,c,d⟩:=h;refine ⟨a,cap,rfl,b,c,fun hp=>?_⟩;obtain ⟨g,o,rfl,e⟩:=d hp;exact ⟨g,o,rfl,fun i x hx j u hu=>hf.cell (e i x hx j u hu) (hn g rfl)⟩
theorem SlR.fr0 {w':World} (h:SlR w sz f v L) (hf:Fr No w w'):SlR w' sz f v L:=h.fr hf fun _ _ h=>h
theorem SlR.alloc (h:SlR w sz f v L) (o:Obj):SlR (w.alloc o) sz f v L:=h.fr0 ((Fr.refl No w).alloc o)
theorem SlR.take {a:Option Addr} {cap:Nat} (_:∀ x,(f x).length=sz) (h:SlR w sz f (.slice a L.length cap) L) (k:Nat) (hk:k<=L.length):SlR w sz f (.slice a k cap) (L.take k):=by
 obtain ⟨n,b,c,q,d,e⟩:=h;simp only [Value.slice.injEq,true_and] at c;obtain ⟨rfl,rfl⟩:=c;have m:(L.take k).length=k:=by simp;omega
 refine ⟨a,cap,by rw [m],by omega,d,fun hp=>?_⟩;obtain ⟨g,o,j,l⟩:=e (by omega);refine ⟨g,o,j,fun i x hx=>l i x ?_⟩;have r:=(List.getElem?_eq_some_iff.1 hx).1;rw [List.getElem?_take_of_lt (by omega)] at hx;exact hx
theorem SlR.drop {g o cap:Nat} (_:∀ x,(f x).length=sz) (h:SlR w sz f (.slice (some ⟨g,o,none⟩) L.length cap) L) (k:Nat) (hk:k<=L.length) :
 SlR w sz f (.slice (if cap=k then some ⟨g,o,none⟩ else some ⟨g,o+k * sz,none⟩) (L.length-k) (cap-k)) (L.drop k):=by
 obtain ⟨m,a,c,q,r,d⟩:=h;simp only [Value.slice.injEq,true_and] at c;obtain ⟨rfl,rfl⟩:=c;have l:(L.drop k).length=L.length-k:=by simp
 refine ⟨_,_,by rw [l],by omega,by omega,fun hp=>?_⟩;obtain ⟨n,s,b,e⟩:=d (by omega);simp only [Option.some.injEq,Addr.mk.injEq,and_true] at b;obtain ⟨rfl,rfl⟩:=b;refine ⟨g,o+k * sz,by rw [if_neg (by omega)],fun i x hx j u hu=>?_⟩;rw [List.getElem?_drop] at hx;have:=e (k+i) x hx j u hu
 rwa [Nat.add_mul,<-Nat.add_assoc] at this
end
def clash (o p:Opr):Bool:=(p.kind==1&&p.rg.key.toList==o.rg.key.toList)||(p.kind==2&&inB o.rg.key p.rg.key p.rg.end_)
theorem zoc (w:World) (o p:Opr) (b:Nat) (hb:w.heap[b]?=some (.cells (opC o).toArray 139 (0,0))) :
 Calls Tryz.prog 112 #[opV p,.pointer (some ⟨b,0,none⟩)] w fun e w'=>e=.returned (.bool (clash o p))/\Fr No w w':=by
 obtain ⟨a,⟨f,i,j,k,l,m,n⟩,r,s⟩:=p;unfold opV clash;dsimp only;have g:=zac hb;have t:w.cell? ⟨b,1,none⟩=some (.string o.rg.key):=by unfold World.cell?;simp only;rw [hb];rfl
 have q:=H_ hb;clear hb;by_cases h1:a=1
 · subst h1
   cases h2:(f.toList==o.rg.key.toList)
   · go_enter Tryz.func112,Tryz.ntmps112
     go_wp2;go_ret;exact ⟨by simp,(Fr.refl No w).alloc _⟩
   go_enter Tryz.func112,Tryz.ntmps112
   go_wp2;go_ret;exact ⟨by simp,(Fr.refl No w).alloc _⟩
 have c:(a==1)=false:=by simpa using h1
 by_cases h2:a=2
 · subst h2
   go_enter Tryz.func112,Tryz.ntmps112;go_wp2_with (go_at_call 75;refine (zpl _ _ _ _).mono ?_;rintro e w' ⟨rfl,rfl⟩);go_ret;exact ⟨by simp,(Fr.refl No w).alloc _⟩
 have d:(a==2)=false:=by simpa using h2
 go_enter Tryz.func112,Tryz.ntmps112;go_wp2;go_ret;exact ⟨by simp [c,d],(Fr.refl No w).alloc _⟩
def idxOp (P:Opr->Bool) (l:List Opr):Int:=if l.findIdx P=l.length then -1 else (l.findIdx P:Int)
theorem zhg (w:World) (v:Value) (l:List Opr) (o:Opr) (b:Nat) (hb:w.heap[b]?=some (.cells (opC o).toArray 139 (0,0))) (hv:SlR w 10 opC v l) (hl:l.length<=1099511627) :
 Calls Tryz.prog 144 #[v,.func (.func 112) #[] #[.pointer (some ⟨b,0,none⟩)]] w fun e w'=>e=.returned (.int .i64 (idxOp (clash o) l))/\Fr No w w':=by
 obtain ⟨a,cap,rfl,F,G,B⟩:=hv.shape;have E:=H_ hv;clear hv;have C:=H_ B;clear B;have D:=H_ hb;clear hb;go_enter Tryz.func144,Tryz.ntmps144;go_wp2
 go_loopg [8] l.length (fun g s8 wr=>∃ i:Nat,s8=.int .i64 i/\i+g=l.length/\Hid (∀ j,j<i->∀ p,l[j]?=some p->clash o p=false)/\Hid (Fr No w wr))
 case atStart=>exact ⟨0,rfl,by simp,H_ (by simp),H_ (Fr.refl No w)⟩
 case round =>
  obtain ⟨i,rfl,I,r,k⟩:=hrel
  cases gk with
  | zero =>
    have z:¬ (i:Int)<(l.length:Int):=(by omega);go_wp2;go_ret;refine ⟨?_,k.out⟩
    have A:l.findIdx (clash o)=l.length:=by
     rw [List.findIdx_eq_length];intro x d;obtain ⟨j,n,rfl⟩:=List.getElem_of_mem d;exact r.out j (by omega) _ (List.getElem?_eq_getElem n)
    unfold idxOp;rw [if_pos A]
    rfl
  | succ g =>
    obtain ⟨H,go,rfl⟩:=C.out (by omega);obtain ⟨p,d⟩:∃ p,l[i]?=some p:=⟨_,List.getElem?_eq_getElem (by omega)⟩;have c:=E.out.fr0 k.out;have J:=c.cell0 zaf i d rfl;have K:=c.cell zaf i 1 d rfl;have L:=c.cell zaf i 2 d rfl;have M:=c.cell zaf i 3 d rfl;have N:=c.cell zaf i 4 d rfl;have O:=c.cell zaf i 5 d rfl;have P:=c.cell zaf i 6 d rfl;have Q:=c.cell zaf i 7 d rfl;have R:=c.cell zaf i 8 d rfl;have S:=c.cell zaf i 9 d rfl;have z:(i:Int)<(l.length:Int):=(by omega);have f:=zoc wr o p b (k.out.heap D.out id);unfold opV at f;cases hp:clash o p
    · rw [hp] at f
      have t:=H_ d;have s:=H_ hp;clear d hp c;go_wp2_with (go_at_call 112;refine f.mono ?_;rintro e w1 ⟨rfl,u⟩);go_roundg g
      case rel=>exact ⟨i+1,by go_num,by omega,H_ (fun j n q hq=>by
       by_cases hji:j=i
       · subst hji;rw [t.out] at hq;cases hq;exact s.out
       exact r.out j (by omega) q hq),H_ (k.out.trans0 u)⟩
      case measure=>omega
    rw [hp] at f
    have t:=H_ d;have s:=H_ hp;clear d hp c;go_wp2_with (go_at_call 112;refine f.mono ?_;rintro e w1 ⟨rfl,u⟩);go_ret;refine ⟨?_,k.out.trans0 u⟩
    have A:l.findIdx (clash o)=i:=by
     have m:i<l.length:=(by omega);rw [List.findIdx_eq m];have y:l[i]=p:=(List.getElem?_eq_some_iff.1 t.out).2;refine ⟨by rw [y];exact s.out,fun j n=>?_⟩;exact r.out j n _ (List.getElem?_eq_getElem (by omega))
    unfold idxOp;rw [A,if_neg (by omega)]
    rfl
theorem zcr (w:World) (v:Value) (l:List Opr) (o:Opr) (b:Nat) (hb:w.heap[b]?=some (.cells (opC o).toArray 139 (0,0))) (hv:SlR w 10 opC v l) (hl:l.length<=1099511627) :
 Calls Tryz.prog 113 #[v,.func (.func 112) #[] #[.pointer (some ⟨b,0,none⟩)]] w fun e w'=>e=.returned (.bool (l.any (clash o)))/\Fr No w w':=by
 have a:=zhg w v l o b hb hv hl
 have f:(0<=idxOp (clash o) l/\l.any (clash o)=true)\/(¬ 0<=idxOp (clash o) l/\l.any (clash o)=false):=by
  unfold idxOp;by_cases h:l.findIdx (clash o)=l.length
  · rw [if_pos h]
    rw [List.findIdx_eq_length] at h;exact .inr ⟨by omega,by rw [List.any_eq_false];simpa using h⟩
  rw [if_neg h]
  refine .inl ⟨by omega,?_⟩;have c:l.findIdx (clash o)<l.length:=Nat.lt_of_le_of_ne List.findIdx_le_length h;rw [List.any_eq_true];exact ⟨_,List.getElem_mem c,List.findIdx_getElem⟩
 generalize idxOp (clash o) l=n at *;generalize l.any (clash o)=t at *;clear hv hb;rcases f with ⟨d,rfl⟩ | ⟨d,rfl⟩
 all_goals
  go_enter Tryz.func113,Tryz.ntmps113;go_wp2_with (go_at_call 144;refine a.mono ?_;rintro e w1 ⟨rfl,g⟩);go_ret;exact ⟨by first | rfl | (simp;omega),g⟩
def zen (l:List Opr) (i:Nat):Bool:=match l[i]? with
 | some o=>o.kind==1&&((l.take i).any (clash o)||(l.drop (i+1)).any (clash o))
 | none=>false
def twice (l:List Opr):Bool:=(List.range l.length).any (zen l)
def checkE (l:List Opr):Int:=if 16<l.length then 31 else match l.find? fun o=>oneE o != 0 with
 | some o=>oneE o
 | none=>if twice l then 34 else 0
set_option maxHeartbeats 4000000 in
theorem ziv (w:World) (v:Value) (l:List Opr) (hv:SlR w 10 opC v l) (hl:l.length<=1099511627) (hks:∀ o∈l,o.rg.key.size<=1099511627776) :
 Calls Tryz.prog 87 #[v] w fun e w'=>e=.returned (.int .i64 (checkE l))/\Fr No w w':=by
 obtain ⟨a,cap,rfl,az,aA,ha⟩:=hv.shape;have HV:=H_ hv;clear hv;have HA:=H_ ha;clear ha;have af:=H_ hks;clear hks;by_cases h16:16<l.length
 · have a2:(16:Int)<(l.length:Int):=by omega
   have:checkE l=31:=(by unfold checkE;rw [if_pos h16]);rw [this];go_enter Tryz.func87,Tryz.ntmps87;go_wp2;go_ret;exact ⟨rfl,Fr.refl No w⟩
 have a2:¬ (16:Int)<(l.length:Int):=by omega
 have hE:checkE l=match l.find? fun o=>oneE o != 0 with
  | some o=>oneE o
  | none=>if twice l then 34 else 0:=by unfold checkE;rw [if_neg h16]
 have HE:=H_ hE;clear hE;go_enter Tryz.func87,Tryz.ntmps87;go_wp2
 go_loopg [14] l.length (fun g s14 wr=>∃ i:Nat,s14=.int .i64 i/\i+g=l.length/\Hid (∀ j,j<i->∀ p,l[j]?=some p->oneE p=0)/\Hid (Fr No w wr))
 case atStart=>exact ⟨0,rfl,by simp,H_ (by simp),H_ (Fr.refl No w)⟩
 case round =>
  obtain ⟨i,rfl,hi,S,u⟩:=hrel
  cases gk with
  | zero =>
    have Y:¬ (i:Int)<(l.length:Int):=(by omega)
    have y:checkE l=if twice l then 34 else 0:=by
     rw [HE.out]
     have:l.find? (fun o=>oneE o != 0)=none:=by
      rw [List.find?_eq_none];intro x f;obtain ⟨j,Z,rfl⟩:=List.getElem_of_mem f;have:=S.out j (by omega) _ (List.getElem?_eq_getElem Z);simp [this]
     rw [this]
    have E:=H_ y;clear y;have ae:=u;clear S;have aG:∀ (fn:Fn) (first cap:Array Value) (w:World),(Instr.makeFunc fn first cap).run Tryz.prog w=.ok (.func fn first cap) w:=fun _ _ _ _=>rfl;go_wp2
    go_loopg [26] l.length (fun g s26 wr=>∃ i:Nat,s26=.int .i64 i/\i+g=l.length/\Hid (∀ j,j<i->zen l j=false)/\Hid (Fr No w wr))
    case atStart=>exact ⟨0,rfl,by simp,H_ (by simp),ae⟩
    case round =>
     obtain ⟨i,rfl,hi,S,u⟩:=hrel
     cases gk with
     | zero =>
       have Y:¬ (i:Int)<(l.length:Int):=(by omega)
       have a3:checkE l=0:=by
        rw [E.out]
        have:twice l=false:=by
         unfold twice;rw [List.any_eq_false];intro j Z;simp at Z;simpa using S.out j (by omega)
        rw [this];rfl
       have ad:=H_ a3;clear a3;go_wp2;go_ret;exact ⟨by rw [ad.out];rfl,u.out⟩
     | succ g =>
       obtain ⟨gb,go,rfl⟩:=HA.out (by omega);obtain ⟨p,f⟩:∃ p,l[i]?=some p:=⟨_,List.getElem?_eq_getElem (by omega)⟩;have c:=HV.out.fr0 u.out;have x0:=c.cell0 zaf i f rfl;have x1:=c.cell zaf i 1 f rfl;have x2:=c.cell zaf i 2 f rfl;have x3:=c.cell zaf i 3 f rfl;have x4:=c.cell zaf i 4 f rfl;have x5:=c.cell zaf i 5 f rfl;have x6:=c.cell zaf i 6 f rfl;have x7:=c.cell zaf i 7 f rfl;have x8:=c.cell zaf i 8 f rfl;have x9:=c.cell zaf i 9 f rfl;have Y:(i:Int)<(l.length:Int):=(by omega);have a9:zen l i=(p.kind==1&&((l.take i).any (clash p)||(l.drop (i+1)).any (clash p))):=(by unfold zen;rw [f]);have a1:=H_ c;have a0:=H_ a9
       have N:∀ b:Bool,zen l i=b->b=true->checkE l=34:=by
        intro b hb ai;rw [E.out,if_pos];unfold twice;rw [List.any_eq_true];exact ⟨i,by simp;omega,by rw [hb,ai]⟩
       have F:=H_ N;clear f c a9 N;obtain ⟨p1,⟨G,H,I,J,K,L,M⟩,O,P⟩:=p
       have B:∀ (wz:World),zen l i=false->Fr No w wz->∃ k:Nat,Value.int .i64 ((i:Int)+1)=.int .i64 k/\k+g=l.length/\Hid (∀ j,j<k->zen l j=false)/\Hid (Fr No w wz):=fun wz h s =>
        ⟨i+1,by go_num,by omega,H_ (fun j Z=>by
          by_cases hji:j=i
          · subst hji;exact h
          exact S.out j (by omega)),H_ s⟩
       have HN:=H_ B;clear B;by_cases h1:p1=1
       · subst h1
         have aC:(0:Int)<=(i:Int)+1:=(by omega);have aD:(i:Int)+1<=(l.length:Int):=(by omega);have aj:i<=l.length:=(by omega);have ak:i+1<=l.length:=(by omega);have aE:(i:Int)<=(cap:Int):=(by omega);have aF:i<=cap:=(by omega);have a8:=a1.out.take zaf i aj;have a7:=a1.out.drop zaf (i+1) ak;have V:=H_ a8;have U:=H_ a7;clear a8 a7;have aa:(l.take i).length=i:=(by simp;omega);have a5:(l.drop (i+1)).length=l.length-(i+1):=(by simp);have t:=fun W hb hv=>zcr W (.slice (some ⟨gb,go,none⟩) i cap) (l.take i) ⟨1,⟨G,H,I,J,K,L,M⟩,O,P⟩ wr.heap.size hb hv (by omega);have r:=fun W A hb hv=>zcr W (.slice A (l.length-(i+1)) (cap-(i+1))) (l.drop (i+1)) ⟨1,⟨G,H,I,J,K,L,M⟩,O,P⟩ wr.heap.size hb hv (by omega);have av:=H_ aa
         have au:=H_ a5;clear aa a5;generalize ay:(if cap=i+1 then some (⟨gb,go,none⟩:Addr) else some ⟨gb,go+(i+1) * 10,none⟩)=A1 at U;have d:=a0.out;simp only at d;cases ht1:(l.take i).any (clash ⟨1,⟨G,H,I,J,K,L,M⟩,O,P⟩)
         · rw [ht1] at t d
           have D:=H_ t;clear t ht1;cases ht2:(l.drop (i+1)).any (clash ⟨1,⟨G,H,I,J,K,L,M⟩,O,P⟩)
           · rw [ht2] at r d
             have R:=H_ r;have n:=H_ d;clear r ht2 d
             go_wp2_with (first
              | (go_at_call 113;refine (D.out _ (zae _ _ _ rfl) (V.out.alloc _)).mono ?_;rintro e w1 ⟨rfl,s⟩
                 have z:=s.heap (zae wr (.cells #[.int .i64 1,.string G,.string H,.int .i64 I,.int .i64 J,.bool K,.bool L,.bool M,.string O,.int .i64 P] 139) _ rfl) id;have C:=(U.out.alloc (.cells #[.int .i64 1,.string G,.string H,.int .i64 I,.int .i64 J,.bool K,.bool L,.bool M,.string O,.int .i64 P] 139)).fr0 s;have Q:=H_ z;have T:=H_ C;clear z C)
              | (go_at_call 113;refine (R.out _ _ Q.out T.out).mono ?_;rintro e w2 ⟨rfl,X⟩))
             go_roundg g
             case rel=>exact HN.out _ (by rw [n.out];rfl) (((u.out.alloc _).trans0 s).trans0 X)
             case measure=>omega
           rw [ht2] at r d
           have R:=H_ r;have n:=H_ d;clear r ht2 d
           go_wp2_with (first
            | (go_at_call 113;refine (D.out _ (zae _ _ _ rfl) (V.out.alloc _)).mono ?_;rintro e w1 ⟨rfl,s⟩
               have z:=s.heap (zae wr (.cells #[.int .i64 1,.string G,.string H,.int .i64 I,.int .i64 J,.bool K,.bool L,.bool M,.string O,.int .i64 P] 139) _ rfl) id;have C:=(U.out.alloc (.cells #[.int .i64 1,.string G,.string H,.int .i64 I,.int .i64 J,.bool K,.bool L,.bool M,.string O,.int .i64 P] 139)).fr0 s;have Q:=H_ z;have T:=H_ C;clear z C)
            | (go_at_call 113;refine (R.out _ _ Q.out T.out).mono ?_;rintro e w2 ⟨rfl,X⟩))
           go_ret;exact ⟨by rw [F.out _ n.out rfl];rfl,((u.out.alloc _).trans0 s).trans0 X⟩
         rw [ht1] at t d
         have D:=H_ t;have n:=H_ d;clear t ht1 r d;go_wp2_with (go_at_call 113;refine (D.out _ (zae _ _ _ rfl) (V.out.alloc _)).mono ?_;rintro e w1 ⟨rfl,s⟩);go_ret;exact ⟨by rw [F.out _ n.out rfl];rfl,(u.out.alloc _).trans0 s⟩
       have ah:(p1==1)=false:=by simpa using h1
       go_wp2;go_roundg g
       case rel=>exact HN.out _ (by rw [a0.out,ah];rfl) (u.out.alloc _)
       case measure=>omega
  | succ g =>
    obtain ⟨gb,go,rfl⟩:=HA.out (by omega);obtain ⟨p,f⟩:∃ p,l[i]?=some p:=⟨_,List.getElem?_eq_getElem (by omega)⟩;have c:=HV.out.fr0 u.out;have x0:=c.cell0 zaf i f rfl;have x1:=c.cell zaf i 1 f rfl;have x2:=c.cell zaf i 2 f rfl;have x3:=c.cell zaf i 3 f rfl;have x4:=c.cell zaf i 4 f rfl;have x5:=c.cell zaf i 5 f rfl;have x6:=c.cell zaf i 6 f rfl;have x7:=c.cell zaf i 7 f rfl;have x8:=c.cell zaf i 8 f rfl;have x9:=c.cell zaf i 9 f rfl;have Y:(i:Int)<(l.length:Int):=(by omega);have m:=fun W=>zsn W p (af.out p (List.mem_of_getElem? f));unfold opV at m;by_cases hp:oneE p=0
    · rw [hp] at m
      have Hx:=H_ f;have Hp:=H_ hp;have Ho:=H_ m;clear f hp c m;go_wp2_with (go_at_call 111;refine (Ho.out _).mono ?_;rintro e w1 ⟨rfl,s⟩);go_roundg g
      case rel=>exact ⟨i+1,by go_num,by omega,H_ (fun j Z q hq=>by
       by_cases hji:j=i
       · subst hji;rw [Hx.out] at hq;cases hq;exact Hp.out
       exact S.out j (by omega) q hq),H_ ((u.out.alloc _).trans0 s)⟩
      case measure=>omega
    have aH:(oneE p==0)=false:=by simpa using hp
    have y:checkE l=oneE p:=by
     rw [HE.out]
     have:l.find? (fun o=>oneE o != 0)=some p:=by
      rw [List.find?_eq_some_iff_getElem];have a6:i<l.length:=(by omega);refine ⟨by simpa using hp,i,a6,(List.getElem?_eq_some_iff.1 f).2,fun j Z=>?_⟩;have:=S.out j Z _ (List.getElem?_eq_getElem (by omega));simp [this]
     rw [this]
    have E:=H_ y;have Ho:=H_ m;generalize oneE p=ep at *;clear f hp c m y;go_wp2_with (go_at_call 111;refine (Ho.out _).mono ?_;rintro e w1 ⟨rfl,s⟩);go_ret;exact ⟨by rw [E.out];rfl,(u.out.alloc _).trans0 s⟩
structure Ans where
 kind:Int
 kvs:List Kv
 count:Int
 more:Bool
def ansC (q:Ans×Value):List Value:=[.int .i64 q.1.kind,q.2,.int .i64 q.1.count,.bool q.1.more]
structure AnsR (w:World) (v:Value) (Z:List (Ans×Value)):Prop where
 sl:SlF w 165 4 ansC v Z
 kvs:∀ (i:Nat) (q:Ans×Value),Z[i]?=some q->SlF w 70 6 kvC q.2 q.1.kvs
 apart:∀ (i:Nat) (q:Ans×Value),Z[i]?=some q->∀ b,q.2.ownBlock=some b->v.ownBlock≠some b
def ansF (v:Value) (Z:List (Ans×Value)) (b:Nat):Prop:=v.ownBlock=some b\/∃ (i:Nat) (q:Ans×Value),Z[i]?=some q/\q.2.ownBlock=some b
theorem AnsR.nil (w:World):AnsR w (.slice none 0 0) []:=⟨SlF.nil _ _ _ _,by simp,by simp⟩
theorem AnsR.lt {w:World} {v:Value} {Z:List (Ans×Value)} (h:AnsR w v Z):∀ b,ansF v Z b->b<w.heap.size:=by
 rintro b (e | ⟨i,q,a,e⟩)
 · exact h.sl.lt b e
 exact (h.kvs i q a).lt b e
theorem AnsR.fr {w w':World} {v:Value} {Z:List (Ans×Value)} {S:Nat->Prop} (h:AnsR w v Z) (hf:Fr S w w') (hn:∀ b,ansF v Z b->¬ S b):AnsR w' v Z :=
 ⟨h.sl.fr hf fun b e=>hn b (.inl e),fun i q hq=>(h.kvs i q hq).fr hf fun b e=>hn b (.inr ⟨i,q,hq,e⟩),h.apart⟩
theorem AnsR.snoc {w w':World} {v v':Value} {Z:List (Ans×Value)} {a:Ans} {kv:Value} (h:AnsR w v Z) (hf:Fr (fun b=>v.ownBlock=some b) w w') (hs:SlF w' 165 4 ansC v' (Z++[(a,kv)]))
 (hk:SlF w 70 6 kvC kv a.kvs) (hd:∀ b,kv.ownBlock=some b->v.ownBlock≠some b) (hn:∀ b,v'.ownBlock=some b->v.ownBlock=some b\/w.heap.size<=b):AnsR w' v' (Z++[(a,kv)]):=by
 have key:∀ (i:Nat) (q:Ans×Value),(Z++[(a,kv)])[i]?=some q->(Z[i]?=some q)\/q=(a,kv):=by
  intro i q c;by_cases hi:i<Z.length
  · rw [List.getElem?_append_left hi] at c;exact .inl c
  rw [List.getElem?_append_right (by omega)] at c
  right
  have:i-Z.length=0:=by
   have:=(List.getElem?_eq_some_iff.1 c).1;simp at this;omega
  rw [this] at c;simpa using c.symm
 refine ⟨hs,fun i q c=>?_,fun i q c b hb e=>?_⟩
 · rcases key i q c with d | rfl
   · exact (h.kvs i q d).fr hf fun b e=>h.apart i q d b e
   exact hk.fr hf hd
 rcases key i q c with d | rfl
 · rcases hn b e with f | f
   · exact h.apart i q d b hb f
   have:=(h.kvs i q d).lt b hb;omega
 rcases hn b e with f | f
 · exact hd b hb f
 have:=hk.lt b hb;omega
def goneE (x:Kv) (rev:Int):Ev:=⟨2,⟨x.key,ByteArray.empty,0,rev,0,0⟩,x⟩
structure Run where
 S:St
 A:List Ans
 E:List Ev
def goneR (rev:Int) (r:St×List Kv×List Ev) (x:Kv):St×List Kv×List Ev:=(doS r.1 (goneE x rev),r.2.1++told (goneE x rev),r.2.2++[goneE x rev])
def stepR (rev:Int) (r:Run) (o:Opr):Run :=
 if o.kind=1 then ⟨doS r.S (zaw r.S o rev),r.A++[⟨1,told (zaw r.S o rev),(told (zaw r.S o rev)).length,false⟩],r.E++[zaw r.S o rev]⟩
 else if o.kind=2 then
  let q:=(zaz r.S o.rg.key o.rg.end_ rev).foldl (goneR rev) (r.S,[],r.E)
  ⟨q.1,r.A++[⟨2,q.2.1,q.2.1.length,false⟩],q.2.2⟩
 else if o.kind=3 then ⟨r.S,r.A++[⟨3,getL r.S o.rg rev,(allL r.S o.rg rev).length,moreB r.S o.rg rev⟩],r.E⟩
 else ⟨r.S,r.A++[⟨o.kind,[],0,false⟩],r.E⟩
def runR (rev:Int) (r:Run) (ops:List Opr):Run:=ops.foldl (stepR rev) r
def zcz (S:St) (ops:List Opr):Int:=match ops.find? fun o=>o.kind==3&&whenE S o.rg.rev != 0 with
 | some o=>whenE S o.rg.rev
 | none=>0
def applyE (S:St) (ops:List Opr):Int:=if checkE ops≠0 then checkE ops else zcz S ops
def applyS (S:St) (ops:List Opr):St :=
 let r:=runR (S.rev+1) ⟨S,[],[]⟩ ops
 if r.E = [] then r.S else { r.S with rev:=S.rev+1 }
end Go.Proofs.YtdgkdfmfoonbpaaGreat