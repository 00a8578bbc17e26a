/- Own lemmas and contracts that the claim's proof needs, laid together. The conditions stand in each. -/
import Derived.Test.YthljnnjpmdgkoaaGreatB15
import Derived.Test.YthljnnjpmdgkoaaGreatB13
import Derived.Test.YthljnnjpmdgkoaaGreatB00
namespace Go.Proofs.YthljnnjpmdgkoaaGreat
open Go Go.Proofs Go.RowKit
set_option maxRecDepth 100000
structure LayR (TA:zar) (w:World) (s sb vb ab:Nat) (S:St) (F:Nat->Prop) (ev:Value) (E:List Ev) (kind:Int) (kv:Value) (L:List Kv) (count:Int) (more:Bool):Prop where
 store:zak TA w s S F
 box:Has w sb [.pointer (some ⟨s,0,none⟩)]
 evs:Has w vb [ev]
 evl:SlF w 101 13 evC ev E
 ans:Has w ab [.int .i64 kind,kv,.int .i64 count,.bool more]
 kvl:SlF w 99 6 kvC kv L
 f1:¬ F sb
 f2:¬ F vb
 f3:¬ F ab
 f4:∀ b,ev.ownBlock=some b->¬ F b
 f5:∀ b,kv.ownBlock=some b->¬ F b
 n1:sb≠vb
 n2:sb≠ab
 n3:vb≠ab
 e1:ev.ownBlock≠some sb
 e2:ev.ownBlock≠some vb
 e3:ev.ownBlock≠some ab
 k1:kv.ownBlock≠some sb
 k2:kv.ownBlock≠some vb
 k3:kv.ownBlock≠some ab
 ek:∀ b,ev.ownBlock=some b->kv.ownBlock≠some b
def told (x:Ev):List Kv:=if 0 < x.prev.version then [x.prev] else []
set_option maxHeartbeats 4000000 in
theorem zmh {TA:zar} {N:Nat} (hT:TreeOk TA N) {n:Nat} (hn:n<=1099511627) (w:World) (s sb vb ab:Nat) (S:St) (F:Nat->Prop) (ev:Value) (E:List Ev) (kind:Int) (kv:Value) (L:List Kv) (count:Int) (more:Bool)
 (a:LayR TA w s sb vb ab S F ev E kind kv L count more) (hok:StOk n S) (x:Ev) (hx:DoOk N S x) (hE:E.length<=1099511627) (hL:L.length<=1099511627) (hc0:0<=count) (hc1:count<=top) :
 Calls Tryz.prog 86 #[.pointer (some ⟨ab,0,none⟩),evV x,.pointer (some ⟨sb,0,none⟩),.pointer (some ⟨vb,0,none⟩)] w fun e w'=>(∃ v,e = .returned v) ∧
  ∃ F' ev' kv',LayR TA w' s sb vb ab (doS S x) F' ev' (E++[x]) kind kv' (L++told x) (count+(told x).length) more ∧
   Fr (fun b=>F b\/b=vb\/b=ab\/ev.ownBlock=some b\/kv.ownBlock=some b) w w'/\(∀ b,F' b->F b\/w.heap.size<=b)/\(∀ b,ev'.ownBlock=some b->ev.ownBlock=some b\/w.heap.size<=b) ∧
   (∀ b,kv'.ownBlock=some b->kv.ownBlock=some b\/w.heap.size<=b):=by
 have HA:=H_ a;have HX:=H_ hx;have hls:=a.store.lt hT;have c0:=a.box.cell 0 rfl;have hbx:=zad w (Obj.cells #[.int .i64 x.kind,.string x.kv.key,.string x.kv.value,.int .i64 x.kv.create,.int .i64 x.kv.mod,.int .i64 x.kv.version,.int .i64 x.kv.lease,.string x.prev.key,.string x.prev.value,.int .i64 x.prev.create,.int .i64 x.prev.mod,.int .i64 x.prev.version,.int .i64 x.prev.lease] 101) _ rfl;have hf0:Fr No w (w.alloc (Obj.cells #[.int .i64 x.kind,.string x.kv.key,.string x.kv.value,.int .i64 x.kv.create,.int .i64 x.kv.mod,.int .i64 x.kv.version,.int .i64 x.kv.lease,.string x.prev.key,.string x.prev.value,.int .i64 x.prev.create,.int .i64 x.prev.mod,.int .i64 x.prev.version,.int .i64 x.prev.lease] 101)):=(Fr.refl No w).alloc _;have lsb:=a.box.lt;have lvb:=a.evs.lt;have lab:=a.ans.lt
 have nbx:¬ F w.heap.size:=fun h=>by have:=hls _ h;omega
 obtain ⟨i0,hi0,hz0,hz1,hz2⟩:=info_parts info73;obtain ⟨j0,hj0,hy0,hy1,hy2⟩:=info_parts info57;unfold top at hc1;unfold evV;clear a hx;go_enter Tryz.func86,Tryz.ntmps86
 go_wp2_with (first
  | (go_at_call 68;refine (zkn hT hn _ s S F (HA.out.store.fr0 hT hf0) hok x HX.out).mono ?_;rintro e w1 ⟨⟨v,rfl⟩,F1,hs1,hf1,hn1⟩
     have hbx1:=hf1.heap hbx nbx;obtain ⟨k0,k1,k2,k3,k4,k5,k6,k7,k8,k9,k10,k11,k12⟩:=cells13 hbx1;have v1:w1.cell? ⟨vb,0,none⟩=some ev:=hf1.cell (hf0.cell0 (HA.out.evs.cell 0 rfl)) HA.out.f2;have hnew:=zay w1 [.int .i64 x.kind,.string x.kv.key,.string x.kv.value,.int .i64 x.kv.create,.int .i64 x.kv.mod,.int .i64 x.kv.version,.int .i64 x.kv.lease,.string x.prev.key,.string x.prev.value,.int .i64 x.prev.create,.int .i64 x.prev.mod,.int .i64 x.prev.version,.int .i64 x.prev.lease] 101 (0,0))
  | (at_builtin;refine zas rfl _ _ 28 rfl 101 i0 _ 13 136 Tryz.underlying28 hi0 hz0 hz1 hz2 rfl (by decide) ev E rfl (((HA.out.evl.fr0 hf0).fr hf1 HA.out.f4).alloc _) w1.heap.size 1 x rfl hnew rfl ?c1 ?c2 ?c3 ?_))
 case c1=>intro u hu;simp [evC,kvC] at hu;rcases hu with rfl | rfl | rfl | rfl | rfl | rfl | rfl | rfl | rfl | rfl | rfl | rfl | rfl <;> rfl
 case c2=>unfold maxLen;omega
 case c3=>omega
 intro g1 o1 cap1 w2 hs2 hg2 hb2 hlt2;have hsz1:w.heap.size+1<=w1.heap.size:=by have:=zac hbx1;omega
 have hf2:Fr (fun b=>ev.ownBlock=some b) w1 w2:=((Fr.refl _ w1).alloc _).grown hg2 fun k hk=>.inl hk;have hevl:=HA.out.evl.lt;have hkvl:=HA.out.kvl.lt
 have hg1:ev.ownBlock=some g1\/w1.heap.size<=g1:=by
  rcases hb2 with h | h
  · exact .inl h
  right;have h':g1=w1.heap.size+1:=by simpa using h
  omega
 have nev:ev.ownBlock≠some w.heap.size:=fun h=>by have:=hevl _ h;omega
 have v2:=hf2.cell v1 HA.out.e2;have v2f:w2.frozen? ⟨vb,0,none⟩=false:=hf2.free v1 (hf1.free (hf0.cell0 (HA.out.evs.cell 0 rfl)) (hf0.free0 (HA.out.evs.cell 0 rfl) (HA.out.evs.free 0)) HA.out.f2) HA.out.e2;have p11:=hf2.cell k11 nev;have hbx2:=hf2.heap hbx1 nev;have hF1l:=hs1.lt hT;have HS1:=H_ hs1;have HF1:=H_ hf1;have HN1:=H_ hn1;have HS2:=H_ hs2;have HF2:=H_ hf2;have HB2:=H_ hbx2;have nvb:vb≠w.heap.size:=by omega
 clear hs1 hf1 hn1 hs2 hg2 hb2 hf2 hbx1 hbx k0 k1 k2 k3 k4 k5 k6 k7 k8 k9 k10 k11 k12 v1 hnew hbx2;go_upto_if 16 with fail;have hsz2:w1.heap.size<=w2.heap.size:=HF2.out.size
 have nF1:∀ b,b < w.heap.size+1->¬ F b->¬ F1 b:=fun b hb hF h=>by
  rcases HN1.out b h with h | h
  · exact hF h
  simp at h;omega
 have hf3:Fr (fun b=>b=vb) w2 (w2.setCell ⟨vb,0,none⟩ (.slice (some ⟨g1,o1,none⟩) (E.length+1) cap1)):=(Fr.refl _ w2).setAt 0 _;have hw1:Fr F w w1:=(hf0.mono fun _ _ s=>s.elim).trans HF1.out fun _ _ h=>h;have hw2:Fr (fun b=>F b\/ev.ownBlock=some b) w w2:=(hw1.mono fun _ _ h=>.inl h).trans HF2.out fun _ _ h=>.inr h
 have hfT:Fr (fun b=>F b\/b=vb\/ev.ownBlock=some b) w (w2.setCell ⟨vb,0,none⟩ (.slice (some ⟨g1,o1,none⟩) (E.length+1) cap1)) :=
  (hw2.mono fun b _ h=>h.elim .inl fun h=>.inr (.inr h)).trans hf3 fun b _ h=>.inr (.inl h)
 have hbase:LayR TA (w2.setCell ⟨vb,0,none⟩ (.slice (some ⟨g1,o1,none⟩) (E.length+1) cap1)) s sb vb ab (doS S x) F1 (.slice (some ⟨g1,o1,none⟩) (E.length+1) cap1) (E++[x]) kind kv L count more:={
  store:=(HS1.out.fr hT HF2.out fun b hb e=>nF1 b (by have:=hevl b e;omega) (HA.out.f4 b e) hb).fr hT hf3 fun b hb e=>nF1 vb (by omega) HA.out.f2 (by have e':b=vb:=e;rw [<-e'];exact hb)
  box:=HA.out.box.fr hfT fun h=>h.elim HA.out.f1 fun h=>h.elim HA.out.n1 HA.out.e1
  evs:=(HA.out.evs.fr hw2 fun h=>h.elim HA.out.f2 HA.out.e2).set 0 _
  evl:=HS2.out.other ⟨vb,0,none⟩ _ (by
   simp only [Value.ownBlock,ne_eq,Option.some.injEq];rintro rfl;rcases hg1 with h | h
   · exact HA.out.e2 h
   omega)
  ans:=HA.out.ans.fr hfT fun h=>h.elim HA.out.f3 fun h=>h.elim (fun h=>HA.out.n3 h.symm) HA.out.e3
  kvl:=HA.out.kvl.fr hfT fun b hb h=>by
   rcases h with h | h | h
   · exact HA.out.f5 b hb h
   · exact HA.out.k2 (h ▸ hb)
   exact HA.out.ek b h hb
  f1:=nF1 sb (by omega) HA.out.f1
  f2:=nF1 vb (by omega) HA.out.f2
  f3:=nF1 ab (by omega) HA.out.f3
  f4:=fun b hb h=>by
   obtain rfl:g1=b:=by simpa [Value.ownBlock] using hb
   rcases hg1 with h1 | h1
   · exact nF1 g1 (by have:=hevl g1 h1;omega) (HA.out.f4 g1 h1) h
   have:=hF1l g1 h;omega
  f5:=fun b hb h=>nF1 b (by have:=hkvl b hb;omega) (HA.out.f5 b hb) h
  n1:=HA.out.n1
  n2:=HA.out.n2
  n3:=HA.out.n3
  e1:=by
   simp only [Value.ownBlock,ne_eq,Option.some.injEq];rintro rfl;rcases hg1 with h | h
   · exact HA.out.e1 h
   omega
  e2:=by
   simp only [Value.ownBlock,ne_eq,Option.some.injEq];rintro rfl;rcases hg1 with h | h
   · exact HA.out.e2 h
   omega
  e3:=by
   simp only [Value.ownBlock,ne_eq,Option.some.injEq];rintro rfl;rcases hg1 with h | h
   · exact HA.out.e3 h
   omega
  k1:=HA.out.k1
  k2:=HA.out.k2
  k3:=HA.out.k3
  ek:=fun b hb h=>by
   obtain rfl:g1=b:=by simpa [Value.ownBlock] using hb
   rcases hg1 with h1 | h1
   · exact HA.out.ek g1 h1 h
   have:=hkvl g1 h;omega }
 have hB3:=hf3.heap HB2.out (fun e=>nvb e.symm);have hsz3:(w2.setCell ⟨vb,0,none⟩ (.slice (some ⟨g1,o1,none⟩) (E.length+1) cap1)).heap.size=w2.heap.size:=by simp
 have hsz4:w1.heap.size<=(w2.setCell ⟨vb,0,none⟩ (.slice (some ⟨g1,o1,none⟩) (E.length+1) cap1)).heap.size:=by omega
 clear hsz3;generalize w2.setCell ⟨vb,0,none⟩ (.slice (some ⟨g1,o1,none⟩) (E.length+1) cap1)=W3 at *;have HBASE:=H_ hbase;have HFT:=H_ hfT;have HB3:=H_ hB3;clear hbase hfT hB3 hf3 hw1 hw2 p11 v2 v2f
 have hF1n:∀ b,F1 b->F b\/w.heap.size<=b:=fun b hb=>by
  rcases HN1.out b hb with h | h
  · exact .inl h
  simp at h;exact .inr (by omega)
 have hevn:∀ b,(Value.slice (some ⟨g1,o1,none⟩) (E.length+1) cap1).ownBlock=some b->ev.ownBlock=some b\/w.heap.size<=b:=fun b hb=>by
  obtain rfl:g1=b:=by simpa [Value.ownBlock] using hb
  rcases hg1 with h | h
  · exact .inl h
  exact .inr (by omega)
 by_cases hv:0 < x.prev.version
 · have htold:told x = [x.prev]:=by unfold told;rw [if_pos hv]
   have a1:=HBASE.out.ans.cell 1 rfl;have a2:=HBASE.out.ans.cell 2 rfl;have f1:=HBASE.out.ans.free 1;have f2:=HBASE.out.ans.free 2;have hkvl3:=HBASE.out.kvl.lt;have hl3:=HBASE.out.ans.lt;have hlb:=zac HB3.out;have q7:W3.cell? ⟨w.heap.size,7,none⟩=some (.string x.prev.key):=(by simp [World.cell?,HB3.out]);have q8:W3.cell? ⟨w.heap.size,8,none⟩=some (.string x.prev.value):=(by simp [World.cell?,HB3.out]);have q9:W3.cell? ⟨w.heap.size,9,none⟩=some (.int .i64 x.prev.create):=(by simp [World.cell?,HB3.out]);have q10:W3.cell? ⟨w.heap.size,10,none⟩=some (.int .i64 x.prev.mod):=(by simp [World.cell?,HB3.out]);have q11:W3.cell? ⟨w.heap.size,11,none⟩=some (.int .i64 x.prev.version):=(by simp [World.cell?,HB3.out]);have q12:W3.cell? ⟨w.heap.size,12,none⟩=some (.int .i64 x.prev.lease):=(by simp [World.cell?,HB3.out])
   have hnew:=zay W3.drew [.string x.prev.key,.string x.prev.value,.int .i64 x.prev.create,.int .i64 x.prev.mod,.int .i64 x.prev.version,.int .i64 x.prev.lease] 99 (0,0);have nk3:=HBASE.out.k3;have HT:=H_ htold;clear htold;go_wp2_with fail
   go_region_law (refine zcp rfl _ _ 27 rfl 99 j0 _ 6 64 Tryz.underlying27 hj0 hy0 hy1 hy2 rfl (by decide) _ L rfl (HBASE.out.kvl.fr0 ((Fr.refl No W3).drew.alloc _)) W3.heap.size 1 x.prev rfl hnew rfl (by intro u hu;simp [kvC] at hu;rcases hu with rfl | rfl | rfl | rfl | rfl | rfl <;> rfl) (by unfold maxLen;omega) (by omega) ?_;intro g2 o2 cap2 w4 hs4 hg4 hb4 hlt4;have hf4:Fr (fun k=>kv.ownBlock=some k) W3 w4:=((Fr.refl _ W3).drew.alloc _).grown hg4 (fun k hk=>.inl hk);have b1:=hf4.cell a1 nk3;have bf:=hf4.free a1 f1 nk3;have b2:=hf4.cell a2 nk3;have bf2:=hf4.free a2 f2 nk3;have HS4:=H_ hs4;have HB4:=H_ hb4;have HF4:=H_ hf4;clear hs4 hg4 hb4 hf4)
   all_goals
    have hcz:count+1<=1099511627777:=(by omega);go_wp2;refine bodyPost_end (results_none rfl _ _ _) rfl ?_
    have hg2:kv.ownBlock=some g2\/W3.heap.size<=g2:=by
     rcases HB4.out with h | h
     · exact .inl h
     right
     have h':g2=W3.heap.size+1:=(by simpa using h);omega
    have hFs:∀ b,F1 b->b < W3.heap.size:=fun b h=>by have:=hF1l b h;omega
    have hvl:=HBASE.out.evs.lt;have hbl:=HBASE.out.box.lt;have hell:=HBASE.out.evl.lt
    have ng:∀ b,kv.ownBlock≠some b->b < W3.heap.size->g2≠b:=by
     rintro b h1 h2 rfl;rcases hg2 with h | h
     · exact h1 h
     omega
    have hf6:Fr (fun b=>b=ab\/kv.ownBlock=some b) W3 ((w4.setCell ⟨ab,1,none⟩ (.slice (some ⟨g2,o2,none⟩) (L.length+1) cap2)).setCell ⟨ab,2,none⟩ (.int .i64 (count+1))) :=
     ((HF4.out.mono fun _ _ h=>.inr h).setCell (p:=⟨ab,1,none⟩) (.inl (.inl rfl)) _).setCell (p:=⟨ab,2,none⟩) (.inl (.inl rfl)) _
    have hkn:∀ b,(Value.slice (some ⟨g2,o2,none⟩) (L.length+1) cap2).ownBlock=some b->kv.ownBlock=some b\/w.heap.size<=b:=fun b hb=>by
     obtain rfl:g2=b:=by simpa [Value.ownBlock] using hb
     rcases hg2 with h | h
     · exact .inl h
     exact .inr (by omega)
    refine ⟨⟨_,rfl⟩,F1,_,.slice (some ⟨g2,o2,none⟩) (L.length+1) cap2,{
     store:=HBASE.out.store.fr hT hf6 fun b hb h=>h.elim (fun h=>HBASE.out.f3 (h ▸ hb)) fun h=>HBASE.out.f5 b h hb
     box:=HBASE.out.box.fr hf6 fun h=>h.elim HBASE.out.n2 HBASE.out.k1
     evs:=HBASE.out.evs.fr hf6 fun h=>h.elim HBASE.out.n3 HBASE.out.k2
     evl:=HBASE.out.evl.fr hf6 fun b hb h=>h.elim (fun h=>HBASE.out.e3 (h ▸ hb)) fun h=>HBASE.out.ek b hb h
     ans:=by
      rw [HT.out];exact ((HBASE.out.ans.fr HF4.out nk3).set 1 (.slice (some ⟨g2,o2,none⟩) (L.length+1) cap2)).set 2 (.int .i64 (count+1))
     kvl:=by
      rw [HT.out];have ng2:=ng ab nk3 hl3;exact (HS4.out.other ⟨ab,1,none⟩ _ (by simp [Value.ownBlock];exact ng2)).other ⟨ab,2,none⟩ _ (by simp [Value.ownBlock];exact ng2)
     f1:=HBASE.out.f1
     f2:=HBASE.out.f2
     f3:=HBASE.out.f3
     f4:=HBASE.out.f4
     f5:=fun b hb h=>by
      obtain rfl:g2=b:=by simpa [Value.ownBlock] using hb
      rcases hg2 with h1 | h1
      · exact HBASE.out.f5 g2 h1 h
      have:=hFs g2 h;omega
     n1:=HBASE.out.n1
     n2:=HBASE.out.n2
     n3:=HBASE.out.n3
     e1:=HBASE.out.e1
     e2:=HBASE.out.e2
     e3:=HBASE.out.e3
     k1:=by simp only [Value.ownBlock,ne_eq,Option.some.injEq];exact ng sb HBASE.out.k1 hbl
     k2:=by simp only [Value.ownBlock,ne_eq,Option.some.injEq];exact ng vb HBASE.out.k2 hvl
     k3:=by simp only [Value.ownBlock,ne_eq,Option.some.injEq];exact ng ab HBASE.out.k3 hl3
     ek:=fun b hb=>by
      simp only [Value.ownBlock,ne_eq,Option.some.injEq];exact ng b (HBASE.out.ek b hb) (hell b hb) },?_,hF1n,hevn,hkn⟩
    refine (HFT.out.mono fun b _ h=>h.elim .inl fun h=>h.elim (fun h=>.inr (.inl h)) fun h=>.inr (.inr (.inr (.inl h)))).trans hf6 fun b _ h=>h.elim (fun h=>.inr (.inr (.inl h))) fun h=>.inr (.inr (.inr (.inr h)))
 have htold:told x = []:=by unfold told;rw [if_neg hv]
 have HT:=H_ htold;clear htold;go_wp2;refine bodyPost_end (results_none rfl _ _ _) rfl ?_;exact ⟨⟨_,rfl⟩,F1,_,kv,by rw [HT.out];simpa using HBASE.out,HFT.out.mono fun b _ h=>h.elim .inl fun h=>h.elim (fun h=>.inr (.inl h)) fun h=>.inr (.inr (.inr (.inl h))),hF1n,hevn,fun b hb=>.inl hb⟩
def st0:St:={ T:=[],past:=fun _=>none,next:=0,rev:=0,mark:=0,events:=[] }
theorem zdd {TA:zar} {N:Nat} (hT:TreeOk TA N) (w:World):Calls Tryz.prog 17 #[] w fun e w'=>∃ s,e = .returned (.pointer (some ⟨s,0,none⟩))/\∃ F,zak TA w' s st0 F/\Fr No w w'/\(∀ b,F b->w.heap.size<=b):=by
 have hmm:∀ w,(Instr.makeMap 105 none).run Tryz.prog w = .ok (.map (some w.heap.size)) (w.alloc (.map #[] 0)):=fun w=>run_makeMap 105 w;go_enter Tryz.func17,Tryz.ntmps17;go_wp2_with (go_at_call 51;refine (hT.new w).mono ?_;rintro e w1 ⟨t,rfl,FT,ht,hf,hn⟩);go_ret;have hlt:=hT.lt ht;have hsz:=hf.size;refine ⟨_,rfl,storeF (w1.heap.size+1) w1.heap.size (.slice none 0 0) FT fun _ _=>False,⟨t,w1.heap.size,.slice none 0 0,fun _=>none,FT,fun _ _=>False,?_,fun _=>Iff.rfl⟩,(hf.alloc _).alloc _,?_⟩
 · exact {
    obj:=⟨107,zad _ _ _ (by simp)⟩
    tree:=hT.fr ht (((Fr.refl No w1).alloc _).alloc _) fun _ _ s=>s
    map:=(MapAt.made w1).alloc _
    events:=SlF.nil _ _ _ _
    hist:=fun i H h=>by simp [st0] at h
    gone:=fun i h=>⟨rfl,fun _ h=>h⟩
    ds:=⟨fun h=>by have:=hlt _ h;omega,by simp [Value.ownBlock],fun _ h=>h⟩
    dp:=⟨fun h=>by have:=hlt _ h;omega,by simp [Value.ownBlock],fun _ h=>h⟩
    dt:=fun b hb=>⟨by simp [Value.ownBlock],fun _ h=>h⟩
    de:=fun b hb=>by simp [Value.ownBlock] at hb
    dh:=fun _ _ _ h=>h.elim }
 rintro b (rfl | rfl | h | h | ⟨_,h⟩)
 · omega
 · omega
 · exact hn b h
 · simp [Value.ownBlock] at h
 exact h.elim
theorem zjg {TA:zar} (w:World) (s:Nat) (S:St) (F:Nat->Prop) (hS:zak TA w s S F):Calls Tryz.prog 19 #[.pointer (some ⟨s,0,none⟩)] w fun e w'=>e = .returned (.int .i64 S.rev)/\w=w':=by
 obtain ⟨t,p,ev,hp,FT,FH,a,hF⟩:=hS;have c3:=a.obj.cell 3 rfl;have ls:=a.obj.lt;clear a;go_enter Tryz.func19,Tryz.ntmps19;go_wp2;go_ret;exact ⟨rfl,rfl⟩
def whenE (S:St) (rev:Int):Int:=if S.rev < rev then 33 else if rev≠0/\rev < S.mark then 32 else 0
theorem zdf {TA:zar} (w:World) (s:Nat) (S:St) (F:Nat->Prop) (hS:zak TA w s S F) (rev:Int):Calls Tryz.prog 84 #[.pointer (some ⟨s,0,none⟩),.int .i64 rev] w fun e w'=>e = .returned (.int .i64 (whenE S rev))/\w=w':=by
 obtain ⟨t,p,ev,hp,FT,FH,a,hF⟩:=hS;have c3:=a.obj.cell 3 rfl;have c4:=a.obj.cell 4 rfl;have ls:=a.obj.lt;unfold whenE;clear a;by_cases h1:S.rev < rev
 · rw [if_pos h1]
   go_enter Tryz.func84,Tryz.ntmps84;go_wp2;go_ret;exact ⟨rfl,rfl⟩
 rw [if_neg h1]
 have h1':rev<=S.rev:=(by omega);by_cases h2:rev=0
 · subst h2
   go_enter Tryz.func84,Tryz.ntmps84;go_wp2;go_ret;exact ⟨by simp,rfl⟩
 have h2':(rev == 0)=false:=by simpa using h2
 by_cases h3:rev < S.mark
 · rw [if_pos ⟨h2,h3⟩]
   go_enter Tryz.func84,Tryz.ntmps84;go_wp2;go_ret;exact ⟨rfl,rfl⟩
 rw [if_neg (fun h=>h3 h.2)]
 go_enter Tryz.func84,Tryz.ntmps84;go_wp2;go_ret;exact ⟨rfl,rfl⟩
theorem zqf {TA:zar} (w:World) (s:Nat) (S:St) (F:Nat->Prop) (hS:zak TA w s S F) (v:Value) (hr:S.rev < top):Calls Tryz.prog 85 #[.pointer (some ⟨s,0,none⟩),v] w fun e w'=>e = .returned (.bool true)/\Fr No w w':=by
 obtain ⟨t,p,ev,hp,FT,FH,a,hF⟩:=hS;have c3:=a.obj.cell 3 rfl;have ls:=a.obj.lt;have hmf:∀ (fn:Fn) (first cap:Array Value) (w:World),(Instr.makeFunc fn first cap).run Tryz.prog w = .ok (.func fn first cap) w:=fun _ _ _ _=>rfl;unfold top at hr;clear a;go_enter Tryz.func85,Tryz.ntmps85;go_wp2;go_ret;exact ⟨rfl,(Fr.refl No w).alloc _⟩
def revOf (g:Rg) (rev:Int):Int:=if g.rev≠0 then g.rev else rev
def allL (S:St) (g:Rg) (rev:Int):List Kv:=zba S g.key g.end_ (revOf g rev)
def moreB (S:St) (g:Rg) (rev:Int):Bool:=!g.count && decide (0 < g.limit) && decide (g.limit < (allL S g rev).length)
def cutL (g:Rg) (more:Bool) (l:List Kv):List Kv:=if more then l.take g.limit.toNat else l
def getL (S:St) (g:Rg) (rev:Int):List Kv :=
 if g.count then [] else
  let l:=cutL g (moreB S g rev) (if g.desc then (allL S g rev).reverse else allL S g rev)
  if g.keys then l.map fun x=>{ x with value:=ByteArray.empty } else l
def SlR {α:Type} (w:World) (sz:Nat) (f:α->List Value) (v:Value) (L:List α):Prop :=
 ∃ a cap,v = .slice a L.length cap/\L.length<=cap/\cap<=maxLen ∧
  (0 < L.length->∃ g o,a=some ⟨g,o,none⟩/\∀ (i:Nat) (x:α),L[i]? = some x->∀ (j:Nat) (u:Value),(f x)[j]? = some u->w.cell? ⟨g,o+i * sz+j,none⟩=some u)
section
variable {α:Type} {f:α->List Value} {w:World} {e sz:Nat} {v:Value} {L:List α}
theorem SlF.toR (hf:∀ x,(f x).length=sz) (h:SlF w e sz f v L):SlR w sz f v L:=by
 obtain ⟨a,cap,rfl,h1,h2,h3⟩:=h.shape;refine ⟨a,cap,rfl,h1,h2,fun hp=>?_⟩;obtain ⟨g,o,rfl⟩:=h3 hp;exact ⟨g,o,rfl,fun i x hx j u hu=>h.cell hf i j hx hu⟩
theorem SlR.nil (w:World) (sz:Nat) (f:α->List Value):SlR w sz f (.slice none 0 0) []:=⟨none,0,rfl,Nat.le_refl _,by simp,fun h=>by simp at h⟩
theorem SlR.shape (h:SlR w sz f v L):∃ a cap,v = .slice a L.length cap/\L.length<=cap/\cap<=maxLen/\(0 < L.length->∃ g o,a=some ⟨g,o,none⟩):=by
 obtain ⟨a,cap,rfl,h1,h2,h3⟩:=h;exact ⟨a,cap,rfl,h1,h2,fun hp=>by obtain ⟨g,o,h4,_⟩:=h3 hp;exact ⟨g,o,h4⟩⟩
theorem SlR.cell {g o cap:Nat} (_:∀ x,(f x).length=sz) (h:SlR w sz f (.slice (some ⟨g,o,none⟩) L.length cap) L) (i j:Nat) {x:α} {u:Value} (hx:L[i]? = some x) (hu:(f x)[j]? = some u) :
 w.cell? ⟨g,o+i * sz+j,none⟩=some u:=by
 obtain ⟨a,cap',hv,h1,h2,h3⟩:=h;have hi:=(List.getElem?_eq_some_iff.1 hx).1;obtain ⟨g',o',h4,h5⟩:=h3 (by omega);simp only [Value.slice.injEq,true_and] at hv;obtain ⟨rfl,rfl⟩:=hv;simp only [Option.some.injEq,Addr.mk.injEq,and_true] at h4;obtain ⟨rfl,rfl⟩:=h4;exact h5 i x hx j u hu
theorem SlR.cell0 {g o cap:Nat} (hf:∀ x,(f x).length=sz) (h:SlR w sz f (.slice (some ⟨g,o,none⟩) L.length cap) L) (i:Nat) {x:α} {u:Value} (hx:L[i]? = some x) (hu:(f x)[0]? = some u) :
 w.cell? ⟨g,o+i * sz,none⟩=some u:=h.cell hf i 0 hx hu
theorem SlR.fr {w':World} {S:Nat->Prop} (h:SlR w sz f v L) (hf:Fr S w w') (hn:∀ k,v.ownBlock=some k->¬ S k):SlR w' sz f v L:=by
 obtain ⟨a,cap,rfl,h1,h2,h3⟩:=h;refine ⟨a,cap,rfl,h1,h2,fun hp=>?_⟩;obtain ⟨g,o,rfl,h4⟩:=h3 hp;exact ⟨g,o,rfl,fun i x hx j u hu=>hf.cell (h4 i x hx j u hu) (hn g rfl)⟩
theorem SlR.fr0 {w':World} (h:SlR w sz f v L) (hf:Fr No w w'):SlR w' sz f v L:=h.fr hf fun _ _ h=>h
theorem SlR.alloc (h:SlR w sz f v L) (o:Obj):SlR (w.alloc o) sz f v L:=h.fr0 ((Fr.refl No w).alloc o)
theorem SlR.take {a:Option Addr} {cap:Nat} (_:∀ x,(f x).length=sz) (h:SlR w sz f (.slice a L.length cap) L) (k:Nat) (hk:k<=L.length):SlR w sz f (.slice a k cap) (L.take k):=by
 obtain ⟨a',cap',hv,h1,h2,h3⟩:=h;simp only [Value.slice.injEq,true_and] at hv;obtain ⟨rfl,rfl⟩:=hv;have hl:(L.take k).length=k:=by simp;omega
 refine ⟨a,cap,by rw [hl],by omega,h2,fun hp=>?_⟩;obtain ⟨g,o,h4,h5⟩:=h3 (by omega);refine ⟨g,o,h4,fun i x hx=>h5 i x ?_⟩;have hi:=(List.getElem?_eq_some_iff.1 hx).1;rw [List.getElem?_take_of_lt (by omega)] at hx;exact hx
theorem SlR.drop {g o cap:Nat} (_:∀ x,(f x).length=sz) (h:SlR w sz f (.slice (some ⟨g,o,none⟩) L.length cap) L) (k:Nat) (hk:k<=L.length) :
 SlR w sz f (.slice (if cap=k then some ⟨g,o,none⟩ else some ⟨g,o+k * sz,none⟩) (L.length - k) (cap - k)) (L.drop k):=by
 obtain ⟨a',cap',hv,h1,h2,h3⟩:=h;simp only [Value.slice.injEq,true_and] at hv;obtain ⟨rfl,rfl⟩:=hv;have hl:(L.drop k).length=L.length - k:=by simp
 refine ⟨_,_,by rw [hl],by omega,by omega,fun hp=>?_⟩;obtain ⟨g',o',h4,h5⟩:=h3 (by omega);simp only [Option.some.injEq,Addr.mk.injEq,and_true] at h4;obtain ⟨rfl,rfl⟩:=h4;refine ⟨g,o+k * sz,by rw [if_neg (by omega)],fun i x hx j u hu=>?_⟩;rw [List.getElem?_drop] at hx;have:=h5 (k+i) x hx j u hu
 rwa [Nat.add_mul,<-Nat.add_assoc] at this
end
def clash (o p:Opr):Bool:=(p.kind == 1 && p.rg.key.toList == o.rg.key.toList) || (p.kind == 2 && inB o.rg.key p.rg.key p.rg.end_)
theorem zok (w:World) (o p:Opr) (b:Nat) (hb:w.heap[b]? = some (.cells (opC o).toArray 94 (0,0))) :
 Calls Tryz.prog 128 #[opV p,.pointer (some ⟨b,0,none⟩)] w fun e w'=>e = .returned (.bool (clash o p))/\Fr No w w':=by
 obtain ⟨p1,⟨g1,g2,g3,g4,g5,g6,g7⟩,p2,p3⟩:=p;unfold opV clash;dsimp only;have hbl:=zac hb;have x1:w.cell? ⟨b,1,none⟩=some (.string o.rg.key):=by unfold World.cell?;simp only;rw [hb];rfl
 have hB:=H_ hb;clear hb;by_cases h1:p1=1
 · subst h1
   cases h2:(g1.toList == o.rg.key.toList)
   · go_enter Tryz.func128,Tryz.ntmps128
     go_wp2;go_ret;exact ⟨by simp,(Fr.refl No w).alloc _⟩
   go_enter Tryz.func128,Tryz.ntmps128
   go_wp2;go_ret;exact ⟨by simp,(Fr.refl No w).alloc _⟩
 have h1':(p1 == 1)=false:=by simpa using h1
 by_cases h2:p1=2
 · subst h2
   go_enter Tryz.func128,Tryz.ntmps128;go_wp2_with (go_at_call 129;refine (zvn _ _ _ _).mono ?_;rintro e w' ⟨rfl,rfl⟩);go_ret;exact ⟨by simp,(Fr.refl No w).alloc _⟩
 have h2':(p1 == 2)=false:=by simpa using h2
 go_enter Tryz.func128,Tryz.ntmps128;go_wp2;go_ret;exact ⟨by simp [h1',h2'],(Fr.refl No w).alloc _⟩
def idxOp (P:Opr->Bool) (l:List Opr):Int:=if l.findIdx P=l.length then -1 else (l.findIdx P:Int)
theorem zhc (w:World) (v:Value) (l:List Opr) (o:Opr) (b:Nat) (hb:w.heap[b]? = some (.cells (opC o).toArray 94 (0,0))) (hv:SlR w 10 opC v l) (hl:l.length<=1099511627) :
 Calls Tryz.prog 165 #[v,.func (.func 128) #[] #[.pointer (some ⟨b,0,none⟩)]] w fun e w'=>e = .returned (.int .i64 (idxOp (clash o) l))/\Fr No w w':=by
 obtain ⟨a,cap,rfl,hc1,hc2,ha⟩:=hv.shape;have HV:=H_ hv;clear hv;have HA:=H_ ha;clear ha;have HB:=H_ hb;clear hb;go_enter Tryz.func165,Tryz.ntmps165;go_wp2
 go_loopg [8] l.length (fun g s8 wr=>∃ i:Nat,s8 = .int .i64 i/\i+g=l.length/\Hid (∀ j,j < i->∀ p,l[j]? = some p->clash o p=false)/\Hid (Fr No w wr))
 case atStart=>exact ⟨0,rfl,by simp,H_ (by simp),H_ (Fr.refl No w)⟩
 case round =>
  obtain ⟨i,rfl,hi,HJ,HF⟩:=hrel
  cases gk with
  | zero =>
    have hil:¬ (i:Int) < (l.length:Int):=(by omega);go_wp2;go_ret;refine ⟨?_,HF.out⟩
    have hu:l.findIdx (clash o)=l.length:=by
     rw [List.findIdx_eq_length];intro x hx;obtain ⟨j,hj,rfl⟩:=List.getElem_of_mem hx;exact HJ.out j (by omega) _ (List.getElem?_eq_getElem hj)
    unfold idxOp;rw [if_pos hu]
    rfl
  | succ g =>
    obtain ⟨gb,go,rfl⟩:=HA.out (by omega);obtain ⟨p,hx⟩:∃ p,l[i]? = some p:=⟨_,List.getElem?_eq_getElem (by omega)⟩;have hvr:=HV.out.fr0 HF.out;have x0:=hvr.cell0 zaf i hx rfl;have x1:=hvr.cell zaf i 1 hx rfl;have x2:=hvr.cell zaf i 2 hx rfl;have x3:=hvr.cell zaf i 3 hx rfl;have x4:=hvr.cell zaf i 4 hx rfl;have x5:=hvr.cell zaf i 5 hx rfl;have x6:=hvr.cell zaf i 6 hx rfl;have x7:=hvr.cell zaf i 7 hx rfl;have x8:=hvr.cell zaf i 8 hx rfl;have x9:=hvr.cell zaf i 9 hx rfl;have hil:(i:Int) < (l.length:Int):=(by omega);have hcl:=zok wr o p b (HF.out.heap HB.out id);unfold opV at hcl;cases hp:clash o p
    · rw [hp] at hcl
      have Hx:=H_ hx;have Hp:=H_ hp;clear hx hp hvr;go_wp2_with (go_at_call 128;refine hcl.mono ?_;rintro e w1 ⟨rfl,hf⟩);go_roundg g
      case rel=>exact ⟨i+1,by go_num,by omega,H_ (fun j hj q hq=>by
       by_cases hji:j=i
       · subst hji;rw [Hx.out] at hq;cases hq;exact Hp.out
       exact HJ.out j (by omega) q hq),H_ (HF.out.trans0 hf)⟩
      case measure=>omega
    rw [hp] at hcl
    have Hx:=H_ hx;have Hp:=H_ hp;clear hx hp hvr;go_wp2_with (go_at_call 128;refine hcl.mono ?_;rintro e w1 ⟨rfl,hf⟩);go_ret;refine ⟨?_,HF.out.trans0 hf⟩
    have hu:l.findIdx (clash o)=i:=by
     have hil':i < l.length:=(by omega);rw [List.findIdx_eq hil'];have hgi:l[i] = p:=(List.getElem?_eq_some_iff.1 Hx.out).2;refine ⟨by rw [hgi];exact Hp.out,fun j hj=>?_⟩;exact HJ.out j hj _ (List.getElem?_eq_getElem (by omega))
    unfold idxOp;rw [hu,if_neg (by omega)]
    rfl
theorem zcy (w:World) (v:Value) (l:List Opr) (o:Opr) (b:Nat) (hb:w.heap[b]? = some (.cells (opC o).toArray 94 (0,0))) (hv:SlR w 10 opC v l) (hl:l.length<=1099511627) :
 Calls Tryz.prog 130 #[v,.func (.func 128) #[] #[.pointer (some ⟨b,0,none⟩)]] w fun e w'=>e = .returned (.bool (l.any (clash o)))/\Fr No w w':=by
 have hidx:=zhc w v l o b hb hv hl
 have hd:(0<=idxOp (clash o) l/\l.any (clash o)=true)\/(¬ 0<=idxOp (clash o) l/\l.any (clash o)=false):=by
  unfold idxOp;by_cases h:l.findIdx (clash o)=l.length
  · rw [if_pos h]
    rw [List.findIdx_eq_length] at h;exact .inr ⟨by omega,by rw [List.any_eq_false];simpa using h⟩
  rw [if_neg h]
  refine .inl ⟨by omega,?_⟩;have hlt:l.findIdx (clash o) < l.length:=Nat.lt_of_le_of_ne List.findIdx_le_length h;rw [List.any_eq_true];exact ⟨_,List.getElem_mem hlt,List.findIdx_getElem⟩
 generalize idxOp (clash o) l=n at *;generalize l.any (clash o)=t at *;clear hv hb;rcases hd with ⟨h1,rfl⟩ | ⟨h1,rfl⟩
 all_goals
  go_enter Tryz.func130,Tryz.ntmps130;go_wp2_with (go_at_call 165;refine hidx.mono ?_;rintro e w1 ⟨rfl,hf⟩);go_ret;exact ⟨by first | rfl | (simp;omega),hf⟩
def zel (l:List Opr) (i:Nat):Bool:=match l[i]? with
 | some o=>o.kind == 1 && ((l.take i).any (clash o) || (l.drop (i+1)).any (clash o))
 | none=>false
def twice (l:List Opr):Bool:=(List.range l.length).any (zel l)
def checkE (l:List Opr):Int:=if 16 < l.length then 31 else match l.find? fun o=>oneE o != 0 with
 | some o=>oneE o
 | none=>if twice l then 34 else 0
set_option maxHeartbeats 4000000 in
theorem ziv (w:World) (v:Value) (l:List Opr) (hv:SlR w 10 opC v l) (hl:l.length<=1099511627) (hks:∀ o∈l,o.rg.key.size<=1099511627776) :
 Calls Tryz.prog 83 #[v] w fun e w'=>e = .returned (.int .i64 (checkE l))/\Fr No w w':=by
 obtain ⟨a,cap,rfl,hc1,hc2,ha⟩:=hv.shape;have HV:=H_ hv;clear hv;have HA:=H_ ha;clear ha;have HKS:=H_ hks;clear hks;by_cases h16:16 < l.length
 · have h16':(16:Int) < (l.length:Int):=by omega
   have:checkE l=31:=(by unfold checkE;rw [if_pos h16]);rw [this];go_enter Tryz.func83,Tryz.ntmps83;go_wp2;go_ret;exact ⟨rfl,Fr.refl No w⟩
 have h16':¬ (16:Int) < (l.length:Int):=by omega
 have hE:checkE l=match l.find? fun o=>oneE o != 0 with
  | some o=>oneE o
  | none=>if twice l then 34 else 0:=by unfold checkE;rw [if_neg h16]
 have HE:=H_ hE;clear hE;go_enter Tryz.func83,Tryz.ntmps83;go_wp2
 go_loopg [14] l.length (fun g s14 wr=>∃ i:Nat,s14 = .int .i64 i/\i+g=l.length/\Hid (∀ j,j < i->∀ p,l[j]? = some p->oneE p=0)/\Hid (Fr No w wr))
 case atStart=>exact ⟨0,rfl,by simp,H_ (by simp),H_ (Fr.refl No w)⟩
 case round =>
  obtain ⟨i,rfl,hi,HJ,HF⟩:=hrel
  cases gk with
  | zero =>
    have hil:¬ (i:Int) < (l.length:Int):=(by omega)
    have hE2:checkE l=if twice l then 34 else 0:=by
     rw [HE.out]
     have:l.find? (fun o=>oneE o != 0)=none:=by
      rw [List.find?_eq_none];intro x hx;obtain ⟨j,hj,rfl⟩:=List.getElem_of_mem hx;have:=HJ.out j (by omega) _ (List.getElem?_eq_getElem hj);simp [this]
     rw [this]
    have HE2:=H_ hE2;clear hE2;have HF1:=HF;clear HJ;have hmf:∀ (fn:Fn) (first cap:Array Value) (w:World),(Instr.makeFunc fn first cap).run Tryz.prog w = .ok (.func fn first cap) w:=fun _ _ _ _=>rfl;go_wp2
    go_loopg [26] l.length (fun g s26 wr=>∃ i:Nat,s26 = .int .i64 i/\i+g=l.length/\Hid (∀ j,j < i->zel l j=false)/\Hid (Fr No w wr))
    case atStart=>exact ⟨0,rfl,by simp,H_ (by simp),HF1⟩
    case round =>
     obtain ⟨i,rfl,hi,HJ,HF⟩:=hrel
     cases gk with
     | zero =>
       have hil:¬ (i:Int) < (l.length:Int):=(by omega)
       have hE3:checkE l=0:=by
        rw [HE2.out]
        have:twice l=false:=by
         unfold twice;rw [List.any_eq_false];intro j hj;simp at hj;simpa using HJ.out j (by omega)
        rw [this];rfl
       have HE3:=H_ hE3;clear hE3;go_wp2;go_ret;exact ⟨by rw [HE3.out];rfl,HF.out⟩
     | succ g =>
       obtain ⟨gb,go,rfl⟩:=HA.out (by omega);obtain ⟨p,hx⟩:∃ p,l[i]? = some p:=⟨_,List.getElem?_eq_getElem (by omega)⟩;have hvr:=HV.out.fr0 HF.out;have x0:=hvr.cell0 zaf i hx rfl;have x1:=hvr.cell zaf i 1 hx rfl;have x2:=hvr.cell zaf i 2 hx rfl;have x3:=hvr.cell zaf i 3 hx rfl;have x4:=hvr.cell zaf i 4 hx rfl;have x5:=hvr.cell zaf i 5 hx rfl;have x6:=hvr.cell zaf i 6 hx rfl;have x7:=hvr.cell zaf i 7 hx rfl;have x8:=hvr.cell zaf i 8 hx rfl;have x9:=hvr.cell zaf i 9 hx rfl;have hil:(i:Int) < (l.length:Int):=(by omega);have hta:zel l i=(p.kind == 1 && ((l.take i).any (clash p) || (l.drop (i+1)).any (clash p))):=(by unfold zel;rw [hx]);have HVR:=H_ hvr;have HTA:=H_ hta
       have hsub:∀ b:Bool,zel l i=b->b=true->checkE l=34:=by
        intro b hb hbt;rw [HE2.out,if_pos];unfold twice;rw [List.any_eq_true];exact ⟨i,by simp;omega,by rw [hb,hbt]⟩
       have HSUB:=H_ hsub;clear hx hvr hta hsub;obtain ⟨p1,⟨g1,g2,g3,g4,g5,g6,g7⟩,p2,p3⟩:=p
       have hnext:∀ (wz:World),zel l i=false->Fr No w wz->∃ k:Nat,Value.int .i64 ((i:Int)+1) = .int .i64 k/\k+g=l.length/\Hid (∀ j,j < k->zel l j=false)/\Hid (Fr No w wz):=fun wz h hf =>
        ⟨i+1,by go_num,by omega,H_ (fun j hj=>by
          by_cases hji:j=i
          · subst hji;exact h
          exact HJ.out j (by omega)),H_ hf⟩
       have HN:=H_ hnext;clear hnext;by_cases h1:p1=1
       · subst h1
         have hi0:(0:Int)<=(i:Int)+1:=(by omega);have hi1:(i:Int)+1<=(l.length:Int):=(by omega);have hi2:i<=l.length:=(by omega);have hi3:i+1<=l.length:=(by omega);have hi4:(i:Int)<=(cap:Int):=(by omega);have hi5:i<=cap:=(by omega);have hst:=HVR.out.take zaf i hi2;have hsd:=HVR.out.drop zaf (i+1) hi3;have HST:=H_ hst;have HSD:=H_ hsd;clear hst hsd;have htl:(l.take i).length=i:=(by simp;omega);have hdl:(l.drop (i+1)).length=l.length - (i+1):=(by simp);have hca:=fun W hb hv=>zcy W (.slice (some ⟨gb,go,none⟩) i cap) (l.take i) ⟨1,⟨g1,g2,g3,g4,g5,g6,g7⟩,p2,p3⟩ wr.heap.size hb hv (by omega);have hcb:=fun W A hb hv=>zcy W (.slice A (l.length - (i+1)) (cap - (i+1))) (l.drop (i+1)) ⟨1,⟨g1,g2,g3,g4,g5,g6,g7⟩,p2,p3⟩ wr.heap.size hb hv (by omega);have HTL:=H_ htl
         have HDL:=H_ hdl;clear htl hdl;generalize hA1:(if cap=i+1 then some (⟨gb,go,none⟩:Addr) else some ⟨gb,go+(i+1) * 10,none⟩)=A1 at HSD;have HTA':=HTA.out;simp only at HTA';cases ht1:(l.take i).any (clash ⟨1,⟨g1,g2,g3,g4,g5,g6,g7⟩,p2,p3⟩)
         · rw [ht1] at hca HTA'
           have HCA:=H_ hca;clear hca ht1;cases ht2:(l.drop (i+1)).any (clash ⟨1,⟨g1,g2,g3,g4,g5,g6,g7⟩,p2,p3⟩)
           · rw [ht2] at hcb HTA'
             have HCB:=H_ hcb;have HTA2:=H_ HTA';clear hcb ht2 HTA'
             go_wp2_with (first
              | (go_at_call 130;refine (HCA.out _ (zad _ _ _ rfl) (HST.out.alloc _)).mono ?_;rintro e w1 ⟨rfl,hf⟩
                 have hb1:=hf.heap (zad wr (.cells #[.int .i64 1,.string g1,.string g2,.int .i64 g3,.int .i64 g4,.bool g5,.bool g6,.bool g7,.string p2,.int .i64 p3] 94) _ rfl) id;have hs1:=(HSD.out.alloc (.cells #[.int .i64 1,.string g1,.string g2,.int .i64 g3,.int .i64 g4,.bool g5,.bool g6,.bool g7,.string p2,.int .i64 p3] 94)).fr0 hf;have HB1:=H_ hb1;have HS1:=H_ hs1;clear hb1 hs1)
              | (go_at_call 130;refine (HCB.out _ _ HB1.out HS1.out).mono ?_;rintro e w2 ⟨rfl,hf2⟩))
             go_roundg g
             case rel=>exact HN.out _ (by rw [HTA2.out];rfl) (((HF.out.alloc _).trans0 hf).trans0 hf2)
             case measure=>omega
           rw [ht2] at hcb HTA'
           have HCB:=H_ hcb;have HTA2:=H_ HTA';clear hcb ht2 HTA'
           go_wp2_with (first
            | (go_at_call 130;refine (HCA.out _ (zad _ _ _ rfl) (HST.out.alloc _)).mono ?_;rintro e w1 ⟨rfl,hf⟩
               have hb1:=hf.heap (zad wr (.cells #[.int .i64 1,.string g1,.string g2,.int .i64 g3,.int .i64 g4,.bool g5,.bool g6,.bool g7,.string p2,.int .i64 p3] 94) _ rfl) id;have hs1:=(HSD.out.alloc (.cells #[.int .i64 1,.string g1,.string g2,.int .i64 g3,.int .i64 g4,.bool g5,.bool g6,.bool g7,.string p2,.int .i64 p3] 94)).fr0 hf;have HB1:=H_ hb1;have HS1:=H_ hs1;clear hb1 hs1)
            | (go_at_call 130;refine (HCB.out _ _ HB1.out HS1.out).mono ?_;rintro e w2 ⟨rfl,hf2⟩))
           go_ret;exact ⟨by rw [HSUB.out _ HTA2.out rfl];rfl,((HF.out.alloc _).trans0 hf).trans0 hf2⟩
         rw [ht1] at hca HTA'
         have HCA:=H_ hca;have HTA2:=H_ HTA';clear hca ht1 hcb HTA';go_wp2_with (go_at_call 130;refine (HCA.out _ (zad _ _ _ rfl) (HST.out.alloc _)).mono ?_;rintro e w1 ⟨rfl,hf⟩);go_ret;exact ⟨by rw [HSUB.out _ HTA2.out rfl];rfl,(HF.out.alloc _).trans0 hf⟩
       have h1':(p1 == 1)=false:=by simpa using h1
       go_wp2;go_roundg g
       case rel=>exact HN.out _ (by rw [HTA.out,h1'];rfl) (HF.out.alloc _)
       case measure=>omega
  | succ g =>
    obtain ⟨gb,go,rfl⟩:=HA.out (by omega);obtain ⟨p,hx⟩:∃ p,l[i]? = some p:=⟨_,List.getElem?_eq_getElem (by omega)⟩;have hvr:=HV.out.fr0 HF.out;have x0:=hvr.cell0 zaf i hx rfl;have x1:=hvr.cell zaf i 1 hx rfl;have x2:=hvr.cell zaf i 2 hx rfl;have x3:=hvr.cell zaf i 3 hx rfl;have x4:=hvr.cell zaf i 4 hx rfl;have x5:=hvr.cell zaf i 5 hx rfl;have x6:=hvr.cell zaf i 6 hx rfl;have x7:=hvr.cell zaf i 7 hx rfl;have x8:=hvr.cell zaf i 8 hx rfl;have x9:=hvr.cell zaf i 9 hx rfl;have hil:(i:Int) < (l.length:Int):=(by omega);have hone:=fun W=>zsn W p (HKS.out p (List.mem_of_getElem? hx));unfold opV at hone;by_cases hp:oneE p=0
    · rw [hp] at hone
      have Hx:=H_ hx;have Hp:=H_ hp;have Ho:=H_ hone;clear hx hp hvr hone;go_wp2_with (go_at_call 127;refine (Ho.out _).mono ?_;rintro e w1 ⟨rfl,hf⟩);go_roundg g
      case rel=>exact ⟨i+1,by go_num,by omega,H_ (fun j hj q hq=>by
       by_cases hji:j=i
       · subst hji;rw [Hx.out] at hq;cases hq;exact Hp.out
       exact HJ.out j (by omega) q hq),H_ ((HF.out.alloc _).trans0 hf)⟩
      case measure=>omega
    have hp':(oneE p == 0)=false:=by simpa using hp
    have hE2:checkE l=oneE p:=by
     rw [HE.out]
     have:l.find? (fun o=>oneE o != 0)=some p:=by
      rw [List.find?_eq_some_iff_getElem];have hil':i < l.length:=(by omega);refine ⟨by simpa using hp,i,hil',(List.getElem?_eq_some_iff.1 hx).2,fun j hj=>?_⟩;have:=HJ.out j hj _ (List.getElem?_eq_getElem (by omega));simp [this]
     rw [this]
    have HE2:=H_ hE2;have Ho:=H_ hone;generalize oneE p=ep at *;clear hx hp hvr hone hE2;go_wp2_with (go_at_call 127;refine (Ho.out _).mono ?_;rintro e w1 ⟨rfl,hf⟩);go_ret;exact ⟨by rw [HE2.out];rfl,(HF.out.alloc _).trans0 hf⟩
structure Ans where
 kind:Int
 kvs:List Kv
 count:Int
 more:Bool
def ansC (q:Ans × Value):List Value:=[.int .i64 q.1.kind,q.2,.int .i64 q.1.count,.bool q.1.more]
theorem zop (q:Ans × Value):(ansC q).length=4:=rfl
structure AnsR (w:World) (v:Value) (Z:List (Ans × Value)):Prop where
 sl:SlF w 97 4 ansC v Z
 kvs:∀ (i:Nat) (q:Ans × Value),Z[i]? = some q->SlF w 99 6 kvC q.2 q.1.kvs
 apart:∀ (i:Nat) (q:Ans × Value),Z[i]? = some q->∀ b,q.2.ownBlock=some b->v.ownBlock≠some b
def ansF (v:Value) (Z:List (Ans × Value)) (b:Nat):Prop:=v.ownBlock=some b\/∃ (i:Nat) (q:Ans × Value),Z[i]? = some q/\q.2.ownBlock=some b
theorem AnsR.nil (w:World):AnsR w (.slice none 0 0) []:=⟨SlF.nil _ _ _ _,by simp,by simp⟩
theorem AnsR.lt {w:World} {v:Value} {Z:List (Ans × Value)} (h:AnsR w v Z):∀ b,ansF v Z b->b < w.heap.size:=by
 rintro b (e | ⟨i,q,hq,e⟩)
 · exact h.sl.lt b e
 exact (h.kvs i q hq).lt b e
theorem AnsR.fr {w w':World} {v:Value} {Z:List (Ans × Value)} {S:Nat->Prop} (h:AnsR w v Z) (hf:Fr S w w') (hn:∀ b,ansF v Z b->¬ S b):AnsR w' v Z :=
 ⟨h.sl.fr hf fun b e=>hn b (.inl e),fun i q hq=>(h.kvs i q hq).fr hf fun b e=>hn b (.inr ⟨i,q,hq,e⟩),h.apart⟩
theorem AnsR.snoc {w w':World} {v v':Value} {Z:List (Ans × Value)} {a:Ans} {kv:Value} (h:AnsR w v Z) (hf:Fr (fun b=>v.ownBlock=some b) w w') (hs:SlF w' 97 4 ansC v' (Z++[(a,kv)]))
 (hk:SlF w 99 6 kvC kv a.kvs) (hd:∀ b,kv.ownBlock=some b->v.ownBlock≠some b) (hn:∀ b,v'.ownBlock=some b->v.ownBlock=some b\/w.heap.size<=b):AnsR w' v' (Z++[(a,kv)]):=by
 have key:∀ (i:Nat) (q:Ans × Value),(Z++[(a,kv)])[i]? = some q->(Z[i]? = some q)\/q=(a,kv):=by
  intro i q hq;by_cases hi:i < Z.length
  · rw [List.getElem?_append_left hi] at hq;exact .inl hq
  rw [List.getElem?_append_right (by omega)] at hq
  right
  have:i - Z.length=0:=by
   have:=(List.getElem?_eq_some_iff.1 hq).1;simp at this;omega
  rw [this] at hq;simpa using hq.symm
 refine ⟨hs,fun i q hq=>?_,fun i q hq b hb e=>?_⟩
 · rcases key i q hq with h1 | rfl
   · exact (h.kvs i q h1).fr hf fun b e=>h.apart i q h1 b e
   exact hk.fr hf hd
 rcases key i q hq with h1 | rfl
 · rcases hn b e with h2 | h2
   · exact h.apart i q h1 b hb h2
   have:=(h.kvs i q h1).lt b hb;omega
 rcases hn b e with h2 | h2
 · exact hd b hb h2
 have:=hk.lt b hb;omega
def goneE (x:Kv) (rev:Int):Ev:=⟨2,⟨x.key,ByteArray.empty,0,rev,0,0⟩,x⟩
structure Run where
 S:St
 A:List Ans
 E:List Ev
def goneR (rev:Int) (r:St × List Kv × List Ev) (x:Kv):St × List Kv × List Ev:=(doS r.1 (goneE x rev),r.2.1++told (goneE x rev),r.2.2++[goneE x rev])
def stepR (rev:Int) (r:Run) (o:Opr):Run :=
 if o.kind=1 then ⟨doS r.S (zaw r.S o rev),r.A++[⟨1,told (zaw r.S o rev),(told (zaw r.S o rev)).length,false⟩],r.E++[zaw r.S o rev]⟩
 else if o.kind=2 then
  let q:=(zba r.S o.rg.key o.rg.end_ rev).foldl (goneR rev) (r.S,[],r.E)
  ⟨q.1,r.A++[⟨2,q.2.1,q.2.1.length,false⟩],q.2.2⟩
 else if o.kind=3 then ⟨r.S,r.A++[⟨3,getL r.S o.rg rev,(allL r.S o.rg rev).length,moreB r.S o.rg rev⟩],r.E⟩
 else ⟨r.S,r.A++[⟨o.kind,[],0,false⟩],r.E⟩
def runR (rev:Int) (r:Run) (ops:List Opr):Run:=ops.foldl (stepR rev) r
def whenAll (S:St) (ops:List Opr):Int:=match ops.find? fun o=>o.kind == 3 && whenE S o.rg.rev != 0 with
 | some o=>whenE S o.rg.rev
 | none=>0
def applyE (S:St) (ops:List Opr):Int:=if checkE ops≠0 then checkE ops else whenAll S ops
def applyS (S:St) (ops:List Opr):St :=
 let r:=runR (S.rev+1) ⟨S,[],[]⟩ ops
 if r.E = [] then r.S else { r.S with rev:=S.rev+1 }
end Go.Proofs.YthljnnjpmdgkoaaGreat