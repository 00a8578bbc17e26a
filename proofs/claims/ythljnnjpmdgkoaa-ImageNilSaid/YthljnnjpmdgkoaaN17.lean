/- Own lemmas and contracts that the claim's proof needs, laid together. The conditions stand in each. -/
import Derived.Test.YthljnnjpmdgkoaaN16
import Derived.Test.YthljnnjpmdgkoaaN07
import Derived.Test.YthljnnjpmdgkoaaN09
import Derived.Test.YthljnnjpmdgkoaaN14
import Derived.Deep.RegionHeld3
import Derived.StillTailTactics
namespace Go.Proofs.Ythljnnjpmdgkoaa
open Go Go.Proofs Go.RowKit
set_option maxRecDepth 100000
def tombH (H:Hist) (rev:Int):Hist:={ H with gens:=tombK H.gens rev,last:=rev }
def tombS (S:St) (x:Kv):St :=
 if (getT S.T x.key).2 then { S with past:=fun i=>if i=(getT S.T x.key).1 then (S.past (getT S.T x.key).1).map (fun H=>tombH H x.mod) else S.past i } else S
def doneS (S:St) (x:Ev):St:=if x.kind=1 then putS S x.kv else tombS S x.kv
def doS (S:St) (x:Ev):St:={ doneS S x with events:=(doneS S x).events++[x] }
theorem info73:(Try.prog.info? 73).map (fun i=>(i.zero,i.size,i.bytes))=some (some (.agg #[.int .i64 0,.string ByteArray.empty,.string ByteArray.empty,.int .i64 0,.int .i64 0,.int .i64 0,.int .i64 0,.string ByteArray.empty,.string ByteArray.empty,.int .i64 0,.int .i64 0,.int .i64 0,.int .i64 0]),13,136):=by kernel_rfl
theorem zcs (S:St) (x:Ev):(doneS S x).events=S.events:=by
 unfold doneS putS tombS madeS;dsimp only
 split
 · split <;> rfl
 split <;> rfl
structure DoOk (N:Nat) (S:St) (x:Ev):Prop where
 m1:1<=x.kv.mod
 m2:x.kv.mod<=top
 last:∀ H,S.past (getT S.T x.kv.key).1=some H->(getT S.T x.kv.key).2=true->H.last < x.kv.mod
 room:x.kind=1->(getT S.T x.kv.key).2=false->S.T.length < N
 opened:x.kind≠1->∀ H,S.past (getT S.T x.kv.key).1=some H->(getT S.T x.kv.key).2=true->isOpen H.gens=true
set_option maxHeartbeats 4000000 in
theorem znz {TA:zan} {N:Nat} (hT:TreeOk TA N) {n:Nat} (hn:n<=1099511627) (w:World) (s:Nat) (S:St) (F:Nat->Prop) (hS:zaj TA w s S F) (hok:StOk n S) (x:Ev) (hx:DoOk N S x) :
 Calls Try.prog 75 #[.pointer (some ⟨s,0,none⟩),evV x] w fun e w'=>(∃ v,e = .returned v)/\∃ F',zaj TA w' s (doS S x) F'/\Fr F w w'/\(∀ b,F' b->F b\/w.heap.size<=b):=by
 have hpv:(∃ v,kvV x.kv=v):=⟨_,rfl⟩;have HS:=H_ hS;have HX:=H_ hx;have hls:=hS.lt hT;have HLS:=H_ hls;unfold evV;clear hS hx hls hpv;go_enter Try.func75,Try.ntmps75;go_upto_if 8 with fail
 go_cut [1] (fun _ wx=>Hid (wx.heap[w.heap.size]? = some (.cells #[.int .i64 x.kind,.string x.kv.key,.string x.kv.value,.int .i64 x.kv.create,.int .i64 x.kv.mod,.int .i64 x.kv.version,.int .i64 x.kv.lease,.string x.prev.key,.string x.prev.value,.int .i64 x.prev.create,.int .i64 x.prev.mod,.int .i64 x.prev.version,.int .i64 x.prev.lease] 73 (0,0)))/\∃ F1,Hid (zaj TA wx s (doneS S x) F1)/\Hid (Fr F w wx)/\Hid (∀ b,F1 b->F b\/w.heap.size < b))
 case first =>
  by_cases hk:x.kind=1
  · have hkb:(x.kind == 1)=true:=by simpa using hk
    have HK1:=H_ hk;go_wp2_with (go_at_call 111;refine (zqd hT hn _ s S F (HS.out.fr0 hT ((Fr.refl No w).alloc _)) hok x.kv (HX.out.room HK1.out) HX.out.m1 HX.out.m2 HX.out.last).mono ?_;rintro e w1 ⟨⟨v,rfl⟩,F1,hs1,hf1,hn1⟩);go_meet
    case rel =>
     have hnb:¬ F w.heap.size:=fun h=>by have:=HLS.out _ h;omega
     refine ⟨H_ (hf1.heap ?_ hnb),F1,H_ (by unfold doneS;rw [if_pos HK1.out];exact hs1),H_ (((Fr.refl F w).alloc _).trans hf1 fun _ _ h=>h),H_ fun b hb=>?_⟩
     · rw [HK1.out];exact zac _ _ _ rfl
     rcases hn1 b hb with h | h
     · exact .inl h
     simp at h;exact .inr (by omega)
  have hkb:(x.kind == 1)=false:=by simpa using hk
  obtain ⟨t,p,ev,hp,FT,FH,a,hF⟩:=HS.out;have HA:=H_ a;have HFF:=H_ hF;have hbx:=zac w (Obj.cells #[.int .i64 x.kind,.string x.kv.key,.string x.kv.value,.int .i64 x.kv.create,.int .i64 x.kv.mod,.int .i64 x.kv.version,.int .i64 x.kv.lease,.string x.prev.key,.string x.prev.value,.int .i64 x.prev.create,.int .i64 x.prev.mod,.int .i64 x.prev.version,.int .i64 x.prev.lease] 73) _ rfl;have hf0:Fr No w (w.alloc (Obj.cells #[.int .i64 x.kind,.string x.kv.key,.string x.kv.value,.int .i64 x.kv.create,.int .i64 x.kv.mod,.int .i64 x.kv.version,.int .i64 x.kv.lease,.string x.prev.key,.string x.prev.value,.int .i64 x.prev.create,.int .i64 x.prev.mod,.int .i64 x.prev.version,.int .i64 x.prev.lease] 73)):=(Fr.refl No w).alloc _;clear a hF;go_wp2_with fail
  generalize w.alloc (Obj.cells #[.int .i64 x.kind,.string x.kv.key,.string x.kv.value,.int .i64 x.kv.create,.int .i64 x.kv.mod,.int .i64 x.kv.version,.int .i64 x.kv.lease,.string x.prev.key,.string x.prev.value,.int .i64 x.prev.create,.int .i64 x.prev.mod,.int .i64 x.prev.version,.int .i64 x.prev.lease] 73)=W0 at hbx hf0 ⊢
  have c0:=HA.out.obj.cell 0 rfl;have e0:=hf0.cell0 c0;have k0:W0.cell? ⟨w.heap.size,1,none⟩=some (.string x.kv.key):=cellAt hbx 1 rfl;have ls:=HA.out.obj.lt;have lb:=zab hbx
  go_region_held (fun W=>W.cell? ⟨s,0,none⟩=some (.pointer (some ⟨t,0,none⟩))/\W.cell? ⟨w.heap.size,1,none⟩=some (.string x.kv.key))
   (first | exact ⟨e0,k0⟩ | exact ⟨hf1.cell0 e0,hf1.cell0 k0⟩)
   (first | (go_at_call 112;refine (hT.get x.kv.key (hT.fr HA.out.tree hf0.drew (fun _ _ s=>s))).mono ?_;rintro e w1 ⟨rfl,hf1⟩;unfold zeg))
  have hfA:Fr No w w1:=hf0.drew.trans0 hf1;have hbA:=hf1.heap (b:=w.heap.size) hbx id;have hsA:=HA.out.fr hT hfA fun _ _ s=>s;have l1A:=hfA.size;clear hf1 e0 k0 c0 hf0 hbx;cases hg:(getT S.T x.kv.key).2
  · go_wp2_with fail
    go_meet
    case rel=>exact ⟨H_ hbA,F,H_ (by unfold doneS tombS;rw [if_neg hk,hg];exact ⟨t,p,ev,hp,FT,FH,hsA,HFF.out⟩),H_ (hfA.mono fun _ _ s=>s.elim),H_ fun b h=>.inl h⟩
  have hidH:∃ H,S.past (getT S.T x.kv.key).1=some H:=by
   revert hg
   unfold getT
   cases hf:S.T.find? (fun q=>keq q.1 x.kv.key) with
   | none=>intro h;cases h
   | some q=>intro _;exact hok.id q (List.mem_of_find?_eq_some hf)
  obtain ⟨H,hH⟩:=hidH;obtain ⟨h,hh,g,m,FK,b,hFH⟩:=hsA.hist _ _ hH;have hids:=hok.ids _ _ hH;have hnx:=hok.next;have hwf:(Lit.int .i64 (getT S.T x.kv.key).1).wf=true:=wf64 (by omega) (by omega);have hplk:=MapAt.look (P:=Try.prog) (t:=119) hsA.map Try.underlying119 Try.underlying3 hwf (zero142 _);have hpl:((hp (getT S.T x.kv.key).1).map fun h=>Value.pointer (some ⟨h,0,none⟩)).getD (.pointer none) = .pointer (some ⟨h,0,none⟩):=(by rw [hh];rfl);have c1:=hsA.obj.cell 1 rfl;have h0:=b.obj.cell 0 rfl;have k4:w1.cell? ⟨w.heap.size,4,none⟩=some (.int .i64 x.kv.mod):=cellAt hbA 4 rfl;have lbox:w.heap.size < w1.heap.size:=zab hbA;have nKs:¬ FK s:=fun e=>hsA.ds.2.2 _ ((hFH _).2 (.inr (.inr e)));have nKp:¬ FK p:=fun e=>hsA.dp.2.2 _ ((hFH _).2 (.inr (.inr e)))
  have nKb:¬ FK w.heap.size:=fun e=>by
   have:=HA.out.lt hT _ (.inr (.inr (.inr (.inr ⟨_,(hFH _).2 (.inr (.inr e))⟩))));omega
  have lh:=b.obj.lt;have lsA:=hsA.obj.lt
  have HSW:∀ W,Fr FK w1 W->W.cell? ⟨s,1,none⟩=some (.map (some p))/\(Instr.lookup 119 (.map (some p)) (.int .i64 (getT S.T x.kv.key).1) false).run Try.prog W = .ok (.pointer (some ⟨h,0,none⟩)) W ∧
   W.cell? ⟨h,0,none⟩=some (.pointer (some ⟨g,0,none⟩))/\W.cell? ⟨w.heap.size,4,none⟩=some (.int .i64 x.kv.mod):=by
   intro W hW;refine ⟨hW.cell c1 nKs,?_,hW.cell h0 b.d1,hW.cell k4 nKb⟩;have:=MapAt.look (P:=Try.prog) (t:=119) (hsA.map.fr hW nKp) Try.underlying119 Try.underlying3 hwf (zero142 _);rw [hpl] at this;exact this
  have H1:=H_ HSW;have HSA:=H_ hsA;have HB:=H_ b;have HFH:=H_ hFH;have HHok:=H_ (hok.hist _ _ hH);clear HSW hsA b hFH hplk hpl;go_wp2_with fail
  go_region_held (fun W=>W.cell? ⟨s,1,none⟩=some (.map (some p))/\(Instr.lookup 119 (.map (some p)) (.int .i64 (getT S.T x.kv.key).1) false).run Try.prog W = .ok (.pointer (some ⟨h,0,none⟩)) W ∧
   W.cell? ⟨h,0,none⟩=some (.pointer (some ⟨g,0,none⟩))/\W.cell? ⟨w.heap.size,4,none⟩=some (.int .i64 x.kv.mod))
   (first | exact H1.out _ (Fr.refl FK w1).drew | exact H1.out _ ((Fr.refl FK w1).drew.trans hf4 fun _ _ h=>h))
   (first | (go_at_call 113;refine (zih _ g H.gens H.last x.kv.mod FK (HB.out.key.fr (Fr.refl No w1).drew (fun _ _ s=>s)) (HHok.out.1.fits hn) (HX.out.opened hk H hH hg) HX.out.m1 HX.out.m2 (HX.out.last H hH hg)).mono ?_;rintro e w4 ⟨rfl,hk4,hf4⟩))
  go_wp2_with fail;go_meet
  case rel =>
   have hf4':Fr FK w1 w4:=(Fr.refl FK w1).drew.trans hf4 fun _ _ h=>h;have hfc:Fr (FH (getT S.T x.kv.key).1) w1 w4:=hf4'.mono fun b _ e=>(HFH.out b).2 (.inr (.inr e))
   have hhist:HistAt w4 h (tombH H x.kv.mod) (fun b=>b=h\/b=m\/FK b) :=
    ⟨g,m,FK,⟨HB.out.obj.fr hf4' HB.out.d1,hk4,HB.out.map.fr hf4' HB.out.d2,HB.out.d1,HB.out.d2⟩,fun _=>Iff.rfl⟩
   have hfin:=HSA.out.setHist hT hh hfc hhist fun b hb=>.inl ((HFH.out b).2 hb)
   have heq:doneS S x = { S with past:=fun i=>if i=(getT S.T x.kv.key).1 then some (tombH H x.kv.mod) else S.past i }:=by
    unfold doneS tombS;rw [if_neg hk,hg,hH]
    rfl
   have hset:∀ b,storeF s p ev FT (fun i=>if i=(getT S.T x.kv.key).1 then (fun b=>b=h\/b=m\/FK b) else FH i) b->F b:=by
    rintro b (e | e | e | e | ⟨i,e⟩)
    · exact (HFF.out b).2 (.inl e)
    · exact (HFF.out b).2 (.inr (.inl e))
    · exact (HFF.out b).2 (.inr (.inr (.inl e)))
    · exact (HFF.out b).2 (.inr (.inr (.inr (.inl e))))
    by_cases hi:i=(getT S.T x.kv.key).1
    · rw [if_pos hi] at e
      exact (HFF.out b).2 (.inr (.inr (.inr (.inr ⟨_,(HFH.out b).2 e⟩))))
    rw [if_neg hi] at e
    exact (HFF.out b).2 (.inr (.inr (.inr (.inr ⟨i,e⟩))))
   exact ⟨H_ (hf4'.heap hbA nKb),_,H_ (by rw [heq];exact ⟨t,p,ev,hp,FT,_,hfin,fun _=>Iff.rfl⟩),
    H_ ((hfA.mono fun _ _ s=>s.elim).trans hfc fun b _ e=>(HFF.out b).2 (.inr (.inr (.inr (.inr ⟨_,e⟩))))),H_ fun b hb=>.inl (hset b hb)⟩
 case rest =>
  obtain ⟨HK,F1,HS1,HF,HN⟩:=hcut;obtain ⟨t,p,ev,hp,FT,FH,a,hF1⟩:=HS1.out;obtain ⟨ea,ecap,rfl,hc1,hc2,hea⟩:=a.events.shape;have HA:=H_ a;have HF1:=H_ hF1;have c5:=a.obj.cell 5 rfl;have f5:=a.obj.free 5;have ls:=a.obj.lt;have lb:=zab HK.out;have k0:wc.cell? ⟨w.heap.size,0,none⟩=some (.int .i64 x.kind):=(by simp [World.cell?,HK.out]);have k1:wc.cell? ⟨w.heap.size,1,none⟩=some (.string x.kv.key):=(by simp [World.cell?,HK.out]);have k2:wc.cell? ⟨w.heap.size,2,none⟩=some (.string x.kv.value):=(by simp [World.cell?,HK.out]);have k3:wc.cell? ⟨w.heap.size,3,none⟩=some (.int .i64 x.kv.create):=(by simp [World.cell?,HK.out]);have k4:wc.cell? ⟨w.heap.size,4,none⟩=some (.int .i64 x.kv.mod):=(by simp [World.cell?,HK.out])
  have k5:wc.cell? ⟨w.heap.size,5,none⟩=some (.int .i64 x.kv.version):=(by simp [World.cell?,HK.out]);have k6:wc.cell? ⟨w.heap.size,6,none⟩=some (.int .i64 x.kv.lease):=(by simp [World.cell?,HK.out]);have k7:wc.cell? ⟨w.heap.size,7,none⟩=some (.string x.prev.key):=(by simp [World.cell?,HK.out]);have k8:wc.cell? ⟨w.heap.size,8,none⟩=some (.string x.prev.value):=(by simp [World.cell?,HK.out]);have k9:wc.cell? ⟨w.heap.size,9,none⟩=some (.int .i64 x.prev.create):=(by simp [World.cell?,HK.out]);have k10:wc.cell? ⟨w.heap.size,10,none⟩=some (.int .i64 x.prev.mod):=(by simp [World.cell?,HK.out]);have k11:wc.cell? ⟨w.heap.size,11,none⟩=some (.int .i64 x.prev.version):=(by simp [World.cell?,HK.out]);have k12:wc.cell? ⟨w.heap.size,12,none⟩=some (.int .i64 x.prev.lease):=(by simp [World.cell?,HK.out]);clear a hF1
  go_wp2_with fail;obtain ⟨i0,hi0,hz0,hz1,hz2⟩:=info_parts info73;have hnew:=zas wc.drew [.int .i64 x.kind,.string x.kv.key,.string x.kv.value,.int .i64 x.kv.create,.int .i64 x.kv.mod,.int .i64 x.kv.version,.int .i64 x.kv.lease,.string x.prev.key,.string x.prev.value,.int .i64 x.prev.create,.int .i64 x.prev.mod,.int .i64 x.prev.version,.int .i64 x.prev.lease] 73 (0,0);have hel:(doneS S x).events.length<=1099511627:=(by rw [zcs];exact Nat.le_trans hok.ev hn);have hes:(Value.slice ea (doneS S x).events.length ecap).ownBlock≠some s:=HA.out.ds.2.1;have hevl:=HA.out.events.lt
  go_region_law (refine zbj rfl _ _ 34 rfl 73 i0 _ 13 136 Try.underlying34 hi0 hz0 hz1 hz2 rfl (by decide) _ (doneS S x).events rfl (HA.out.events.fr0 ((Fr.refl No wc).drew.alloc _)) wc.heap.size 1 x rfl hnew rfl (by intro u hu;simp [evC,kvC] at hu;rcases hu with rfl | rfl | rfl | rfl | rfl | rfl | rfl | rfl | rfl | rfl | rfl | rfl | rfl <;> rfl) (by unfold maxLen;omega) (by omega) ?_;intro g1 o' cap w4 hs4 hg4 hb4 hlt4;have hf4:Fr (fun k=>(Value.slice ea (doneS S x).events.length ecap).ownBlock=some k) wc w4:=((Fr.refl _ wc).drew.alloc _).grown hg4 (fun k hk=>.inl hk);have e5:=hf4.cell c5 hes;have ef:=hf4.free c5 f5 hes;have HS4:=H_ hs4;have HB4:=H_ hb4;have HF4:=H_ hf4;clear hs4 hg4 hb4 hf4)
  all_goals
   go_wp2;refine bodyPost_end (results_none rfl _ _ _) rfl ?_
   have hgs:g1≠s/\((Value.slice ea (doneS S x).events.length ecap).ownBlock=some g1\/wc.heap.size<=g1):=by
    rcases HB4.out with h | h
    · exact ⟨fun e=>hes (e ▸ h),.inl h⟩
    have h':g1=wc.heap.size+1:=by simpa using h
    exact ⟨by omega,.inr (by omega)⟩
   have hfE:Fr (fun b=>b=s\/(Value.slice ea (doneS S x).events.length ecap).ownBlock=some b) wc (w4.setCell ⟨s,5,none⟩ (.slice (some ⟨g1,o',none⟩) ((doneS S x).events.length+1) cap)) :=
    (HF4.out.mono fun _ _ h=>.inr h).setCell (p:=⟨s,5,none⟩) (.inl (.inl rfl)) _
   have ho:=(HA.out.obj.fr HF4.out hes).set 5 (.slice (some ⟨g1,o',none⟩) ((doneS S x).events.length+1) cap);have he:=HS4.out.other ⟨s,5,none⟩ (.slice (some ⟨g1,o',none⟩) ((doneS S x).events.length+1) cap) (by simp [Value.ownBlock];exact hgs.1)
   have hfin:=HA.out.setEvents hT hfE ho he (fun b hb=>by
    obtain rfl:g1=b:=by simpa [Value.ownBlock] using hb
    exact hgs.2)
   have hwc:=HF.out.size;refine ⟨⟨_,rfl⟩,_,⟨t,p,_,hp,FT,FH,hfin,fun _=>Iff.rfl⟩,?_,?_⟩
   · refine HF.out.trans hfE fun b hb e=>?_
     have h1:F1 b:=(HF1.out b).2 (by
      rcases e with e | e
      · exact .inl e
      exact .inr (.inr (.inr (.inl e))))
     rcases HN.out b h1 with h | h
     · exact h
     omega
   have old:∀ b,F1 b->F b\/w.heap.size<=b:=fun b hb=>by
    rcases HN.out b hb with h | h
    · exact .inl h
    exact .inr (by omega)
   rintro b (e | e | e | e | e)
   · exact old b ((HF1.out b).2 (.inl e))
   · exact old b ((HF1.out b).2 (.inr (.inl e)))
   · exact old b ((HF1.out b).2 (.inr (.inr (.inl e))))
   · obtain rfl:g1=b:=by simpa [Value.ownBlock] using e
     rcases hgs.2 with h | h
     · exact old _ ((HF1.out _).2 (.inr (.inr (.inr (.inl h)))))
     exact .inr (by omega)
   exact old b ((HF1.out b).2 (.inr (.inr (.inr (.inr e)))))
def putAt:List Value->Nat->List Value->List Value
 | cs,_,[]=>cs
 | cs,o,x :: xs=>putAt (cs.set o x) (o+1) xs
theorem zfx:∀ (xs:List Value) (cs:List Value) (o:Nat),(putAt cs o xs).length=cs.length
 | [],_,_=>rfl
 | x :: xs,cs,o=>by unfold putAt;rw [zfx xs,List.length_set]
theorem zfy:∀ (xs ys:List Value) (cs:List Value) (o:Nat),putAt cs o (xs++ys)=putAt (putAt cs o xs) (o+xs.length) ys
 | [],ys,cs,o=>rfl
 | x :: xs,ys,cs,o=>by
   show putAt (cs.set o x) (o+1) (xs++ys)=_
   rw [zfy xs ys];unfold putAt;rw [List.length_cons,show o+1+xs.length=o+(xs.length+1) by omega];cases ys <;> rfl
theorem zjk:∀ (xs:List Value) (cs:List Value) (o j:Nat),j < o->(putAt cs o xs)[j]? = cs[j]?
 | [],_,_,_,_=>rfl
 | x :: xs,cs,o,j,h=>by unfold putAt;rw [zjk xs _ _ _ (by omega),List.getElem?_set_ne (by omega)]
theorem zgj:∀ (xs:List Value) (cs:List Value) (o j:Nat),o+xs.length<=j->(putAt cs o xs)[j]? = cs[j]?
 | [],_,_,_,_=>rfl
 | x :: xs,cs,o,j,h=>by rw [List.length_cons] at h;unfold putAt;rw [zgj xs _ _ _ (by omega),List.getElem?_set_ne (by omega)]
theorem zni:∀ (xs:List Value) (cs:List Value) (o j:Nat),o+xs.length<=cs.length->j < xs.length->(putAt cs o xs)[o+j]? = xs[j]?
 | [],_,_,_,_,h=>by simp at h
 | x :: xs,cs,o,0,h,_=>by
   unfold putAt;rw [zjk xs _ _ _ (by omega)];rw [List.length_cons] at h;rw [Nat.add_zero,List.getElem?_set_self (by omega)]
   rfl
 | x :: xs,cs,o,j+1,h,hj=>by
   rw [List.length_cons] at h hj;unfold putAt;rw [show o+(j+1)=o+1+j by omega,zni xs _ _ _ (by rw [List.length_set];omega) (by omega)];simp
structure Cod (σ:Type) where
 c:Nat
 nf:FuncId
 tf:FuncId
 nc:Array Value
 tc:Array Value
 num:σ->Int->σ × Int
 txt:σ->ByteArray->σ × ByteArray
 bad:σ->Bool
 small:σ->Prop
 At:World->σ->(Nat->Prop)->Prop
structure CodOk {σ:Type} (C:Cod σ):Prop where
 enf:∀ args w,(callFunc C.nf args).run Try.prog w = .ok (.enter C.nf args) w
 etf:∀ args w,(callFunc C.tf args).run Try.prog w = .ok (.enter C.tf args) w
 cell:∀ w s F,C.At w s F->Has w C.c [.func (.func C.nf) #[] C.nc,.func (.func C.tf) #[] C.tc,.bool (C.bad s)]
 lt:∀ w s F,C.At w s F->∀ b,F b->b < w.heap.size
 inF:∀ w s F,C.At w s F->F C.c
 fr:∀ w w' s F S,C.At w s F->Fr S w w'->(∀ b,S b->¬ F b)->C.At w' s F
 snum:∀ s n,C.small (C.num s n).1->C.small s
 stxt:∀ s t,C.small (C.txt s t).1->C.small s
 num:∀ w s F (g:Nat) e cs i n,C.At w s F->w.heap[g]? = some (.cells (List.toArray cs) e (0,0))->cs[i]? = some (.int .i64 n)->¬ F g->C.small (C.num s n).1 →
  Calls Try.prog C.nf (#[.pointer (some ⟨g,i,none⟩)]++C.nc) w fun en w'=>en = .returned (.tuple #[])/\∃ F',C.At w' (C.num s n).1 F'/\w'.heap[g]? = some (.cells (cs.set i (.int .i64 (C.num s n).2)).toArray e (0,0)) ∧
   Fr (fun b=>F b\/b=g) w w'/\(∀ b,F' b->F b\/w.heap.size<=b)
 txt:∀ w s F (g:Nat) e cs i t,C.At w s F->w.heap[g]? = some (.cells (List.toArray cs) e (0,0))->cs[i]? = some (.string t)->¬ F g->C.small (C.txt s t).1 →
  Calls Try.prog C.tf (#[.pointer (some ⟨g,i,none⟩)]++C.tc) w fun en w'=>en = .returned (.tuple #[])/\∃ F',C.At w' (C.txt s t).1 F'/\w'.heap[g]? = some (.cells (cs.set i (.string (C.txt s t).2)).toArray e (0,0)) ∧
   Fr (fun b=>F b\/b=g) w w'/\(∀ b,F' b->F b\/w.heap.size<=b)
section
variable {σ:Type} (C:Cod σ)
def numsS:σ->List Int->σ × List Int
 | s,[]=>(s,[])
 | s,n :: ns=>((numsS (C.num s n).1 ns).1,(C.num s n).2 :: (numsS (C.num s n).1 ns).2)
def kvS (s:σ) (x:Kv):σ × Kv :=
 let k:=C.txt s x.key
 let v:=C.txt k.1 x.value
 let a:=C.num v.1 x.create
 let b:=C.num a.1 x.mod
 let c:=C.num b.1 x.version
 let d:=C.num c.1 x.lease
 (d.1,⟨k.2,v.2,a.2,b.2,c.2,d.2⟩)
def evS (s:σ) (x:Ev):σ × Ev :=
 let k:=C.num s x.kind
 let a:=kvS C k.1 x.kv
 let b:=kvS C a.1 x.prev
 (b.1,⟨k.2,a.2,b.2⟩)
theorem zhi {C:Cod σ} (K:CodOk C):∀ (ns:List Int) (s:σ),C.small (numsS C s ns).1->C.small s
 | [],_,h=>h
 | n :: ns,s,h=>K.snum s n (zhi K ns _ h)
theorem zcl {C:Cod σ} (K:CodOk C) (s:σ) (x:Kv) (h:C.small (kvS C s x).1):C.small s :=
 K.stxt _ _ (K.stxt _ _ (K.snum _ _ (K.snum _ _ (K.snum _ _ (K.snum _ _ h)))))
theorem zib {C:Cod σ} (K:CodOk C) (s:σ) (x:Ev) (h:C.small (evS C s x).1):C.small s :=
 K.snum _ _ (zcl K _ _ (zcl K _ _ h))
end
theorem zfz {σ:Type} (C:Cod σ):∀ (ns:List Int) (s:σ),(numsS C s ns).2.length=ns.length
 | [],_=>rfl
 | n :: ns,s=>by unfold numsS;simp [zfz C ns]
theorem zcq {σ:Type} (C:Cod σ):∀ (a b:List Int) (s:σ),numsS C s (a++b)=((numsS C (numsS C s a).1 b).1,(numsS C s a).2++(numsS C (numsS C s a).1 b).2)
 | [],_,_=>rfl
 | n :: a,b,s=>by simp [numsS,zcq C a b]
def ptrC (g i n:Nat):List Value:=(List.range n).map fun j=>.pointer (some ⟨g,i+j,none⟩)
set_option maxHeartbeats 4000000 in
theorem zfc {σ:Type} {C:Cod σ} (K:CodOk C) (w:World) (s:σ) (F:Nat->Prop) (g:Nat) (e:TypeId) (cs:List Value) (i:Nat) (ns:List Int) (pb:Nat) (e2:TypeId) (hA:C.At w s F) (hg:w.heap[g]? = some (.cells cs.toArray e (0,0)))
 (hc:∀ j n,ns[j]? = some n->cs[i+j]? = some (.int .i64 n)) (nF:¬ F g) (hsm:C.small (numsS C s ns).1) (hl:ns.length<=100) (hp:w.heap[pb]? = some (.cells (ptrC g i ns.length).toArray e2 (0,0))) (npF:¬ F pb) (npg:pb≠g) :
 Calls Try.prog 94 #[.pointer (some ⟨C.c,0,none⟩),.slice (some ⟨pb,0,none⟩) ns.length ns.length] w fun en w'=>en = .returned (.tuple #[])/\∃ F',C.At w' (numsS C s ns).1 F'/\w'.heap[g]? = some (.cells (putAt cs i (ints (numsS C s ns).2)).toArray e (0,0)) ∧
  Fr (fun b=>F b\/b=g) w w'/\(∀ b,F' b->F b\/w.heap.size<=b):=by
 have enf:=K.enf;have HA:=H_ hA;have HG:=H_ hg;have HP:=H_ hp;have HC:=H_ hc;have hgl:=zab hg;have hpl:=zab hp;clear hA hg hp hc;go_enter Try.func94,Try.ntmps94;go_wp2
 go_loopg [8] ns.length (fun gg s8 wr=>∃ (k:Nat) (F1:Nat->Prop),s8 = .int .i64 k/\k+gg=ns.length/\Hid (C.At wr (numsS C s (ns.take k)).1 F1)/\Hid (wr.heap[g]? = some (.cells (putAt cs i (ints (numsS C s (ns.take k)).2)).toArray e (0,0))) ∧
  Hid (Fr (fun b=>F b\/b=g) w wr)/\Hid (∀ b,F1 b->F b\/w.heap.size<=b))
 case atStart=>exact ⟨0,F,rfl,by simp,HA,HG,H_ (Fr.refl _ w),H_ fun b h=>.inl h⟩
 case round =>
  obtain ⟨k,F1,rfl,hk,H1,H2,HF,HN⟩:=hrel
  cases gk with
  | zero =>
    have hil:¬ (k:Int) < (ns.length:Int):=(by omega);go_wp2;refine bodyPost_end (results_none rfl _ _ _) rfl ?_;have hkk:ns.take k=ns:=List.take_of_length_le (by omega);rw [hkk] at H1 H2;exact ⟨rfl,F1,H1.out,H2.out,HF.out,HN.out⟩
  | succ q =>
    obtain ⟨n,hn⟩:∃ n,ns[k]? = some n:=⟨_,List.getElem?_eq_getElem (by omega)⟩;have htk:ns.take (k+1)=ns.take k++[n]:=(by rw [List.take_add_one,hn];rfl);have hsk:(numsS C s (ns.take (k+1))).1=(C.num (numsS C s (ns.take k)).1 n).1:=(by rw [htk,zcq];rfl);have hvk:(numsS C s (ns.take (k+1))).2=(numsS C s (ns.take k)).2++[(C.num (numsS C s (ns.take k)).1 n).2]:=(by rw [htk,zcq];rfl)
    have hsmk:C.small (C.num (numsS C s (ns.take k)).1 n).1:=by
     rw [<-hsk];have:=zcq C (ns.take (k+1)) (ns.drop (k+1)) s;rw [List.take_append_drop] at this;rw [this] at hsm;exact zhi K _ _ hsm
    have hlen:(ints (numsS C s (ns.take k)).2).length=k:=(by unfold ints;rw [List.length_map,zfz,List.length_take];omega);have hci:(putAt cs i (ints (numsS C s (ns.take k)).2))[i+k]? = some (.int .i64 n):=(by rw [zgj _ _ _ _ (by omega)];exact HC.out k n hn)
    have hnew:putAt cs i (ints (numsS C s (ns.take (k+1))).2)=(putAt cs i (ints (numsS C s (ns.take k)).2)).set (i+k) (.int .i64 (C.num (numsS C s (ns.take k)).1 n).2):=by
     rw [hvk];unfold ints;rw [List.map_append,zfy];have:(List.map (Value.int .i64) (numsS C s (ns.take k)).2).length=k:=hlen;rw [this]
     rfl
    have hpr:=HF.out.heap HP.out (fun h=>by rcases h with h | h;exact npF h;exact npg h)
    have pk:wr.cell? ⟨pb,k,none⟩=some (.pointer (some ⟨g,i+k,none⟩)):=by
     have h0:(ptrC g i ns.length)[k]? = some (.pointer (some ⟨g,i+k,none⟩)):=by
      unfold ptrC;rw [List.getElem?_map,List.getElem?_range (by omega)]
      rfl
     simp [World.cell?,hpr,h0]
    have hcc:=K.cell _ _ _ H1.out;have c0:=hcc.cell 0 rfl;have hcl:=hcc.lt;have hpl2:=zab hpr
    have nF1:¬ F1 g:=fun h=>by
     rcases HN.out g h with h | h
     · exact nF h
     omega
    have hnum:=K.num wr _ F1 g e _ (i+k) n H1.out H2.out hci nF1 hsmk;have HNUM:=H_ hnum;have HSK:=H_ hsk;have HNEW:=H_ hnew;clear hnum hsk hnew hci hpr hcc htk hvk hsmk;go_wp2_with (go_at_fn C.nf;refine HNUM.out.mono ?_;rintro en w2 ⟨rfl,F2,h1,h2,h3,h4⟩);go_roundg q
    case rel =>
     refine ⟨k+1,F2,rfl,by omega,H_ (by rw [HSK.out];exact h1),H_ (by rw [HNEW.out];exact h2),H_ (HF.out.trans h3 fun b hb h=>?_),H_ fun b hb=>?_⟩
     · rcases h with h | h
       · rcases HN.out b h with h | h
         · exact .inl h
         omega
       exact .inr h
     have:=HF.out.size
     rcases h4 b hb with h | h
     · exact HN.out b h
     exact .inr (by omega)
    case measure=>omega
end Go.Proofs.Ythljnnjpmdgkoaa