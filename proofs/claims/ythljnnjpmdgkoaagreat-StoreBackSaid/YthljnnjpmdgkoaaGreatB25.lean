/- Own lemmas and contracts that the claim's proof needs, laid together. The conditions stand in each. -/
import Derived.Test.YthljnnjpmdgkoaaGreatB23
import Derived.Test.YthljnnjpmdgkoaaGreatB24
import Derived.Test.YthljnnjpmdgkoaaGreatB17
import Derived.Test.YthljnnjpmdgkoaaGreatB06
import Derived.Deep.DeepCutAuto
namespace Go.Proofs.YthljnnjpmdgkoaaGreat
open Go Go.Proofs Go.RowKit
set_option maxRecDepth 100000
structure TreeDl (TA:zar):Prop where
 del:∀ {w t T F} (key:ByteArray),TA w t T F->Calls Tryz.prog 103 #[.pointer (some ⟨t,0,none⟩),.string key] w fun e w'=>e = .returned (zck (getT T key))/\∃ F',TA w' t (delT T key) F'/\Fr F w w'/\(∀ b,F' b->F b\/w.heap.size<=b)
structure CompGk (S:St) (rev:Int):Prop where
 r1:rev<=S.rev
 r2:S.mark < rev
 evs:0 < S.events.length
 nodup:(S.T.map (·.2)).Nodup
 srt:Sorted S.T
 hist:∀ p∈S.T,∀ H,S.past p.2=some H->Fits (compK rev H.gens)/\∃ l:List Int,l.length<=1099511627/\∀ r,H.kvs r≠none->r∈l
def hist8 (rev:Int) (H:Hist):Hist:={ H with gens:=compK rev H.gens }
theorem zuu {rev:Int} {H:Hist} {out:List Int} (h:∀ r,r∈out ↔ goneK (hist8 rev H) rev r) (r:Int):(if r∈out then none else (H.kvs r).map kvV)=((compH rev H).kvs r).map kvV:=by
 have h1:goneK (hist8 rev H) rev r ↔ H.kvs r≠none/\r<=rev/\r≠(atK (compK rev H.gens) rev).1.2.1:=Iff.rfl;unfold compH;dsimp only;by_cases hr:r∈out
 · have:=h1.1 ((h r).1 hr)
   rw [if_pos hr,if_pos ⟨this.2.1,this.2.2⟩]
   rfl
 rw [if_neg hr]
 split
 · rename_i hc
   cases hk:H.kvs r with
   | none=>rfl
   | some y=>exact absurd ((h r).2 (h1.2 ⟨by rw [hk];simp,hc⟩)) hr
 rfl
theorem zvc {out:List Int} {k:Nat} {c:Int} (hc:out[k]? = some c) (f:Int->Option Value):(fun m=>if m=c then none else (fun r=>if r∈out.take k then none else f r) m)=fun r=>if r∈out.take (k+1) then none else f r:=by
 funext m
 rw [List.take_add_one,hc];by_cases h:m=c
 · simp [h]
 simp [h]
set_option maxHeartbeats 16000000 in
theorem zji {TA:zar} {N:Nat} (hT:TreeOk TA N) (hTD:TreeDl TA) {n:Nat} (hn:n<=1099511627) (w:World) (s:Nat) (S:St) (F:Nat->Prop) (hS:zak TA w s S F) (hok:StOk n S) (hN:S.T.length<=1099511627) (rev:Int) (hc:CompGk S rev) :
 Calls Tryz.prog 50 #[.pointer (some ⟨s,0,none⟩),.int .i64 rev] w fun e w'=>e = .returned (.int .i64 0)/\∃ F',zak TA w' s (compS rev S) F'/\Fr F w w'/\(∀ b,F' b->F b\/w.heap.size<=b):=by
 obtain ⟨t,p,ev,hp,FT,FH,a,hF⟩:=hS;have c0:=a.obj.cell 0 rfl;have c1:=a.obj.cell 1 rfl;have c3:=a.obj.cell 3 rfl;have c4:=a.obj.cell 4 rfl;have ls:=a.obj.lt;have r1:=hc.r1;have r2:=hc.r2;have hev:=hok.ev;have hmf:∀ (fn:Fn) (first cap:Array Value) (w:World),(Instr.makeFunc fn first cap).run Tryz.prog w = .ok (.func fn first cap) w:=fun _ _ _ _=>rfl;have HA:=H_ a;have HFF:=H_ hF;have HC:=H_ hc;have HOK:=H_ hok;clear a hF hc hok;go_enter Tryz.func50,Tryz.ntmps50;go_upto_region 3 with fail;have hbx:=zad w (Obj.cells #[.int .i64 rev] 3) _ rfl;have hf0:Fr No w (w.alloc (Obj.cells #[.int .i64 rev] 3)):=(Fr.refl No w).alloc _;generalize w.alloc (Obj.cells #[.int .i64 rev] 3)=W0 at hbx hf0 ⊢
 have b0:W0.cell? ⟨w.heap.size,0,none⟩=some (.int .i64 rev):=cellAt hbx 0 rfl;have d3:=hf0.cell0 c3;have d4:=hf0.cell0 c4;have lb:=zac hbx;have ls0:s < W0.heap.size:=Nat.lt_of_lt_of_le ls hf0.size
 go_quiet (fail)
 have hq:=Fr.drewN No W0 nq;have b1:=hq.cell0 b0;have e4:=hq.cell0 d4;have lb1:w.heap.size < (W0.drewN nq).heap.size:=lb;have ls1:s < (W0.drewN nq).heap.size:=ls0;have hf1:Fr No w (W0.drewN nq):=hf0.trans0 hq;have hbx1:=hq.heap hbx id;generalize W0.drewN nq=W1 at *;clear b0 d3 d4 lb ls0 hq hf0 hbx;go_upto_region 5 with fail
 go_quiet (fail)
 have hq:=Fr.drewN No W1 nq;have hf2:Fr No w (W1.drewN nq):=hf1.trans0 hq;have hbx2:=hq.heap hbx1 id;generalize W1.drewN nq=W2 at hf2 hbx2 hq ⊢
 have ho2:Has W2 s [.pointer (some ⟨t,0,none⟩),.map (some p),.int .i64 S.next,.int .i64 S.rev,.int .i64 S.mark,ev]:=HA.out.obj.fr hf2 id;have hlt0:=hf2.size;have f4:=ho2.free 4;have d4:=ho2.cell 4 rfl;have ls2:=ho2.lt;have b2:W2.cell? ⟨w.heap.size,0,none⟩=some (.int .i64 rev):=cellAt hbx2 0 rfl;have lb2:=zac hbx2;clear b1 e4 lb1 ls1 hf1 hbx1 hq;go_upto_region 8 with fail;have ho3:=ho2.set 4 (.int .i64 rev);have hfs3:Fr (fun b=>b=s) W2 (W2.setCell ⟨s,4,none⟩ (.int .i64 rev)):=(Fr.refl _ W2).setAt 4 _;have hbx3:=hfs3.heap hbx2 (fun e=>by have e':w.heap.size=s:=e;omega);have hf3:Fr (fun b=>b=s) w (W2.setCell ⟨s,4,none⟩ (.int .i64 rev)):=(hf2.mono fun _ _ h=>h.elim).trans hfs3 fun _ _ h=>h;generalize W2.setCell ⟨s,4,none⟩ (.int .i64 rev)=W3 at ho3 hbx3 hf3 ⊢
 have hevs:SlF W3 101 13 evC ev S.events:=HA.out.events.fr hf3 fun b hb e=>HA.out.ds.2.1 (by have e':b=s:=e;rw [<-e'];exact hb);have c5:=ho3.cell 5 rfl;have f5:=ho3.free 5;have ls3:=ho3.lt;have hsz3:=hf3.size;obtain ⟨ea,ecap,rfl,he1,he2,he3⟩:=hevs.shape;have HEVS:=H_ hevs;have HO3:=H_ ho3;have HB3:=H_ hbx3;have HF3:=H_ hf3;clear f4 d4 ls2 b2 lb2 ho2 hfs3 hbx2 hf2 hevs ho3 hbx3 hf3
 go_upto_region 9 with (first
  | (go_at_call 99;refine (zgh W3 _ S.events HEVS.out HC.out.evs (by omega)).mono ?_;rintro e w4 ⟨cg,co,ccap,rfl,hcl,hf4,hcg⟩)
  | (go_at_call 98
     have hbx4:=hf4.heap HB3.out id;have hlb4:=zac HB3.out;refine (zoe w4 _ S.events w.heap.size rev (by simp [World.cell?,hbx4]) hcl (fun e=>by simp [Value.ownBlock] at e;omega) (by omega)).mono ?_;rintro e w5 ⟨dv,rfl,hdv,hf5,hdo⟩;obtain ⟨da,dcap,rfl,_,_,_⟩:=hdv.shape;have HDV:=H_ hdv;have HDOW:Hid (∀ b,(Value.slice da (S.events.filter (keptB rev)).length dcap).ownBlock=some b->W3.heap.size<=b):=H_ (fun b hb=>by have:=hdo b hb;simp [Value.ownBlock] at this;omega);have hf35:Fr No W3 w5:=hf4.trans hf5 fun b hb h=>by simp [Value.ownBlock] at h;omega
     have f55:=hf35.free0 c5 f5;have c55:=hf35.cell0 c5;have ls5:s < w5.heap.size:=Nat.lt_of_lt_of_le ls3 hf35.size))
 have ho6:Has (w5.setCell ⟨s,5,none⟩ (.slice da (S.events.filter (keptB rev)).length dcap)) s [.pointer (some ⟨t,0,none⟩),.map (some p),.int .i64 S.next,.int .i64 S.rev,.int .i64 rev,.slice da (S.events.filter (keptB rev)).length dcap]:=(HO3.out.fr hf35 id).set 5 _;have hfs6:Fr (fun b=>b=s) w5 (w5.setCell ⟨s,5,none⟩ (.slice da (S.events.filter (keptB rev)).length dcap)):=(Fr.refl _ w5).setAt 5 _;have hf6:Fr (fun b=>b=s) w (w5.setCell ⟨s,5,none⟩ (.slice da (S.events.filter (keptB rev)).length dcap)):=(HF3.out.trans0 hf35).trans hfs6 fun _ _ h=>h;have hbx6:=hfs6.heap (hf35.heap HB3.out id) (fun e=>by have e':w.heap.size=s:=e;omega)
 have hse6:SlF (w5.setCell ⟨s,5,none⟩ (.slice da (S.events.filter (keptB rev)).length dcap)) 101 13 evC (.slice da (S.events.filter (keptB rev)).length dcap) (S.events.filter (keptB rev)):=HDV.out.fr hfs6 fun b hb e=>by have e':b=s:=e;have:=HDOW.out b hb;omega
 have HSE6:=H_ hse6;clear hse6;generalize w5.setCell ⟨s,5,none⟩ (.slice da (S.events.filter (keptB rev)).length dcap)=W6 at *;have htree:TA W6 t S.T FT:=hT.fr HA.out.tree hf6 fun b hb e=>HA.out.ds.1 (by have e':b=s:=e;rw [<-e'];exact hb)
 have hmap:MapAt W6 p fun i=>(hp i).map fun h=>.pointer (some ⟨h,0,none⟩):=HA.out.map.fr hf6 fun e=>by
  have e':p=s:=e;exact HA.out.map.apart HA.out.obj e'
 have hhist:∀ i H,S.past i=some H->∃ h,hp i=some h/\HistAt W6 h H (FH i):=fun i H hi=>by
  obtain ⟨h,h1,h2⟩:=HA.out.hist i H hi;exact ⟨h,h1,h2.fr hf6 fun b hb e=>HA.out.ds.2.2 i (by have e':b=s:=e;rw [<-e'];exact hb)⟩
 have c06:=ho6.cell 0 rfl;have ls6:=ho6.lt;have hrng:=fun W (h:Fr No W6 W)=>hT.range (w:=W) (t:=t) (T:=S.T) (F:=FT) ⟨#[]⟩ ⟨#[]⟩ (hT.fr htree h fun _ _ s=>s);simp only [zgp] at hrng;have hlen:=fun W (h:Fr No W6 W)=>hT.len (w:=W) (t:=t) (T:=S.T) (F:=FT) (hT.fr htree h fun _ _ s=>s);have HRNG:=H_ hrng;have HLEN:=H_ hlen;have HO6:=H_ ho6;have HF6:=H_ hf6;have HB6:=H_ hbx6;have HM6:=H_ hmap;have HH6:=H_ hhist;clear hrng hlen ho6 hf6 hbx6 hmap hhist htree hfs6 hf35 f55 c55 ls5 hcl hf4 hdv hf5 hdo
 go_region_held3 (fun W=>W.cell? ⟨s,0,none⟩=some (.pointer (some ⟨t,0,none⟩)))
  (first | assumption | exact hf7.cell0 c06)
  (first
    | (go_at_call 61;refine (HLEN.out _ (by (repeat (first | with_reducible exact Fr.refl _ _ | with_reducible refine Fr.drew ?_));done)).mono ?_;rintro e w' ⟨rfl,rfl⟩)
    | (go_at_call 60;refine (HRNG.out _ (by (repeat (first | with_reducible exact Fr.refl _ _ | with_reducible refine Fr.drew ?_));done)).mono ?_;rintro e w7 ⟨pv,rfl,hpv,hf7,hpn⟩;obtain ⟨pa,pcap,rfl,hp1,hp2,hp3⟩:=hpv.shape))
 have hfF6:Fr F w W6:=HF6.out.mono fun b _ e=>by
  have e':b=s:=e;rw [e'];exact (HFF.out s).2 (.inl rfl)
 have hf67:Fr No W6 w7:=(by first | exact hf7 | exact (Fr.refl No W6).drew.trans0 hf7);have hFlt:∀ b,F b->b < w.heap.size:=fun b hb=>HA.out.lt hT b ((HFF.out b).1 hb);have hw6:w.heap.size<=W6.heap.size:=hfF6.size;have hpn6:∀ b,(Value.slice pa S.T.length pcap).ownBlock=some b->W6.heap.size<=b:=fun b hb=>by have:=hpn b hb;have h':W6.heap.size<=b:=this;omega
 -- the store behind the events were cut
 have hdow:=HDOW.out;have hevl:∀ b,(Value.slice ea S.events.length ecap).ownBlock=some b->b < w.heap.size:=HA.out.events.lt
 have hr6:StoreR TA W6 s t p (.slice da (S.events.filter (keptB rev)).length dcap) hp FT FH (compTo rev S 0):=by
  rw [zog]
  exact {
   obj:=HO6.out
   tree:=hT.fr HA.out.tree HF6.out fun b hb e=>HA.out.ds.1 (by have e':b=s:=e;rw [<-e'];exact hb)
   map:=HM6.out
   events:=HSE6.out
   hist:=HH6.out
   gone:=HA.out.gone
   ds:=⟨HA.out.ds.1,fun h=>by have:=hdow s h;omega,HA.out.ds.2.2⟩
   dp:=⟨HA.out.dp.1,fun h=>by have:=hdow p h;have:=HA.out.map.lt;omega,HA.out.dp.2.2⟩
   dt:=fun b hb=>⟨fun h=>by have:=hdow b h;have:=hT.lt HA.out.tree b hb;omega,(HA.out.dt b hb).2⟩
   de:=fun b hb i h=>by have:=hdow b hb;have:=hFlt b ((HFF.out b).2 (.inr (.inr (.inr (.inr ⟨i,h⟩)))));omega
   dh:=HA.out.dh }
 have hr7:=hr6.fr hT hf67 fun _ _ h=>h
 have hG:∀ b,storeF s p (.slice da (S.events.filter (keptB rev)).length dcap) FT FH b->(F b\/W3.heap.size<=b)/\b < W6.heap.size:=fun b hb=>by
  refine ⟨?_,hr6.lt hT b hb⟩;rcases hb with h | h | h | h | h
  · exact .inl ((HFF.out b).2 (.inl h))
  · exact .inl ((HFF.out b).2 (.inr (.inl h)))
  · exact .inl ((HFF.out b).2 (.inr (.inr (.inl h))))
  · exact .inr (hdow b h)
  exact .inl ((HFF.out b).2 (.inr (.inr (.inr (.inr h)))))
 have hb7:=hf67.heap HB6.out id;have hinit:Fr F w w7:=hfF6.trans0 hf67;have HINIT:=H_ hinit;have HR7:=H_ hr7;have HG7:=H_ hG;have HB7:=H_ hb7;have HPV:=H_ hpv;have HPN:=H_ hpn6;have HFL:=H_ hFlt;have HP3:=H_ hp3;have hs67:W6.heap.size<=w7.heap.size:=hf67.size
 have HNX:Hid (s < w.heap.size/\∀ i H,S.past i=some H->(Lit.int .i64 i).wf=true):=H_ ⟨ls,fun i H hi=>by
  have:=HOK.out.ids i H hi;have:=HOK.out.next;exact wf64 (by omega) (by omega)⟩
 have hw3:w.heap.size < W3.heap.size:=zac HB3.out;clear hfF6 hf67 hFlt hpn6 hpv hp3 hinit hr6 hr7 hG hb7 hpn hf7 c06 hdow hevl HRNG HLEN HO6 HF6 HB6 HM6 HH6 HEVS HO3 HB3 HF3 HSE6 HDV HDOW;generalize hevv:(Value.slice da (S.events.filter (keptB rev)).length dcap)=evv at *;clear hevv;go_wp2
 go_loopg [52] S.T.length (fun gg s52 wr=>∃ (i:Nat) (hp1:Int->Option Nat) (FT1:Nat->Prop) (FH1:Int->Nat->Prop),s52 = .int .i64 i/\i+gg=S.T.length/\Hid (StoreR TA wr s t p evv hp1 FT1 FH1 (compTo rev S i)) ∧
  Hid (∀ b,storeF s p evv FT1 FH1 b->storeF s p evv FT FH b\/w7.heap.size<=b)/\Hid (Fr (storeF s p evv FT FH) w7 wr))
 case atStart=>exact ⟨0,hp,FT,FH,rfl,by simp,HR7,H_ (fun b h=>.inl h),H_ (Fr.refl _ _)⟩
 case round =>
  obtain ⟨i,hp1,FT1,FH1,rfl,hi,HR,HSF,HFR⟩:=hrel
  have hfin:∀ {W:World},Fr (storeF s p evv FT FH) w7 W->Fr F w W:=fun {W} h=>HINIT.out.trans h fun b hb hx=>by
   rcases (HG7.out b hx).1 with h | h
   · exact h
   omega
  have HFIN:Hid (∀ {W:World},Fr (storeF s p evv FT FH) w7 W->Fr F w W):=H_ hfin;clear hfin
  cases gk with
  | zero =>
    have hil:¬ (i:Int) < (S.T.length:Int):=(by omega);have hie:i=S.T.length:=(by omega);subst hie;go_wp2;go_ret;refine ⟨rfl,storeF s p evv FT1 FH1,⟨t,p,evv,hp1,FT1,FH1,HR.out,fun b=>Iff.rfl⟩,HFIN.out HFR.out,fun b hb=>?_⟩;rcases HSF.out b hb with h | h
    · rcases (HG7.out b h).1 with h | h
      · exact .inl h
      exact .inr (by omega)
    exact .inr (by omega)
  | succ gg =>
    have hil:(i:Int) < (S.T.length:Int):=(by omega);obtain ⟨gb,go,rfl⟩:=HP3.out (by omega);obtain ⟨⟨key,id⟩,hx⟩:∃ q,S.T[i]? = some q:=⟨_,List.getElem?_eq_getElem (by omega)⟩;have hslr:=HPV.out.fr HFR.out (fun b hb h=>by have:=HPN.out b hb;have:=(HG7.out b h).2;omega);have x0:=hslr.cell0 zae i hx rfl;have x1:=hslr.cell zae i 1 hx rfl;obtain ⟨H,hH⟩:=HOK.out.id _ (List.mem_of_getElem? hx);dsimp only at hH;obtain ⟨hgf,hgl⟩:=HC.out.hist _ (List.mem_of_getElem? hx) H hH;have hHi:(compTo rev S i).past id=some H:=(zoh HC.out.nodup hx).trans hH;obtain ⟨h,hph,hhist⟩:=HR.out.hist id H hHi;have hwf:(Lit.int .i64 id).wf=true:=HNX.out.2 id H hH;have hHok:=(HOK.out.hist _ _ hH).1;obtain ⟨g,m,FK,b,hFH⟩:=hhist
    have hpl:((hp1 id).map fun h=>Value.pointer (some ⟨h,0,none⟩)).getD (.pointer none) = .pointer (some ⟨h,0,none⟩):=(by rw [hph];rfl);have c1:=HR.out.obj.cell 1 rfl;have h0:=b.obj.cell 0 rfl
    have nbx:¬ storeF s p evv FT FH w.heap.size:=fun hb=>by
     rcases (HG7.out _ hb).1 with h | h
     · have:=HFL.out _ h;omega
     omega
    have nbx1:¬ storeF s p evv FT1 FH1 w.heap.size:=fun hb=>by
     have h7:=zac HB7.out;rcases HSF.out _ hb with h | h
     · exact nbx h
     omega
    have hbxr:=HFR.out.heap HB7.out nbx;have hbx0:=cellAt hbxr 0 rfl;have lsr:=HR.out.obj.lt;have lhr:=b.obj.lt;have lbr:=zac hbxr
    have hSW:∀ W,Fr No wr W->W.cell? ⟨s,1,none⟩=some (.map (some p))/\(Instr.lookup 105 (.map (some p)) (.int .i64 id) false).run Tryz.prog W = .ok (.pointer (some ⟨h,0,none⟩)) W/\W.cell? ⟨h,0,none⟩=some (.pointer (some ⟨g,0,none⟩))/\W.cell? ⟨w.heap.size,0,none⟩=some (.int .i64 rev):=by
     intro W hW;refine ⟨hW.cell0 c1,?_,hW.cell0 h0,hW.cell0 hbx0⟩;have:=MapAt.look (P:=Tryz.prog) (t:=105) (HR.out.map.fr hW fun h=>h) Tryz.underlying105 Tryz.underlying3 hwf (zero142 _);rw [hpl] at this;exact this
    have hcp:=fun W (hW:Fr No wr W)=>zgd W g H.gens H.last rev FK (b.key.fr hW fun _ _ h=>h) (hHok.fits hn);have hFi:∀ b,FH1 id b->storeF s p evv FT1 FH1 b:=fun b hb=>.inr (.inr (.inr (.inr ⟨_,hb⟩)));have HFI:=H_ hFi;have HSW:=H_ hSW;have HCP:=H_ hcp;have HGF:=H_ hgf;have HGL:=H_ hgl;have HB:=H_ b;have HFH:=H_ hFH;have HX:=H_ hx;have HHH:=H_ hH;have HPH:=H_ hph;have HWF:=H_ hwf;have HBX:=H_ hbxr;clear hpl hSW hcp b hFH hx hgf hgl hHok hH hHi hbx0 h0 c1 hslr hph hwf hFi hbxr nbx;go_upto_region 12 with fail;have hkb:=zad wr (Obj.cells #[.string key,.int .i64 id] 122) _ rfl;have hfa:Fr No wr (wr.alloc (Obj.cells #[.string key,.int .i64 id] 122)):=(Fr.refl No wr).alloc _;generalize wr.alloc (Obj.cells #[.string key,.int .i64 id] 122)=W1 at hkb hfa ⊢
    have k1:=cellAt hkb 1 rfl;have lk:=zac hkb;have ls1:s < W1.heap.size:=Nat.lt_of_lt_of_le lsr hfa.size;have lh1:h < W1.heap.size:=Nat.lt_of_lt_of_le lhr hfa.size;have lb1:w.heap.size < W1.heap.size:=Nat.lt_of_lt_of_le lbr hfa.size;obtain ⟨q1,q2,q3,q4⟩:=HSW.out W1 hfa;have q2':(Instr.lookup 105 (.map (some p)) (.int .i64 id) false).run Tryz.prog W1.drew = .ok (.pointer (some ⟨h,0,none⟩)) W1.drew:=(HSW.out W1.drew hfa.drew).2.1
    go_region_held3 (fun W=>W.cell? ⟨s,1,none⟩=some (.map (some p))/\W.cell? ⟨wr.heap.size,1,none⟩=some (.int .i64 id)/\(Instr.lookup 105 (.map (some p)) (.int .i64 id) false).run Tryz.prog W = .ok (.pointer (some ⟨h,0,none⟩)) W)
     (first | exact ⟨q1,k1,q2⟩ | exact ⟨q1,k1,q2'⟩)
     (fail)
    have hfd:Fr No wr W1.drew:=hfa.drew;have hkb2:W1.drew.heap[wr.heap.size]? = some (.cells #[.string key,.int .i64 id] 122 (0,0)):=hkb;have ls2:s < W1.drew.heap.size:=ls1;have lh2:h < W1.drew.heap.size:=lh1;have lb2:w.heap.size < W1.drew.heap.size:=lb1;have lk2:wr.heap.size < W1.drew.heap.size:=lk;generalize W1.drew=W2 at hfd hkb2 ls2 lh2 lb2 lk2 ⊢
    have y0:=HB.out.obj.fr hfd (fun h=>h) |>.cell 0 rfl;have y1:=(HSW.out W2 hfd).2.2.2;have HKB:=H_ hkb2;clear q1 q2 q3 q4 q2' k1 hkb hfa lk ls1 lh1 lb1 hkb2;go_upto_region 13 with fail;have nbK:¬ FK w.heap.size:=fun hb=>nbx1 (HFI.out _ ((HFH.out _).2 (.inr (.inr hb))));have nh:¬ FK h:=HB.out.d1;have hfd2:=hfd.drew;have HFD:=H_ hfd;have HFD2:=H_ hfd2;clear hfd hfd2;by_cases hck:compK rev H.gens = []
    · rw [hck] at HCP
      simp only [List.length_nil,Nat.lt_irrefl,decide_false] at HCP
      go_region_held3 (fun W=>W.cell? ⟨h,0,none⟩=some (.pointer (some ⟨g,0,none⟩))/\W.cell? ⟨w.heap.size,0,none⟩=some (.int .i64 rev))
       (first | exact ⟨y0,y1⟩ | exact ⟨hf8.cell y0 nh,hf8.cell y1 nbK⟩)
       (first | (go_at_call 102;refine (HCP.out _ (by first | with_reducible exact HFD.out | with_reducible exact HFD2.out)).mono ?_;rintro e w8 ⟨rfl,hf8,FK8,hk8,hsub8⟩))
      have hf18:Fr FK wr w8:=(HFD2.out.mono fun _ _ h=>h.elim).trans hf8 fun _ _ h=>h;have hh8:HistAt w8 h (hist8 rev H) (fun b=>b=h\/b=m\/FK8 b):=⟨g,m,FK8,⟨HB.out.obj.fr hf18 HB.out.d1,by unfold hist8;rw [hck];exact hk8,HB.out.map.fr hf18 HB.out.d2,fun h'=>HB.out.d1 (hsub8 _ h'),fun h'=>HB.out.d2 (hsub8 _ h')⟩,fun b=>Iff.rfl⟩;have hfh8:Fr (FH1 id) wr w8:=hf18.mono fun b _ h=>(HFH.out b).2 (.inr (.inr h));have hr8:=HR.out.setHist hT HPH.out hfh8 hh8 (fun b hb=>.inl ((HFH.out b).2 (hb.imp (fun h=>h) (Or.imp (fun h=>h) (hsub8 b)))));have z0:=hr8.obj.cell 0 rfl;have hkb8:=hf8.heap (show W2.drew.heap[wr.heap.size]? = _ from HKB.out) (fun hb=>by have:=HB.out.key.lt _ hb;omega);have z1:=cellAt hkb8 0 rfl;have lk8:=zac hkb8;have ls8:s < w8.heap.size:=Nat.lt_of_lt_of_le lsr hf18.size
      have hdl:=fun W (hW:Fr No w8 W)=>hTD.del (w:=W) (t:=t) (T:=(compTo rev S i).T) (F:=FT1) key (hT.fr hr8.tree hW fun _ _ h=>h);have HDL:=H_ hdl;have HR8:=H_ hr8;have HFH8:=H_ hfh8;have HKB8:=H_ hkb8;have nT1:¬ FT1 s:=HR.out.ds.1;have nT2:¬ FT1 wr.heap.size:=fun hb=>by have:=hT.lt HR.out.tree _ hb;omega
      clear hf18 hh8 hk8 hf8 hdl hr8 hfh8 hkb8 y0 y1 ls2 lh2 lb2 lk2 hsub8;go_upto_region 14 with fail
      go_region_held3 (fun W=>W.cell? ⟨s,0,none⟩=some (.pointer (some ⟨t,0,none⟩))/\W.cell? ⟨wr.heap.size,0,none⟩=some (.string key))
       (first | exact ⟨z0,z1⟩ | exact ⟨hf9.cell z0 nT1,hf9.cell z1 nT2⟩)
       (first | (go_at_call 103;refine (HDL.out _ (by (repeat (first | with_reducible exact Fr.refl _ _ | with_reducible refine Fr.drew ?_));done)).mono ?_;rintro e w9 ⟨rfl,FT9,ht9,hf9,hn9⟩))
      have hf89:Fr FT1 w8 w9:=(by first | exact hf9 | exact ((Fr.refl No w8).drew.mono fun _ _ h=>h.elim).trans hf9 fun _ _ h=>h);have hr9:=HR8.out.setTree hT hf89 ht9 hn9;have u1:=hr9.obj.cell 1 rfl;have hkb9:=hf89.heap HKB8.out nT2;have u2:=cellAt hkb9 1 rfl;have lk9:=zac hkb9;have ls9:s < w9.heap.size:=Nat.lt_of_lt_of_le ls8 hf89.size;obtain ⟨w11,hrun,r1,r2,r3⟩:=hr9.map.drop (P:=Tryz.prog) Tryz.underlying105 Tryz.underlying3 HWF.out 0;obtain ⟨w12,hrun2,r4,r5,r6⟩:=(hr9.map.fr (Fr.refl No w9).drew fun h=>h).drop (P:=Tryz.prog) Tryz.underlying105 Tryz.underlying3 HWF.out 0;have HR9:=H_ hr9;have R1:=H_ r1;have R2:=H_ r2;have R4:=H_ r4;have R5:=H_ r5;have HF89:=H_ hf89;have HN9:=H_ hn9;clear hr9 hf89 hkb9 ht9 hf9 hn9 z0 z1 r1 r2 r4 r5;go_upto_region 15 with fail
      go_region
      have HCK:=H_ hck;clear hck;go_wp2;go_roundg gg
      case rel =>
       have hq:Fr No w9 w9.drew:=(Fr.refl No w9).drew;have hrd:=(HR9.out.fr hT hq fun _ _ h=>h).dropHist hT id R5.out R4.out
       have he:compTo rev S (i+1) = { { { compTo rev S i with past:=fun i_1=>if i_1=id then some (hist8 rev H) else (compTo rev S i).past i_1 } with T:=delT (compTo rev S i).T key } with past:=fun i_1=>if i_1=id then none else if i_1=id then some (hist8 rev H) else (compTo rev S i).past i_1 }:=by
        rw [zoj HC.out.srt HX.out HHH.out HCK.out];dsimp only
        congr 1
        funext j
        by_cases hj:j=id <;> simp [hj]
       have hs1:=HFR.out.size;have hs2:=HFH8.out.size;have hs3:=HF89.out.size;refine ⟨i+1,_,FT9,_,by go_num,by omega,H_ (by rw [he];exact hrd),H_ fun b hb=>?_,H_ ((((HFR.out.trans HFH8.out fun b hb h=>?_).trans HF89.out fun b hb h=>?_).trans0 hq).trans R5.out fun b hb h=>?_)⟩
       · rcases hb with h | h | h | h | ⟨j,hj,h⟩
         · exact HSF.out b (.inl h)
         · exact HSF.out b (.inr (.inl h))
         · rcases HN9.out b h with h | h
           · exact HSF.out b (.inr (.inr (.inl h)))
           exact .inr (by have h':w8.heap.size<=b:=h;omega)
         · exact HSF.out b (.inr (.inr (.inr (.inl h))))
         rw [if_neg hj] at h
         exact HSF.out b (HFI.out b |> fun _=>.inr (.inr (.inr (.inr ⟨j,h⟩))))
       · rcases HSF.out b (HFI.out b h) with h | h
         · exact h
         omega
       · rcases HSF.out b (.inr (.inr (.inl h))) with h | h
         · exact h
         omega
       have h':b=p:=h
       exact .inr (.inl h')
      case measure=>omega
    have hlen:0 < (compK rev H.gens).length:=List.length_pos_iff.2 hck
    rw [decide_eq_true hlen] at HCP
    go_region_held3 (fun W=>W.cell? ⟨h,0,none⟩=some (.pointer (some ⟨g,0,none⟩))/\W.cell? ⟨w.heap.size,0,none⟩=some (.int .i64 rev))
     (first | exact ⟨y0,y1⟩ | exact ⟨hf8.cell y0 nh,hf8.cell y1 nbK⟩)
     (first | (go_at_call 102;refine (HCP.out _ (by first | with_reducible exact HFD.out | with_reducible exact HFD2.out)).mono ?_;rintro e w8 ⟨rfl,hf8,FK8,hk8,hsub8⟩))
    have hf18:Fr FK wr w8:=(HFD2.out.mono fun _ _ h=>h.elim).trans hf8 fun _ _ h=>h;have hh8:HistAt w8 h (hist8 rev H) (fun b=>b=h\/b=m\/FK8 b):=⟨g,m,FK8,⟨HB.out.obj.fr hf18 HB.out.d1,hk8,HB.out.map.fr hf18 HB.out.d2,fun h'=>HB.out.d1 (hsub8 _ h'),fun h'=>HB.out.d2 (hsub8 _ h')⟩,fun b=>Iff.rfl⟩;have hgb:=zki w8 h (hist8 rev H) rev (fun b=>b=h\/b=m\/FK8 b) hh8 HGF.out HGL.out;have HGB:=H_ hgb;have HK8:=H_ hk8;have HSUB:=H_ hsub8;have HF18:=H_ hf18;have lh8:h < w8.heap.size:=Nat.lt_of_lt_of_le lhr hf18.size;have lb8:w.heap.size < w8.heap.size:=Nat.lt_of_lt_of_le lbr hf18.size;have y18:=hf8.cell (show W2.drew.cell? ⟨w.heap.size,0,none⟩=some (.int .i64 rev) from y1) nbK;clear hf18 hh8 hk8 hf8 hgb hsub8 y0 y1 ls2 lh2 lb2 lk2 hlen
    go_wp2_with (go_at_call 104;refine HGB.out.mono ?_;rintro e w9 ⟨dv,out,rfl,hdv,hf9,hdo,hdg⟩;obtain ⟨oa,ocap,rfl,ho1,ho2,ho3⟩:=hdv.shape);have hf19:Fr FK wr w9:=HF18.out.trans0 hf9;have hm9:MapAt w9 m fun r=>(H.kvs r).map kvV:=HB.out.map.fr hf19 HB.out.d2
    have hwfs:∀ c∈out,(Lit.int .i64 c).wf=true:=fun c hc=>by
     have h1:H.kvs c≠none:=((hdg c).1 hc).1;obtain ⟨es,clock,e1,e2,e3,e4⟩:=hm9
     cases hkv:H.kvs c with
     | none=>exact absurd hkv h1
     | some x =>
       obtain ⟨en,he,hk,_⟩:=e4 c (kvV x) (by simp [hkv]);obtain ⟨n',hn',hw',_⟩:=e3 en he;rw [hk] at hn';cases hn'
       exact hw'
    have HF19:=H_ hf19;have HF9:=H_ hf9;have HM9:Hid (MapAt w9 m fun r=>if r∈out.take 0 then none else (H.kvs r).map kvV):=H_ (by simpa using hm9);have HDV:=H_ hdv;have HDO:Hid (∀ b,(Value.slice oa out.length ocap).ownBlock=some b->w8.heap.size<=b):=H_ hdo;have HDG:=H_ hdg;have HWFS:=H_ hwfs;have HO3:=H_ ho3;have HCK:=H_ hck;clear hf19 hm9 hdv hdo hwfs ho3 hdg hf9 hck;obtain ⟨wo,hwo⟩:∃ wo,wo=wr:=⟨_,rfl⟩;subst hwo
    go_loopg [87] out.length (fun g2 s87 wr2=>∃ k:Nat,s87 = .int .i64 k/\k+g2=out.length/\Hid (Fr (fun b=>b=m) w9 wr2)/\Hid (MapAt wr2 m fun r=>if r∈out.take k then none else (H.kvs r).map kvV))
    case atStart=>exact ⟨0,rfl,by simp,H_ (Fr.refl _ w9),HM9⟩
    case round =>
     obtain ⟨k,rfl,hk,HF2,HM2⟩:=hrel;have hFm:FH1 id m:=(HFH.out m).2 (.inr (.inl rfl))
     cases gk with
     | zero =>
       have hkl:¬ (k:Int) < (out.length:Int):=(by omega)
       have hmm:MapAt wr m fun r=>((compH rev H).kvs r).map kvV:=by
        have h1:=HM2.out;rw [List.take_of_length_le (by omega)] at h1;have h2:(fun r=>if r∈out then none else (H.kvs r).map kvV)=fun r=>((compH rev H).kvs r).map kvV:=funext fun r=>zuu HDG.out r;rw [h2] at h1;exact h1
       have hfin:Fr (FH1 id) wo wr:=(HF19.out.mono fun b _ h=>(HFH.out b).2 (.inr (.inr h))).trans HF2.out fun b _ e=>by
        have e':b=m:=e;rw [e'];exact hFm
       have hd1:¬ FK8 h:=fun h'=>HB.out.d1 (HSUB.out _ h');have hd2:¬ FK8 m:=fun h'=>HB.out.d2 (HSUB.out _ h');have hhf:HistAt wr h (compH rev H) (fun b=>b=h\/b=m\/FK8 b):=⟨g,m,FK8,⟨(HB.out.obj.fr HF19.out HB.out.d1).fr HF2.out fun e=>HB.out.map.apart HB.out.obj (by have e':h=m:=e;exact e'.symm),(HK8.out.fr HF9.out fun _ _ h=>h).fr HF2.out fun b hb e=>hd2 (by have e':b=m:=e;rw [<-e'];exact hb),hmm,hd1,hd2⟩,fun b=>Iff.rfl⟩;have hsubF:∀ b,(b=h\/b=m\/FK8 b)->FH1 id b:=fun b hb=>(HFH.out b).2 (hb.imp (fun h=>h) (Or.imp (fun h=>h) (HSUB.out b)));have hrf:=HR.out.setHist hT HPH.out hfin hhf fun b hb=>.inl (hsubF b hb);have HRF:=H_ hrf;have HFINB:=H_ hfin;have HSB:=H_ hsubF;clear hrf hfin hsubF hhf hmm hd1 hd2;go_wp2;go_roundg gg
       case rel =>
        refine ⟨i+1,hp1,FT1,_,by go_num,by omega,H_ (by rw [zoi HX.out HHH.out HCK.out];exact HRF.out),H_ fun b hb=>?_,H_ (HFR.out.trans HFINB.out fun b hb h=>?_)⟩
        · refine HSF.out b ?_
          rcases hb with h | h | h | h | ⟨j,h⟩
          · exact .inl h
          · exact .inr (.inl h)
          · exact .inr (.inr (.inl h))
          · exact .inr (.inr (.inr (.inl h)))
          refine .inr (.inr (.inr (.inr ⟨j,?_⟩)))
          by_cases hj:j=id
          · rw [if_pos hj] at h;rw [hj];exact HSB.out b h
          rw [if_neg hj] at h;exact h
        rcases HSF.out b (HFI.out b h) with h | h
        · exact h
        omega
       case measure=>omega
     | succ g2 =>
       obtain ⟨ob,oo,rfl⟩:=HO3.out (by omega);obtain ⟨c,hc⟩:∃ c,out[k]? = some c:=⟨_,List.getElem?_eq_getElem (by omega)⟩;have hkl:(k:Int) < (out.length:Int):=(by omega)
       have hkb:(k:Int)+1<=9223372036854775807:=by
        have h1:=ho1;have h2:=ho2;unfold maxLen at h2;omega
       have hmw9:m < w8.heap.size:=Nat.lt_of_lt_of_le HB.out.map.lt HF18.out.size
       have hdv2:=HDV.out.fr HF2.out fun b hb e=>by
        have e':b=m:=e;have:=HDO.out b hb;omega
       have z0:=hdv2.cell1 zdx k hc rfl;have zh:wr.cell? ⟨h,1,none⟩=some (.map (some m)):=((HB.out.obj.fr HF19.out HB.out.d1).fr HF2.out fun e=>HB.out.map.apart HB.out.obj (by have e':h=m:=e;exact e'.symm)).cell 1 rfl;have lhr2:h < wr.heap.size:=(by have:=World.block_lt_of_cell? _ _ zh;exact this);obtain ⟨w11,hrun,r1,r2,r3⟩:=HM2.out.drop (P:=Tryz.prog) Tryz.underlying169 Tryz.underlying3 (HWFS.out c (List.mem_of_getElem? hc)) 0;rw [zvc hc] at r1;have R1:=H_ r1;have R2:=H_ r2;clear r1 r2 hdv2 hc;go_wp2;go_roundg g2
       case rel=>exact ⟨k+1,by go_num,by omega,H_ (HF2.out.trans R2.out fun _ _ h=>h),R1⟩
       case measure=>omega
def rangeE (S:St) (g:Rg):Int:=if askE g≠0 then askE g else whenE S g.rev
set_option maxHeartbeats 4000000 in
theorem ztt {TA:zar} {N:Nat} (hT:TreeOk TA N) (w:World) (s:Nat) (S:St) (F:Nat->Prop) (hS:zak TA w s S F) (g:Rg) (hks:g.key.size<=1099511627776) (hE:rangeE S g≠0) :
 Calls Tryz.prog 46 #[.pointer (some ⟨s,0,none⟩),rgV g] w fun e w'=>e = .returned (.tuple #[.slice none 0 0,.int .i64 0,.bool false,.int .i64 (rangeE S g)])/\Fr No w w':=by
 have ha:=fun W=>zfj W g hks;have hw:=fun W (h:Fr No w W)=>zdf W s S F (hS.fr0 hT h) g.rev;unfold rangeE at *;obtain ⟨g1,g2,g3,g4,g5,g6,g7⟩:=g;unfold rgV at *;dsimp only at *;generalize askE _=a at *;generalize whenE S g3=b at *;have HA:=H_ ha;have HW:=H_ hw;clear ha hw hks hS;by_cases h1:a=0
 · subst h1
   have hE':b≠0:=(by simpa using hE);have h2':(b == 0)=false:=(by simpa using hE');rw [if_neg (by simp)];clear hE;go_enter Tryz.func46,Tryz.ntmps46
   go_wp2_with (first
    | (go_at_call 97;refine (HA.out _).mono ?_;rintro e w1 ⟨rfl,hf⟩
       have hf1:Fr No w w1:=((Fr.refl No w).alloc _).trans0 hf;have hb:w1.heap[w.heap.size]? = some (.cells #[.string g1,.string g2,.int .i64 g3,.int .i64 g4,.bool g5,.bool g6,.bool g7] 35 (0,0)):=hf.heap (zad _ _ _ rfl) id;have x2:w1.cell? ⟨w.heap.size,2,none⟩=some (.int .i64 g3):=cellAt hb 2 rfl)
    | (go_at_call 84;refine (HW.out _ hf1).mono ?_;rintro e w2 ⟨rfl,rfl⟩))
   (try simp only [Exit.inBlock,Exit.then]);refine bodyPost_ret (zeq rfl _ _ _) rfl ?_
   exact ⟨rfl,hf1⟩
 have h1':(a == 0)=false:=by simpa using h1
 rw [if_pos h1];go_enter Tryz.func46,Tryz.ntmps46;go_wp2_with (go_at_call 97;refine (HA.out _).mono ?_;rintro e w1 ⟨rfl,hf⟩)
 (try simp only [Exit.inBlock,Exit.then]);refine bodyPost_ret (zeq rfl _ _ _) rfl ?_
 exact ⟨rfl,((Fr.refl No w).alloc _).trans0 hf⟩
def badB (S:St) (o:Opr):Bool:=o.kind == 3 && whenE S o.rg.rev != 0
theorem zpy {S:St} {ops:List Opr} {i:Nat} {p:Opr} (hj:∀ j,j < i->∀ q,ops[j]? = some q->badB S q=false) (hp:ops[i]? = some p) (h3:badB S p=true):whenAll S ops=whenE S p.rg.rev:=by
 have hf:ops.find? (badB S)=some p:=by
  have hi:=(List.getElem?_eq_some_iff.1 hp).1
  have he:ops=ops.take i++p :: ops.drop (i+1):=by
   have:=List.take_append_drop i ops;rw [List.drop_eq_getElem_cons hi,(List.getElem?_eq_some_iff.1 hp).2] at this;exact this.symm
  rw [he,List.find?_append]
  have hn:(ops.take i).find? (badB S)=none:=List.find?_eq_none.2 fun q hq=>by
   obtain ⟨j,hq⟩:=List.mem_iff_getElem?.1 hq;have hjl:=(List.getElem?_eq_some_iff.1 hq).1;rw [List.length_take] at hjl;rw [List.getElem?_take_of_lt (by omega)] at hq;rw [hj j (by omega) q hq];simp
  rw [hn];simp [h3]
 unfold whenAll;have:(fun o:Opr=>o.kind == 3 && whenE S o.rg.rev != 0)=badB S:=rfl;rw [this,hf]
theorem zkw {S:St} {ops:List Opr} (hj:∀ j,j < ops.length->∀ q,ops[j]? = some q->badB S q=false):whenAll S ops=0:=by
 have hn:ops.find? (badB S)=none:=List.find?_eq_none.2 fun q hq=>by
  obtain ⟨j,hq⟩:=List.mem_iff_getElem?.1 hq;rw [hj j (List.getElem?_eq_some_iff.1 hq).1 q hq];simp
 unfold whenAll;have:(fun o:Opr=>o.kind == 3 && whenE S o.rg.rev != 0)=badB S:=rfl;rw [this,hn]
set_option maxHeartbeats 4000000 in
theorem zto {TA:zar} {N:Nat} (hT:TreeOk TA N) (w:World) (s:Nat) (S:St) (F:Nat->Prop) (hS:zak TA w s S F) (v:Value) (ops:List Opr) (hv:SlR w 10 opC v ops)
 (hl:ops.length<=1099511627) (hks:∀ o∈ops,o.rg.key.size<=1099511627776) (he:applyE S ops≠0) :
 Calls Tryz.prog 37 #[.pointer (some ⟨s,0,none⟩),v] w fun e w'=>e = .returned (.tuple #[.slice none 0 0,.slice none 0 0,.int .i64 (applyE S ops)])/\Fr No w w':=by
 have hch:=fun W hv=>ziv W v ops hv hl hks;obtain ⟨va,vcap,rfl,hc1,hc2,hva⟩:=hv.shape;have HV:=H_ hv;have HVA:=H_ hva;have HS:=H_ hS;by_cases hc:checkE ops=0
 · have hap:applyE S ops=whenAll S ops:=by unfold applyE;rw [if_neg (by simpa using hc)]
   rw [hc] at hch;rw [hap] at he ⊢
   have HCH:=H_ hch;have HE:=H_ he;clear hv hva hS hch hc hap he hks;go_enter Tryz.func37,Tryz.ntmps37
   go_wp2_with (first
    | (go_at_call 83;refine (HCH.out _ (HV.out.alloc _)).mono ?_;rintro e w1 ⟨rfl,hf1⟩
       have hfA:Fr No w w1:=((Fr.refl No w).alloc _).trans0 hf1;have hbA:w1.heap[w.heap.size]? = some (.cells #[.pointer (some ⟨s,0,none⟩)] 25 (0,0)):=hf1.heap (zad _ _ _ rfl) id;have bA:w1.cell? ⟨w.heap.size,0,none⟩=some (.pointer (some ⟨s,0,none⟩)):=cellAt hbA 0 rfl))
   go_loopg [29] ops.length (fun g s29 wr=>∃ i:Nat,s29 = .int .i64 i/\i+g=ops.length/\Hid (Fr No w1 wr)/\Hid (∀ j,j < i->∀ q,ops[j]? = some q->badB S q=false))
   case atStart=>exact ⟨0,rfl,by simp,H_ (Fr.refl No w1),H_ (by simp)⟩
   case round =>
    obtain ⟨i,rfl,hi,HF,HJ⟩:=hrel;have hfr:Fr No w wr:=hfA.trans0 HF.out;have bR:=HF.out.cell0 bA;have lbR:=World.block_lt_of_cell? _ _ bR
    cases gk with
    | zero=>exact absurd (zkw fun j hj=>HJ.out j (by omega)) HE.out
    | succ g =>
      obtain ⟨gb,go,rfl⟩:=HVA.out (by omega);obtain ⟨p,hx⟩:∃ p,ops[i]? = some p:=⟨_,List.getElem?_eq_getElem (by omega)⟩;have hvr:=HV.out.fr0 hfr;have x0:=hvr.cell0 zaf i hx rfl;have x1:=hvr.cell zaf i 1 hx rfl;have x2:=hvr.cell zaf i 2 hx rfl;have x3:=hvr.cell zaf i 3 hx rfl;have x4:=hvr.cell zaf i 4 hx rfl;have x5:=hvr.cell zaf i 5 hx rfl;have x6:=hvr.cell zaf i 6 hx rfl;have x7:=hvr.cell zaf i 7 hx rfl;have x8:=hvr.cell zaf i 8 hx rfl;have x9:=hvr.cell zaf i 9 hx rfl;have hil:(i:Int) < (ops.length:Int):=(by omega)
      have hnx:∀ b,badB S p=b->(b=false->∀ j,j < i+1->∀ q,ops[j]? = some q->badB S q=false)/\(b=true->whenAll S ops=whenE S p.rg.rev):=fun b hb =>
       ⟨fun h j hj q hq=>by
         by_cases hji:j=i
         · subst hji;rw [hx] at hq;cases hq;rw [hb,h]
         exact HJ.out j (by omega) q hq,fun h=>zpy HJ.out hx (by rw [hb,h])⟩
      have HNX:=H_ hnx;clear hx hvr hnx;obtain ⟨p1,⟨g1,g2,g3,g4,g5,g6,g7⟩,p2,p3⟩:=p;by_cases hk:p1=3
      · subst hk
        generalize hu:whenE S g3=u at *;have HU:=H_ hu;clear hu;by_cases hu0:u=0
        · subst hu0
          have HB:Hid (badB S ⟨3,⟨g1,g2,g3,g4,g5,g6,g7⟩,p2,p3⟩=false):=H_ (by unfold badB;dsimp only;rw [HU.out];rfl);go_wp2_with (go_at_call 84;refine (zdf _ s S F ((HS.out.fr0 hT hfr).fr0 hT ((Fr.refl No wr).alloc _)) g3).mono ?_;rintro e w' ⟨rfl,rfl⟩;rw [HU.out]);go_roundg g
          case rel=>exact ⟨i+1,by go_num,by omega,H_ (HF.out.alloc _),H_ ((HNX.out _ HB.out).1 rfl)⟩
          case measure=>omega
        have hu1:(u == 0)=false:=by simpa using hu0
        have HB:Hid (badB S ⟨3,⟨g1,g2,g3,g4,g5,g6,g7⟩,p2,p3⟩=true):=H_ (by unfold badB;dsimp only;rw [HU.out];simpa using hu0);go_wp2_with (go_at_call 84;refine (zdf _ s S F ((HS.out.fr0 hT hfr).fr0 hT ((Fr.refl No wr).alloc _)) g3).mono ?_;rintro e w' ⟨rfl,rfl⟩;rw [HU.out]);go_ret3;refine ⟨?_,hfr.alloc _⟩;have h1:=(HNX.out _ HB.out).2 rfl;rw [h1]
        rfl
      have hk':(p1 == 3)=false:=by simpa using hk
      have HB:Hid (badB S ⟨p1,⟨g1,g2,g3,g4,g5,g6,g7⟩,p2,p3⟩=false):=H_ (by unfold badB;dsimp only;rw [hk'];rfl);go_wp2;go_roundg g
      case rel=>exact ⟨i+1,by go_num,by omega,H_ (HF.out.alloc _),H_ ((HNX.out _ HB.out).1 rfl)⟩
      case measure=>omega
 have hap:applyE S ops=checkE ops:=by unfold applyE;rw [if_pos hc]
 rw [hap] at he ⊢
 have hc':(checkE ops == 0)=false:=(by simpa using hc);generalize checkE ops=u at *;have HCH:=H_ hch;clear hv hva hS hch hap hks;go_enter Tryz.func37,Tryz.ntmps37;go_wp2_with (go_at_call 83;refine (HCH.out _ (HV.out.alloc _)).mono ?_;rintro e w1 ⟨rfl,hf1⟩);go_ret3;exact ⟨rfl,((Fr.refl No w).alloc _).trans0 hf1⟩
set_option maxHeartbeats 4000000 in
theorem zjh {TA:zar} {N:Nat} (hT:TreeOk TA N) {n:Nat} (hn:n<=1099511627) (w:World) (s:Nat) (S:St) (F:Nat->Prop) (hS:zak TA w s S F) (hok:StOk n S) (hN:S.T.length<=1099511627) (g:Rg)
 (hks:g.key.size<=1099511627776) (hE:rangeE S g=0) :
 Calls Tryz.prog 46 #[.pointer (some ⟨s,0,none⟩),rgV g] w fun e w'=>∃ v,e = .returned (.tuple #[v,.int .i64 (allL S g S.rev).length,.bool (moreB S g S.rev),.int .i64 0])/\SlF w' 99 6 kvC v (getL S g S.rev)/\Fr No w w'/\(∀ b,v.ownBlock=some b->w.heap.size<=b):=by
 have ha:=fun W=>zfj W g hks;have hw:=fun W (h:Fr No w W)=>zdf W s S F (hS.fr0 hT h) g.rev;have hg:=fun W (h:Fr No w W)=>zgy hT hn W s S F (hS.fr0 hT h) hok hN g S.rev hks
 have c3:∀ W,Fr No w W->W.cell? ⟨s,3,none⟩=some (.int .i64 S.rev):=fun W hW=>by
  obtain ⟨t,p,ev,hp,FT,FH,a,hF⟩:=hS;exact hW.cell0 (a.obj.cell 3 rfl)
 have h0:askE g=0/\whenE S g.rev=0:=by
  unfold rangeE at hE;by_cases h:askE g=0
  · rw [if_neg (by simpa using h)] at hE;exact ⟨h,hE⟩
  rw [if_pos h] at hE;exact absurd hE h
 rw [h0.1] at ha;rw [h0.2] at hw;obtain ⟨g1,g2,g3,g4,g5,g6,g7⟩:=g;generalize hal:allL S ⟨g1,g2,g3,g4,g5,g6,g7⟩ S.rev=al at *;generalize hmo:moreB S ⟨g1,g2,g3,g4,g5,g6,g7⟩ S.rev=mo at *;generalize hgl:getL S ⟨g1,g2,g3,g4,g5,g6,g7⟩ S.rev=gl at *;unfold rgV at *;dsimp only at *;have HA:=H_ ha;have HW:=H_ hw;have HG:=H_ hg;have HC:=H_ c3;clear ha hw hg c3 hE h0 hks hS hok hN hal hmo hgl;go_enter Tryz.func46,Tryz.ntmps46
 go_upto_region 8 with (first
  | (go_at_call 97;refine (HA.out _).mono ?_;rintro e w1 ⟨rfl,hf⟩
     have hf1:Fr No w w1:=((Fr.refl No w).alloc _).trans0 hf;have hb:w1.heap[w.heap.size]? = some (.cells #[.string g1,.string g2,.int .i64 g3,.int .i64 g4,.bool g5,.bool g6,.bool g7] 35 (0,0)):=hf.heap (zad _ _ _ rfl) id;obtain ⟨x0,x1,x2,x3,x4,x5,x6⟩:=cells7 hb;have lx:=zac hb;have y:=HC.out _ hf1;have ly:=World.block_lt_of_cell? _ _ y)
  | (go_at_call 84;refine (HW.out _ hf1).mono ?_;rintro e w2 ⟨rfl,rfl⟩))
 go_region_held (fun W=>W.cell? ⟨s,3,none⟩=some (.int .i64 S.rev)/\W.cell? ⟨w.heap.size,0,none⟩=some (.string g1)/\W.cell? ⟨w.heap.size,1,none⟩=some (.string g2)/\W.cell? ⟨w.heap.size,2,none⟩=some (.int .i64 g3) ∧
  W.cell? ⟨w.heap.size,3,none⟩=some (.int .i64 g4)/\W.cell? ⟨w.heap.size,4,none⟩=some (.bool g5)/\W.cell? ⟨w.heap.size,5,none⟩=some (.bool g6)/\W.cell? ⟨w.heap.size,6,none⟩=some (.bool g7))
  (first | exact ⟨y,x0,x1,x2,x3,x4,x5,x6⟩ | exact ⟨hf3.cell0 y,hf3.cell0 x0,hf3.cell0 x1,hf3.cell0 x2,hf3.cell0 x3,hf3.cell0 x4,hf3.cell0 x5,hf3.cell0 x6⟩)
  (first | (go_at_call 89;refine (HG.out _ hf1.drew).mono ?_;rintro e w3 ⟨v,rfl,hv,hf3,hvn⟩;obtain ⟨va,vcap,rfl,hc1,hc2,hva⟩:=hv.shape;have HV:=H_ hv;have HVN:=H_ hvn;clear hv hvn))
 go_wp2
 (try simp only [Exit.inBlock,Exit.then]);refine bodyPost_ret (zeq rfl _ _ _) rfl ?_
 have hsz:=hf1.size;exact ⟨_,rfl,HV.out,hf1.drew.trans0 hf3,fun b hb=>Nat.le_trans hsz (HVN.out b hb)⟩
end Go.Proofs.YthljnnjpmdgkoaaGreat