/- Own lemmas and contracts that the claim's proof needs, laid together. The conditions stand in each. -/
import Derived.Test.YthljnnjpmdgkoaaGreatG05
import Derived.Test.YthljnnjpmdgkoaaGreatG24
import Derived.Test.YthljnnjpmdgkoaaGreatG09
import Derived.Test.YthljnnjpmdgkoaaGreatG14
import Derived.Test.YthljnnjpmdgkoaaGreatG06
import Derived.Test.YthljnnjpmdgkoaaGreatG07
import Derived.Test.YthljnnjpmdgkoaaGreatG19
import Derived.Test.YthljnnjpmdgkoaaGreatG25
import Derived.Deep.RegionHeld3
import Derived.Deep.DeepCutAuto
import Derived.BigRegion
namespace Go.Proofs.YthljnnjpmdgkoaaGreat
open Go Go.Proofs Go.RowKit
set_option maxRecDepth 100000
theorem zvr (x:Ev):∀ u∈evC x,u.oneCell'=true:=fun u hu=>ztu (L:=[x]) (by simpa using hu)
theorem zso {X:World} {b:Nat} {a0 a1 a2 a3:Value} (hk:X.heap[b]? = some (.cells #[a0,a1,a2,a3] 42 (0,0))) (r m kv ev:Value) :
 ∃ Z,((((X.setCell ⟨b,0,none⟩ r).setCell ⟨b,1,none⟩ m).setCell ⟨b,2,none⟩ kv).setCell ⟨b,3,none⟩ ev)=Z/\Z.heap[b]? = some (.cells #[r,m,kv,ev] 42 (0,0))/\Fr (fun x=>x=b) X Z:=by
 have z1:=zaa hk 0 r;have z2:=zaa z1 1 m;have z3:=zaa z2 2 kv;have z4:=zaa z3 3 ev;refine ⟨_,rfl,by rw [z4];simp,((((Fr.refl (fun x=>x=b) X).setAt 0 r).setAt 1 m).setAt 2 kv).setAt 3 ev⟩
def stateV (r m:Int) (kv ev:Value):Value:=.agg #[.int .i64 r,.int .i64 m,kv,ev]
set_option maxHeartbeats 8000000 in
theorem zpm {TA:zaq} {N:Nat} (hT:TreeOk TA N) {n:Nat} (hn:n<=1099511627) (w:World) (s:Nat) (S:St) (F:Nat->Prop) (hS:zal TA w s S F) (hok:StOk n S) (hN:S.T.length<=1099511627) :
 Calls Tryz.prog 23 #[.pointer (some ⟨s,0,none⟩)] w fun e w'=>∃ kv ev,e = .returned (stateV S.rev S.mark kv ev)/\SlF w' 99 6 kvC kv (zam S S.T S.mark)/\SlF w' 101 13 evC ev S.events/\Fr No w w'/\(∀ b,kv.ownBlock=some b->w.heap.size<=b)/\(∀ b,ev.ownBlock=some b->w.heap.size<=b):=by
 have hhad:=fun W hW at_ H hH=>zjc hT hn W s S F hW hok at_ S.mark H hH;have hSA:=H_ hS;obtain ⟨t,p,ev,hp,FT,FH,a,hF⟩:=hS;have c0:=a.obj.cell 0 rfl;have c3:=a.obj.cell 3 rfl;have c4:=a.obj.cell 4 rfl;have c5:=a.obj.cell 5 rfl;have ls:=a.obj.lt;have hes:=a.events;have hevl:=hok.ev;have hlen:=fun W (h:Fr No w W)=>hT.len (w:=W) (t:=t) (T:=S.T) (F:=FT) (hT.fr a.tree h fun _ _ s=>s);have hrng:=fun W (h:Fr No w W)=>hT.range (w:=W) (t:=t) (T:=S.T) (F:=FT) ⟨#[]⟩ ⟨#[]⟩ (hT.fr a.tree h fun _ _ s=>s);simp only [zhd] at hrng;have HLEN:=H_ hlen;have HRNG:=H_ hrng;have HH:=H_ hhad;have HOk:=H_ hok.id;have HES:=H_ hes;clear a hF hes hlen hrng hhad;go_enter Tryz.func23,Tryz.ntmps23;go_upto_region 3 with fail
 have hf0:Fr No w (w.alloc (Obj.cells #[.int .i64 0,.int .i64 0,.slice none 0 0,.slice none 0 0] 42)):=(Fr.refl No w).alloc _;have hb0:=zad w (Obj.cells #[.int .i64 0,.int .i64 0,.slice none 0 0,.slice none 0 0] 42) _ rfl;generalize w.alloc (Obj.cells #[.int .i64 0,.int .i64 0,.slice none 0 0,.slice none 0 0] 42)=W0 at *;have d3:=hf0.cell0 c3;have d4:=hf0.cell0 c4;have ls0:s < W0.heap.size:=Nat.lt_of_lt_of_le ls hf0.size
 go_region
 go_upto_region 4 with fail;have hb1:((W0.alloc (Obj.cells #[.int .i64 S.rev,.int .i64 S.mark,.slice none 0 0,.slice none 0 0] 42)).drew).heap[W0.heap.size]? = some (.cells #[.int .i64 S.rev,.int .i64 S.mark,.slice none 0 0,.slice none 0 0] 42 (0,0)):=zad _ _ _ rfl;have hb01:((W0.alloc (Obj.cells #[.int .i64 S.rev,.int .i64 S.mark,.slice none 0 0,.slice none 0 0] 42)).drew).heap[w.heap.size]? = some (.cells #[.int .i64 0,.int .i64 0,.slice none 0 0,.slice none 0 0] 42 (0,0)):=zaj hb0 _;have hf1:Fr No w ((W0.alloc (Obj.cells #[.int .i64 S.rev,.int .i64 S.mark,.slice none 0 0,.slice none 0 0] 42)).drew):=(hf0.alloc _).drew;have lw0:=zac hb0;clear d3 d4 hf0 hb0;generalize (W0.alloc (Obj.cells #[.int .i64 S.rev,.int .i64 S.mark,.slice none 0 0,.slice none 0 0] 42)).drew=W1 at *;have d0:=hf1.cell0 c0
 have ls1:s < W1.heap.size:=Nat.lt_of_lt_of_le ls hf1.size
 go_region_held3 (fun W=>W.cell? ⟨s,0,none⟩=some (.pointer (some ⟨t,0,none⟩)))
  (first | assumption | exact hf7.cell0 d0)
  (first
    | (go_at_call 61;refine (HLEN.out _ (hf1.trans0 (by (repeat (first | with_reducible exact Fr.refl _ _ | with_reducible refine Fr.drew ?_));done))).mono ?_;rintro e w' ⟨rfl,rfl⟩)
    | (go_at_call 60;refine (HRNG.out _ (hf1.trans0 (by (repeat (first | with_reducible exact Fr.refl _ _ | with_reducible refine Fr.drew ?_));done))).mono ?_;rintro e w7 ⟨pv,rfl,hpv,hf7,hpn⟩;obtain ⟨pa,pcap,rfl,hp1,hp2,hp3⟩:=hpv.shape))
 have hf17:Fr No W1 w7:=(by first | exact hf7 | exact (Fr.refl No W1).drew.trans0 hf7);have hb7:=hf17.heap hb1 id;have hb07:=hf17.heap hb01 id;have hf07:Fr No w w7:=hf1.trans0 hf17;have hs17:=hf17.size;have l1:=zac hb1;have hpn7:∀ b,(Value.slice pa S.T.length pcap).ownBlock=some b->W1.heap.size<=b:=fun b hb=>by have:=hpn b hb;have h':W1.heap.size<=b:=this;omega
 have HB7:=H_ hb7;have HB07:=H_ hb07;have HF7:=H_ hf07;have HPV:=H_ hpv;have HPN:=H_ hpn7;have HP3:=H_ hp3;have hST:∃ St1:Nat,W0.heap.size=St1/\w.heap.size < St1/\St1 < w7.heap.size:=⟨_,rfl,lw0,by omega⟩;obtain ⟨sb,hsb,hsb1,hsb2⟩:=hST;rw [hsb] at HB7;have hsb3:sb < W1.heap.size:=by omega
 clear hb7 hb07 hf07 hpv hpn7 hp3 hb1 hb01 hpn hf7 hf17 d0;obtain ⟨i0,hi0,hz0,hz1,hz2⟩:=info_parts info57;have hcap:S.T.length<=1099511627:=hN;have HOK2:=H_ hok;rw [hsb];go_wp2
 go_loopg [31] S.T.length (fun g s31 wr=>∃ (i:Nat) (o:Value),s31 = .int .i64 i/\i+g=S.T.length/\Hid (wr.heap[sb]? = some (.cells #[.int .i64 S.rev,.int .i64 S.mark,o,.slice none 0 0] 42 (0,0)))/\Hid (SlF wr 99 6 kvC o (zam S (S.T.take i) S.mark))/\Hid (Fr (fun b=>b=sb) w7 wr)/\Hid (∀ b,o.ownBlock=some b->w7.heap.size<=b))
 case atStart=>exact ⟨0,_,rfl,by simp,HB7,H_ (SlF.nil _ _ _ _),H_ (Fr.refl _ _),H_ (by simp [Value.ownBlock])⟩
 case round =>
  obtain ⟨i,o,rfl,hi,HBR,HO,HFR,HOn⟩:=hrel;have lsb:=zac HBR.out;have hfw:Fr No w wr:=HF7.out.trans HFR.out fun b hb e=>by have e':b=sb:=e;omega
  have HFW:=H_ hfw;have r0:=hfw.cell0 c0;have r4:=hfw.cell0 c4;have r5:=hfw.cell0 c5;have lsr:s < wr.heap.size:=Nat.lt_of_lt_of_le ls hfw.size;have b2:=cellAt HBR.out 2 rfl;have b3:=cellAt HBR.out 3 rfl;have bfz:∀ j,wr.frozen? ⟨sb,j,none⟩=false:=fun j=>by unfold World.frozen?;dsimp only;rw [HBR.out];simp
  obtain ⟨oa,ocap,rfl,ho1,ho2,ho3⟩:=HO.out.shape;clear ho3 hfw
  cases gk with
  | zero =>
    have hil:¬ (i:Int) < (S.T.length:Int):=(by omega);go_upto_region 11 with fail;have hti:S.T.take i=S.T:=List.take_of_length_le (by omega);rw [hti] at HO HOn ho1 b2 HBR;obtain ⟨j0,hj0,hy0,hy1,hy2⟩:=info_parts info73;have hnl:=hok.ev;have hwd:=HFW.out.drew;have hsE:=HES.out.fr0 hwd;obtain ⟨ea,ecap,rfl,he1,he2,he3⟩:=hsE.shape;have HSE:=H_ hsE;have HOo:=H_ (show (Value.slice oa (zam S S.T S.mark).length ocap).ownBlock≠some sb from fun h=>by have:=HOn.out sb h;omega);clear hsE he3 hwd
    go_region_law (refine zbe rfl _ _ 28 rfl 101 j0 _ 13 136 Tryz.underlying28 hj0 hy0 hy1 hy2 rfl (by decide) zab zvr (.slice none 0 0) (.slice ea S.events.length ecap) [] S.events rfl rfl (SlF.nil _ _ _ _) HSE.out (by unfold maxLen;simp;try omega) (by simp;try omega) ?_;intro v4 w4 hs4 hf4 hb4;obtain ⟨va,vcap,rfl,_,_,_⟩:=hs4.shape;have hq4:Fr No wr.drew w4:=hf4.mono (fun b _ h=>by simp [Value.ownBlock] at h);have hb4':=hq4.heap (show wr.drew.heap[sb]? = _ from HBR.out) id;have v3:w4.cell? ⟨sb,3,none⟩=some (.slice none 0 0):=(by simp [World.cell?,hb4']);have v3f:w4.frozen? ⟨sb,3,none⟩=false:=(by simp [World.frozen?,hb4']);have l4:=zac hb4';have HS4:=H_ hs4;have HQ4:=H_ hq4;have HB4:=H_ hb4';have HBN:=H_ hb4;clear hs4 hf4 hb4 hq4 hb4')
    all_goals
     have hset:=zaa HB4.out 3 (.slice va S.events.length vcap);have hfs:Fr (fun b=>b=sb) w4 (w4.setCell ⟨sb,3,none⟩ (.slice va S.events.length vcap)):=(Fr.refl _ w4).setAt 3 _;have hb0r:=HFR.out.heap HB07.out (fun e=>by have e':w.heap.size=sb:=e;omega);have hb04:=HQ4.out.heap (show wr.drew.heap[w.heap.size]? = _ from hb0r) (fun h=>h);have hb05:=hfs.heap hb04 (fun e=>by have e':w.heap.size=sb:=e;omega)
     have hev5:=HS4.out.fr hfs fun b hb e=>by
      have e':b=sb:=e;have h1:=HBN.out b hb;rcases h1 with h1 | h1
      · simp [Value.ownBlock] at h1
      have h2:wr.heap.size<=b:=h1
      omega
     have hkv5:=((HO.out.fr0 (Fr.refl No wr).drew).fr0 HQ4.out).fr hfs fun b hb e=>by
      have e':b=sb:=e;exact HOo.out (by rw [<-e'];exact hb)
     have hq5:Fr No w (w4.setCell ⟨sb,3,none⟩ (.slice va S.events.length vcap)):=(HFW.out.drew.trans0 HQ4.out).trans hfs fun b hb e=>by
      have e':b=sb:=e;omega
     generalize w4.setCell ⟨sb,3,none⟩ (.slice va S.events.length vcap)=W5 at *;have hst:∃ row,W5.heap[sb]? = some (.cells row 42 (0,0))/\row = #[.int .i64 S.rev,.int .i64 S.mark,.slice oa (zam S S.T S.mark).length ocap,.slice va S.events.length vcap]:=⟨_,hset,by simp⟩;obtain ⟨row,hset,rfl⟩:=hst;have s0:W5.cell? ⟨sb,0,none⟩=some (.int .i64 S.rev):=(by simp [World.cell?,hset]);have s1:W5.cell? ⟨sb,1,none⟩=some (.int .i64 S.mark):=(by simp [World.cell?,hset]);have s2:W5.cell? ⟨sb,2,none⟩=some (.slice oa (zam S S.T S.mark).length ocap):=(by simp [World.cell?,hset]);have s3:W5.cell? ⟨sb,3,none⟩=some (.slice va S.events.length vcap):=(by simp [World.cell?,hset]);have t0:W5.cell? ⟨w.heap.size,0,none⟩=some (.int .i64 0):=(by simp [World.cell?,hb05])
     have t1:W5.cell? ⟨w.heap.size,1,none⟩=some (.int .i64 0):=(by simp [World.cell?,hb05]);have t2:W5.cell? ⟨w.heap.size,2,none⟩=some (.slice none 0 0):=(by simp [World.cell?,hb05]);have t3:W5.cell? ⟨w.heap.size,3,none⟩=some (.slice none 0 0):=(by simp [World.cell?,hb05]);have tf:∀ i,W5.frozen? ⟨w.heap.size,i,none⟩=false:=fun i=>by simp [World.frozen?,hb05]
     have lt5:=zac hb05;have lb5:=zac hset;obtain ⟨Z,hZ,hz6,hzf⟩:=zso hb05 (.int .i64 S.rev) (.int .i64 S.mark) (.slice oa (zam S S.T S.mark).length ocap) (.slice va S.events.length vcap);have HKV5:=H_ hkv5;have HEV5:=H_ hev5;have HQ5:=H_ hq5;have HZ:=H_ hZ;have HZ6:=H_ hz6;have HZF:=H_ hzf;clear hset hfs hb0r hb04 hb05 hev5 hkv5 hq5 hZ hz6 hzf v3 v3f l4;go_wp2;rw [HZ.out];have hsz:=HFW.out.size;refine bodyPost_ret (results_cell_row rfl _ _ w.heap.size 42 _ (0,0) _ rfl HZ6.out Tryz.underlying42 rfl (by kernel_rfl)) rfl ⟨.slice oa (zam S S.T S.mark).length ocap,.slice va S.events.length vcap,rfl,?_,?_,?_,fun b hb=>?_,fun b hb=>?_⟩
     · refine HKV5.out.fr HZF.out fun b hb e=>?_
       have e':b=w.heap.size:=e;have h1:=HOn.out b hb;omega
     · refine (by simpa using HEV5.out:SlF W5 101 13 evC (.slice va S.events.length vcap) S.events).fr HZF.out fun b hb e=>?_
       have e':b=w.heap.size:=e;rcases HBN.out b hb with h1 | h1
       · simp [Value.ownBlock] at h1
       have h2:wr.heap.size<=b:=h1
       omega
     · exact HQ5.out.trans HZF.out fun b hb e=>by
        have e':b=w.heap.size:=e;omega
     · have h1:=HOn.out b hb
       omega
     rcases HBN.out b hb with h1 | h1
     · simp [Value.ownBlock] at h1
     have h2:wr.heap.size<=b:=h1
     omega
  | succ g =>
    have hil:(i:Int) < (S.T.length:Int):=(by omega);obtain ⟨gb,go,rfl⟩:=HP3.out (by omega);obtain ⟨q,hq⟩:∃ q,S.T[i]? = some q:=⟨_,List.getElem?_eq_getElem (by omega)⟩;have hslr:=HPV.out.fr HFR.out (fun b hb e=>by have e':b=sb:=e;have:=HPN.out b hb;omega);have x0:=hslr.cell0 zag i hq rfl;have x1:=hslr.cell zag i 1 hq rfl;obtain ⟨H,hH⟩:=HOk.out q (List.mem_of_getElem? hq);have hone:oneL S S.mark q=if (hadH H S.mark).2 then some (hadH H S.mark).1 else none:=(by unfold oneL;rw [hH])
    have hstep:zam S (S.T.take (i+1)) S.mark=zam S (S.T.take i) S.mark++(oneL S S.mark q).toList:=by
     unfold zam;rw [List.take_add_one,hq,List.filterMap_append];cases h:oneL S S.mark q <;> simp [h]
    have HST:=H_ hstep;have HON:=H_ hone;have HPH:=H_ hH;have HQ:=H_ hq;clear hstep hone hH hq hslr;rcases hr:hadH H S.mark with ⟨⟨r1,r2,r3,r4',r5',r6⟩,rb⟩
    rw [hr] at HON;have HR:=H_ hr;clear hr;have hob:(zam S (S.T.take i) S.mark).length<=S.T.length:=Nat.le_trans (List.length_filterMap_le _ _) (by simp;omega);go_upto_region 7 with fail;have hk7:=zad wr (Obj.cells #[.string q.1,.int .i64 q.2] 122) _ rfl;have hfa:Fr No wr (wr.alloc (Obj.cells #[.string q.1,.int .i64 q.2] 122)):=(Fr.refl No wr).alloc _;generalize wr.alloc (Obj.cells #[.string q.1,.int .i64 q.2] 122)=W2 at *;have k1:=cellAt hk7 1 rfl;have k4:=hfa.cell0 r4;have lk:=zac hk7;have lsk:s < W2.heap.size:=Nat.lt_of_lt_of_le lsr hfa.size;have HFA:=H_ hfa;clear hfa hk7;have hfZ:Fr No W2 (W2.alloc (Obj.cells #[.string ⟨#[]⟩,.string ⟨#[]⟩,.int .i64 0,.int .i64 0,.int .i64 0,.int .i64 0] 99)):=(Fr.refl No W2).alloc _
    have hzA:(W2.alloc (Obj.cells #[.string ⟨#[]⟩,.string ⟨#[]⟩,.int .i64 0,.int .i64 0,.int .i64 0,.int .i64 0] 99)).heap[W2.heap.size]? = some (.cells #[.string ⟨#[]⟩,.string ⟨#[]⟩,.int .i64 0,.int .i64 0,.int .i64 0,.int .i64 0] 99 (0,0)):=zad _ _ _ rfl;have kZ4:=hfZ.cell0 k4;have kZ1:=hfZ.cell0 k1;have b1:W2.cell? ⟨s,4,none⟩=some (.int .i64 S.mark)/\W2.cell? ⟨wr.heap.size,1,none⟩=some (.int .i64 q.2):=⟨k4,k1⟩;have b2:W2.drew.cell? ⟨s,4,none⟩=some (.int .i64 S.mark)/\W2.drew.cell? ⟨wr.heap.size,1,none⟩=some (.int .i64 q.2):=⟨k4,k1⟩;have b3:=And.intro kZ4 kZ1
    have b4:(W2.alloc (Obj.cells #[.string ⟨#[]⟩,.string ⟨#[]⟩,.int .i64 0,.int .i64 0,.int .i64 0,.int .i64 0] 99)).drew.cell? ⟨s,4,none⟩=some (.int .i64 S.mark)/\(W2.alloc (Obj.cells #[.string ⟨#[]⟩,.string ⟨#[]⟩,.int .i64 0,.int .i64 0,.int .i64 0,.int .i64 0] 99)).drew.cell? ⟨wr.heap.size,1,none⟩=some (.int .i64 q.2):=⟨kZ4,kZ1⟩;have h1:=hSA.out.fr0 hT (HFW.out.trans0 HFA.out);have h2:=h1.fr0 hT (Fr.refl No W2).drew;have h3:=h1.fr0 hT hfZ;have h4:=h3.fr0 hT (Fr.refl No _).drew;have C1:=H_ (HH.out _ h1 q.2 H HPH.out);have C2:=H_ (HH.out _ h2 q.2 H HPH.out);have C3:=H_ (HH.out _ h3 q.2 H HPH.out);have C4:=H_ (HH.out _ h4 q.2 H HPH.out);have HZA:=H_ hzA;have HFZ:=H_ hfZ;clear h1 h2 h3 h4 hzA hfZ
    go_cut [6,7] (fun s6 s7 wx=>∃ b:Nat,s6 = .pointer (some ⟨b,0,none⟩)/\s7 = .bool rb/\Hid (wx.heap[b]? = some (.cells #[.string r1,.string r2,.int .i64 r3,.int .i64 r4',.int .i64 r5',.int .i64 r6] 99 (0,0)))/\Hid (Fr No W2 wx))
    case first =>
     go_region_held3 (fun W=>W.cell? ⟨s,4,none⟩=some (.int .i64 S.mark)/\W.cell? ⟨wr.heap.size,1,none⟩=some (.int .i64 q.2))
      (first | with_reducible exact b1 | with_reducible exact b2 | with_reducible exact b3 | with_reducible exact b4 | with_reducible exact kw | with_reducible exact kv | with_reducible exact ku | with_reducible exact kt | with_reducible exact kwd | with_reducible exact kvd | with_reducible exact kud | with_reducible exact ktd)
      (first
        | (go_at_call 62;first | refine C1.out.mono ?_ | refine C2.out.mono ?_
           rintro e w3 ⟨rfl,hf3⟩;rw [HR.out];unfold zcm kvV;have kw:w3.cell? ⟨s,4,none⟩=some (.int .i64 S.mark)/\w3.cell? ⟨wr.heap.size,1,none⟩=some (.int .i64 q.2):=⟨hf3.cell0 k4,hf3.cell0 k1⟩;have hfv:Fr No w3 (w3.alloc (Obj.cells #[.string ⟨#[]⟩,.string ⟨#[]⟩,.int .i64 0,.int .i64 0,.int .i64 0,.int .i64 0] 99)):=(Fr.refl No w3).alloc _;have kv:=And.intro (hfv.cell0 kw.1) (hfv.cell0 kw.2);have hqd:Fr No w3 w3.drew:=(Fr.refl No w3).drew;have kwd:=And.intro (hqd.cell0 kw.1) (hqd.cell0 kw.2);have kvd:=And.intro (hfv.drew.cell0 kw.1) (hfv.drew.cell0 kw.2);have hfu:Fr No w3 (w3.alloc (Obj.cells #[.string r1,.string r2,.int .i64 r3,.int .i64 r4',.int .i64 r5',.int .i64 r6] 99)):=(Fr.refl No w3).alloc _;have ku:=And.intro (hfu.cell0 kw.1) (hfu.cell0 kw.2);have kud:=And.intro (hfu.drew.cell0 kw.1) (hfu.drew.cell0 kw.2)
           have HQ3:Hid (Fr No W2 w3):=by first | exact H_ hf3 | exact H_ ((Fr.refl No W2).drew.trans0 hf3))
        | (go_at_call 62;first | refine C3.out.mono ?_ | refine C4.out.mono ?_
           rintro e w3 ⟨rfl,hf3⟩;rw [HR.out];unfold zcm kvV;have kw:w3.cell? ⟨s,4,none⟩=some (.int .i64 S.mark)/\w3.cell? ⟨wr.heap.size,1,none⟩=some (.int .i64 q.2):=⟨hf3.cell0 kZ4,hf3.cell0 kZ1⟩;have hz3:w3.heap[W2.heap.size]? = some (.cells #[.string ⟨#[]⟩,.string ⟨#[]⟩,.int .i64 0,.int .i64 0,.int .i64 0,.int .i64 0] 99 (0,0)):=hf3.heap HZA.out (fun h=>h);obtain ⟨z0,z1,z2,z3,z4,z5⟩:=cells6 hz3;have zf:∀ i,w3.frozen? ⟨W2.heap.size,i,none⟩=false:=fun i=>by unfold World.frozen?;dsimp only;rw [hz3];simp
           have lz3:=zac hz3;have hfs:Fr (fun b=>b=W2.heap.size) w3 ((((((w3.setCell ⟨W2.heap.size,0,none⟩ (.string r1)).setCell ⟨W2.heap.size,1,none⟩ (.string r2)).setCell ⟨W2.heap.size,2,none⟩ (.int .i64 r3)).setCell ⟨W2.heap.size,3,none⟩ (.int .i64 r4')).setCell ⟨W2.heap.size,4,none⟩ (.int .i64 r5')).setCell ⟨W2.heap.size,5,none⟩ (.int .i64 r6)):=((((((Fr.refl _ w3).setAt 0 _).setAt 1 _).setAt 2 _).setAt 3 _).setAt 4 _).setAt 5 _;have kt:=And.intro (hfs.cell kw.1 (fun e=>by have e':s=W2.heap.size:=e;omega)) (hfs.cell kw.2 (fun e=>by have e':wr.heap.size=W2.heap.size:=e;omega));have hqd:Fr No w3 w3.drew:=(Fr.refl No w3).drew;have kwd:=And.intro (hqd.cell0 kw.1) (hqd.cell0 kw.2)
           have ktd:=And.intro (hfs.drew.cell kw.1 (fun e=>by have e':s=W2.heap.size:=e;omega)) (hfs.drew.cell kw.2 (fun e=>by have e':wr.heap.size=W2.heap.size:=e;omega));have HQ3:Hid (Fr No W2 w3):=(by first | exact H_ (HFZ.out.trans0 hf3) | exact H_ (HFZ.out.drew.trans0 hf3));have HZ3:=H_ hz3;clear hz3))
     · go_wp2
       go_meet
       case rel=>exact ⟨_,rfl,rfl,H_ (zad _ _ _ rfl),H_ (HQ3.out.alloc _)⟩
     obtain ⟨Z,hZ,hz6,hzf⟩:=zix (w:=W2) HZ3.out ⟨r1,r2,r3,r4',r5',r6⟩
     dsimp only at hZ hz6;rw [hZ];go_wp2;go_meet
     case rel=>exact ⟨_,rfl,rfl,H_ hz6,H_ (hzf HQ3.out (Nat.le_refl _))⟩
    case rest =>
     obtain ⟨b,rfl,rfl,HBK,HX⟩:=hcut;have hfc:Fr No wr wc:=HFA.out.trans0 HX.out;have HFC:=H_ hfc;have hbc:=hfc.heap HBR.out id;have lbk:=zac HBK.out;have lsc:=zac hbc;have e2:=cellAt hbc 2 rfl;have efz:∀ j,wc.frozen? ⟨sb,j,none⟩=false:=fun j=>by unfold World.frozen?;dsimp only;rw [hbc];simp
     obtain ⟨y0,y1,y2,y3,y4,y5⟩:=cells6 HBK.out;have HBC:=H_ hbc;have HSO:=H_ (HO.out.fr0 hfc);clear hfc hbc x0 x1 k4 k1 kZ4 kZ1 b1 b4 lk lsk r0 r4 r5 b2 b3 bfz;cases rb
     · have HE:Hid (zam S (S.T.take (i+1)) S.mark=zam S (S.T.take i) S.mark):=H_ (by rw [HST.out,HON.out];simp)
       go_wp2;go_roundg g
       case rel=>exact ⟨i+1,_,by go_num,by omega,HBC,H_ (by rw [HE.out];exact HSO.out),H_ (HFR.out.trans0 HFC.out),HOn⟩
       case measure=>omega
     have HE:Hid (zam S (S.T.take (i+1)) S.mark=zam S (S.T.take i) S.mark++[⟨r1,r2,r3,r4',r5',r6⟩]):=H_ (by rw [HST.out,HON.out];simp)
     have hnew:=zar wc (kvC ⟨r1,r2,r3,r4',r5',r6⟩) 99 (0,0);have hob2:(Value.slice oa (zam S (S.T.take i) S.mark).length ocap).ownBlock≠some sb:=fun h=>by have:=HOn.out sb h;omega
     have HOB:=H_ hob2;clear hob2;go_wp2_with (at_builtin;refine zao rfl _ _ 27 rfl 99 i0 _ 6 64 Tryz.underlying27 hi0 hz0 hz1 hz2 rfl (by decide) _ (zam S (S.T.take i) S.mark) rfl (HSO.out.alloc _) wc.heap.size 1 (⟨r1,r2,r3,r4',r5',r6⟩:Kv) rfl hnew rfl ?c1 ?c2 ?c3 ?_)
     case c1=>intro u hu;simp [kvC] at hu;rcases hu with rfl | rfl | rfl | rfl | rfl | rfl <;> rfl
     case c2=>unfold maxLen;omega
     case c3=>omega
     intro g1 o' cap w4 hs4 hg4 hb4 hlt4;have hf4:Fr (fun k=>(Value.slice oa (zam S (S.T.take i) S.mark).length ocap).ownBlock=some k) wc w4:=((Fr.refl _ wc).alloc _).grown hg4 fun k hk=>.inl hk;have hb4':=hf4.heap HBC.out HOB.out;have v2:=cellAt hb4' 2 rfl;have v2f:∀ j,w4.frozen? ⟨sb,j,none⟩=false:=fun j=>by unfold World.frozen?;dsimp only;rw [hb4'];simp
     have l4:=zac hb4'
     have hg1:w7.heap.size<=g1:=by
      rcases hb4 with e | e
      · exact HOn.out _ e
      have h1:=HFR.out.size
      have h2:=HFC.out.size
      try simp at e
      omega
     have HS4:=H_ hs4;have HF4:=H_ hf4;have HB4:=H_ hb4';clear hs4 hg4 hb4 hnew hf4 hb4';go_wp2;go_roundg g
     case rel =>
      have hset:=zaa HB4.out 2 (.slice (some ⟨g1,o',none⟩) ((zam S (S.T.take i) S.mark).length+1) cap);have hfs:Fr (fun b=>b=sb) w4 (w4.setCell ⟨sb,2,none⟩ (.slice (some ⟨g1,o',none⟩) ((zam S (S.T.take i) S.mark).length+1) cap)):=(Fr.refl _ w4).setAt 2 _
      have hsl4:=HS4.out.fr hfs fun b hb e=>by
       have e':b=sb:=e;obtain rfl:g1=b:=by simpa [Value.ownBlock] using hb
       omega
      refine ⟨i+1,.slice (some ⟨g1,o',none⟩) ((zam S (S.T.take i) S.mark).length+1) cap,by go_num,by omega,H_ (by rw [hset];simp),H_ (by rw [HE.out];simpa using hsl4),H_ (((HFR.out.trans0 HFC.out).trans HF4.out fun b hb h=>?_).trans hfs fun b hb e=>e),H_ fun b hb=>?_⟩
      · have:=HOn.out b h;omega
      obtain rfl:g1=b:=by simpa [Value.ownBlock] using hb
      exact hg1
     case measure=>omega
theorem zev (w:World) (x:Kv):Calls Tryz.prog 82 #[kvV x,kvV x] w fun e w'=>e = .returned (.bool true)/\Fr No w w':=by
 obtain ⟨x1,x2,x3,x4,x5,x6⟩:=x;unfold kvV;dsimp only;go_enter Tryz.func82,Tryz.ntmps82;go_wp2;go_ret;exact ⟨rfl,((Fr.refl No w).alloc _).alloc _⟩
set_option maxHeartbeats 4000000 in
theorem zfv (w:World) (u v:Value) (L:List Kv) (hu:SlR w 6 kvC u L) (hv:SlR w 6 kvC v L) (hl:L.length<=9223372036854775807) :
 Calls Tryz.prog 54 #[u,v] w fun e w'=>e = .returned (.bool true)/\Fr No w w':=by
 obtain ⟨a,ca,rfl,ha1,ha2,ha3⟩:=hu.shape;obtain ⟨b,cb,rfl,hb1,hb2,hb3⟩:=hv.shape;have HU:=H_ hu;have HV:=H_ hv;have HA:=H_ ha3;have HB:=H_ hb3;clear hu hv ha3 hb3;go_enter Tryz.func54,Tryz.ntmps54;go_wp2
 go_loopg [5] L.length (fun g s5 wr=>∃ i:Nat,s5 = .int .i64 i/\i+g=L.length/\Hid (Fr No w wr))
 case atStart=>exact ⟨0,rfl,by simp,H_ (Fr.refl No w)⟩
 case round =>
  obtain ⟨i,rfl,hi,HF⟩:=hrel
  cases gk with
  | zero =>
    have hil:¬ (i:Int) < (L.length:Int):=(by omega);go_wp2;go_ret;exact ⟨rfl,HF.out⟩
  | succ g =>
    have hil:(i:Int) < (L.length:Int):=(by omega);obtain ⟨x,hx⟩:∃ x,L[i]? = some x:=⟨_,List.getElem?_eq_getElem (by omega)⟩;obtain ⟨ga,oa,rfl⟩:=HA.out (by omega);obtain ⟨gb,ob,rfl⟩:=HB.out (by omega);have hua:=HU.out.fr0 HF.out;have hvb:=HV.out.fr0 HF.out;have f0:=hua.cell0 zae i hx rfl;have q0:=hvb.cell0 zae i hx rfl;have f1:=hua.cell zae i 1 hx rfl;have q1:=hvb.cell zae i 1 hx rfl;have f2:=hua.cell zae i 2 hx rfl;have q2:=hvb.cell zae i 2 hx rfl;have f3:=hua.cell zae i 3 hx rfl;have q3:=hvb.cell zae i 3 hx rfl;have f4:=hua.cell zae i 4 hx rfl;have q4:=hvb.cell zae i 4 hx rfl;have f5:=hua.cell zae i 5 hx rfl;have q5:=hvb.cell zae i 5 hx rfl;have lf:=World.block_lt_of_cell? _ _ f0;have lq:=World.block_lt_of_cell? _ _ q0;clear hx hua hvb;obtain ⟨x1,x2,x3,x4,x5,x6⟩:=x;dsimp only at *
    have HS:Hid (∀ W,Fr No wr W->W.cell? ⟨ga,oa+i * 6,none⟩=some (.string x1)/\W.cell? ⟨ga,oa+i * 6+1,none⟩=some (.string x2)/\W.cell? ⟨ga,oa+i * 6+2,none⟩=some (.int .i64 x3)/\W.cell? ⟨ga,oa+i * 6+3,none⟩=some (.int .i64 x4)/\W.cell? ⟨ga,oa+i * 6+4,none⟩=some (.int .i64 x5)/\W.cell? ⟨ga,oa+i * 6+5,none⟩=some (.int .i64 x6)/\W.cell? ⟨gb,ob+i * 6,none⟩=some (.string x1)/\W.cell? ⟨gb,ob+i * 6+1,none⟩=some (.string x2)/\W.cell? ⟨gb,ob+i * 6+2,none⟩=some (.int .i64 x3)/\W.cell? ⟨gb,ob+i * 6+3,none⟩=some (.int .i64 x4)/\W.cell? ⟨gb,ob+i * 6+4,none⟩=some (.int .i64 x5)/\W.cell? ⟨gb,ob+i * 6+5,none⟩=some (.int .i64 x6)):=H_ fun W hW=>⟨hW.cell0 f0,hW.cell0 f1,hW.cell0 f2,hW.cell0 f3,hW.cell0 f4,hW.cell0 f5,hW.cell0 q0,hW.cell0 q1,hW.cell0 q2,hW.cell0 q3,hW.cell0 q4,hW.cell0 q5⟩
    have b1:=HS.out wr (Fr.refl No wr);have b2:=HS.out wr.drew (Fr.refl No wr).drew;have CK:Hid (∀ (W:World) (k1 k2:ByteArray) (k3 k4 k5 k6:Int),Calls Tryz.prog 82 #[.agg #[.string k1,.string k2,.int .i64 k3,.int .i64 k4,.int .i64 k5,.int .i64 k6],.agg #[.string k1,.string k2,.int .i64 k3,.int .i64 k4,.int .i64 k5,.int .i64 k6]] W fun e w'=>e = .returned (.bool true)/\Fr No W w'):=H_ fun W k1 k2 k3 k4 k5 k6=>zev W ⟨k1,k2,k3,k4,k5,k6⟩;have C1:=H_ (CK.out wr x1 x2 x3 x4 x5 x6);have C1d:=H_ (CK.out wr.drew x1 x2 x3 x4 x5 x6);have HD:=H_ (Fr.refl No wr).drew;go_upto_region 6 with fail
    go_cut [26] (fun s26 wx=>s26 = .bool false/\Hid (Fr No wr wx))
    case first =>
     go_region_held3 (fun W=>W.cell? ⟨ga,oa+i * 6,none⟩=some (.string x1)/\W.cell? ⟨ga,oa+i * 6+1,none⟩=some (.string x2)/\W.cell? ⟨ga,oa+i * 6+2,none⟩=some (.int .i64 x3)/\W.cell? ⟨ga,oa+i * 6+3,none⟩=some (.int .i64 x4)/\W.cell? ⟨ga,oa+i * 6+4,none⟩=some (.int .i64 x5)/\W.cell? ⟨ga,oa+i * 6+5,none⟩=some (.int .i64 x6)/\W.cell? ⟨gb,ob+i * 6,none⟩=some (.string x1)/\W.cell? ⟨gb,ob+i * 6+1,none⟩=some (.string x2)/\W.cell? ⟨gb,ob+i * 6+2,none⟩=some (.int .i64 x3)/\W.cell? ⟨gb,ob+i * 6+3,none⟩=some (.int .i64 x4)/\W.cell? ⟨gb,ob+i * 6+4,none⟩=some (.int .i64 x5)/\W.cell? ⟨gb,ob+i * 6+5,none⟩=some (.int .i64 x6))
      (first | with_reducible exact b1 | with_reducible exact b2 | with_reducible exact b3)
      (first | (go_at_call 82;refine (zev _ ⟨x1,x2,x3,x4,x5,x6⟩).mono ?_;rintro e w3 ⟨rfl,hf3⟩;have b3:=HS.out w3 (by first | exact hf3 | exact (Fr.refl No wr).drew.trans0 hf3)))
     all_goals
      go_wp2;go_meet
      case rel=>exact ⟨rfl,H_ (by first | exact hf3 | exact (Fr.refl No wr).drew.trans0 hf3)⟩
    case rest =>
     obtain ⟨rfl,HX⟩:=hcut;go_wp2;go_roundg g
     case rel=>exact ⟨i+1,by go_num,by omega,H_ (HF.out.trans0 HX.out)⟩
     case measure=>omega
set_option maxHeartbeats 4000000 in
theorem zca (w:World) (u v:Value) (L:List Ev) (hu:SlR w 13 evC u L) (hv:SlR w 13 evC v L) (hl:L.length<=1099511627) :
 Calls Tryz.prog 36 #[u,v] w fun e w'=>e = .returned (.bool true)/\Fr No w w':=by
 obtain ⟨a,ca,rfl,ha1,ha2,ha3⟩:=hu.shape;obtain ⟨b,cb,rfl,hb1,hb2,hb3⟩:=hv.shape;have HU:=H_ hu;have HV:=H_ hv;have HA:=H_ ha3;have HB:=H_ hb3;clear hu hv ha3 hb3;go_enter Tryz.func36,Tryz.ntmps36;go_wp2
 go_loopg [5] L.length (fun g s5 wr=>∃ i:Nat,s5 = .int .i64 i/\i+g=L.length/\Hid (Fr No w wr))
 case atStart=>exact ⟨0,rfl,by simp,H_ (Fr.refl No w)⟩
 case round =>
  obtain ⟨i,rfl,hi,HF⟩:=hrel
  cases gk with
  | zero =>
    have hil:¬ (i:Int) < (L.length:Int):=(by omega);go_wp2;go_ret;exact ⟨rfl,HF.out⟩
  | succ g =>
    have hil:(i:Int) < (L.length:Int):=(by omega);obtain ⟨x,hx⟩:∃ x,L[i]? = some x:=⟨_,List.getElem?_eq_getElem (by omega)⟩;obtain ⟨ga,oa,rfl⟩:=HA.out (by omega);obtain ⟨gb,ob,rfl⟩:=HB.out (by omega);have hua:=HU.out.fr0 HF.out;have hvb:=HV.out.fr0 HF.out;have f0:=hua.cell0 zab i hx rfl;have q0:=hvb.cell0 zab i hx rfl;have f1:=hua.cell zab i 1 hx rfl;have q1:=hvb.cell zab i 1 hx rfl;have f2:=hua.cell zab i 2 hx rfl;have q2:=hvb.cell zab i 2 hx rfl;have f3:=hua.cell zab i 3 hx rfl;have q3:=hvb.cell zab i 3 hx rfl;have f4:=hua.cell zab i 4 hx rfl;have q4:=hvb.cell zab i 4 hx rfl;have f5:=hua.cell zab i 5 hx rfl;have q5:=hvb.cell zab i 5 hx rfl;have f6:=hua.cell zab i 6 hx rfl;have q6:=hvb.cell zab i 6 hx rfl;have f7:=hua.cell zab i 7 hx rfl;have q7:=hvb.cell zab i 7 hx rfl;have f8:=hua.cell zab i 8 hx rfl
    have q8:=hvb.cell zab i 8 hx rfl;have f9:=hua.cell zab i 9 hx rfl;have q9:=hvb.cell zab i 9 hx rfl;have f10:=hua.cell zab i 10 hx rfl;have q10:=hvb.cell zab i 10 hx rfl;have f11:=hua.cell zab i 11 hx rfl;have q11:=hvb.cell zab i 11 hx rfl;have f12:=hua.cell zab i 12 hx rfl;have q12:=hvb.cell zab i 12 hx rfl;have lf:=World.block_lt_of_cell? _ _ f0;have lq:=World.block_lt_of_cell? _ _ q0;clear hx hua hvb;obtain ⟨x0,⟨x1,x2,x3,x4,x5,x6⟩,⟨x7,x8,x9,x10,x11,x12⟩⟩:=x;dsimp only at *
    have HS:Hid (∀ W,Fr No wr W->W.cell? ⟨ga,oa+i * 13,none⟩=some (.int .i64 x0)/\W.cell? ⟨ga,oa+i * 13+1,none⟩=some (.string x1)/\W.cell? ⟨ga,oa+i * 13+2,none⟩=some (.string x2)/\W.cell? ⟨ga,oa+i * 13+3,none⟩=some (.int .i64 x3)/\W.cell? ⟨ga,oa+i * 13+4,none⟩=some (.int .i64 x4)/\W.cell? ⟨ga,oa+i * 13+5,none⟩=some (.int .i64 x5)/\W.cell? ⟨ga,oa+i * 13+6,none⟩=some (.int .i64 x6)/\W.cell? ⟨ga,oa+i * 13+7,none⟩=some (.string x7)/\W.cell? ⟨ga,oa+i * 13+8,none⟩=some (.string x8)/\W.cell? ⟨ga,oa+i * 13+9,none⟩=some (.int .i64 x9)/\W.cell? ⟨ga,oa+i * 13+10,none⟩=some (.int .i64 x10)/\W.cell? ⟨ga,oa+i * 13+11,none⟩=some (.int .i64 x11)/\W.cell? ⟨ga,oa+i * 13+12,none⟩=some (.int .i64 x12)/\W.cell? ⟨gb,ob+i * 13,none⟩=some (.int .i64 x0)/\W.cell? ⟨gb,ob+i * 13+1,none⟩=some (.string x1)/\W.cell? ⟨gb,ob+i * 13+2,none⟩=some (.string x2)/\W.cell? ⟨gb,ob+i * 13+3,none⟩=some (.int .i64 x3)/\W.cell? ⟨gb,ob+i * 13+4,none⟩=some (.int .i64 x4)/\W.cell? ⟨gb,ob+i * 13+5,none⟩=some (.int .i64 x5)/\W.cell? ⟨gb,ob+i * 13+6,none⟩=some (.int .i64 x6)/\W.cell? ⟨gb,ob+i * 13+7,none⟩=some (.string x7)/\W.cell? ⟨gb,ob+i * 13+8,none⟩=some (.string x8)/\W.cell? ⟨gb,ob+i * 13+9,none⟩=some (.int .i64 x9)/\W.cell? ⟨gb,ob+i * 13+10,none⟩=some (.int .i64 x10)/\W.cell? ⟨gb,ob+i * 13+11,none⟩=some (.int .i64 x11)/\W.cell? ⟨gb,ob+i * 13+12,none⟩=some (.int .i64 x12)):=H_ fun W hW=>⟨hW.cell0 f0,hW.cell0 f1,hW.cell0 f2,hW.cell0 f3,hW.cell0 f4,hW.cell0 f5,hW.cell0 f6,hW.cell0 f7,hW.cell0 f8,hW.cell0 f9,hW.cell0 f10,hW.cell0 f11,hW.cell0 f12,hW.cell0 q0,hW.cell0 q1,hW.cell0 q2,hW.cell0 q3,hW.cell0 q4,hW.cell0 q5,hW.cell0 q6,hW.cell0 q7,hW.cell0 q8,hW.cell0 q9,hW.cell0 q10,hW.cell0 q11,hW.cell0 q12⟩
    have b1:=HS.out wr (Fr.refl No wr);have b2:=HS.out wr.drew (Fr.refl No wr).drew;have CK:Hid (∀ (W:World) (k1 k2:ByteArray) (k3 k4 k5 k6:Int),Calls Tryz.prog 82 #[.agg #[.string k1,.string k2,.int .i64 k3,.int .i64 k4,.int .i64 k5,.int .i64 k6],.agg #[.string k1,.string k2,.int .i64 k3,.int .i64 k4,.int .i64 k5,.int .i64 k6]] W fun e w'=>e = .returned (.bool true)/\Fr No W w'):=H_ fun W k1 k2 k3 k4 k5 k6=>zev W ⟨k1,k2,k3,k4,k5,k6⟩;have C1:=H_ (CK.out wr x1 x2 x3 x4 x5 x6);have C1d:=H_ (CK.out wr.drew x1 x2 x3 x4 x5 x6);have HD:=H_ (Fr.refl No wr).drew;go_upto_region 6 with fail
    go_cut [55] (fun sc wx=>sc = .bool false/\Hid (Fr No wr wx))
    case first =>
     go_region_held3 (fun W=>W.cell? ⟨ga,oa+i * 13,none⟩=some (.int .i64 x0)/\W.cell? ⟨ga,oa+i * 13+1,none⟩=some (.string x1)/\W.cell? ⟨ga,oa+i * 13+2,none⟩=some (.string x2)/\W.cell? ⟨ga,oa+i * 13+3,none⟩=some (.int .i64 x3)/\W.cell? ⟨ga,oa+i * 13+4,none⟩=some (.int .i64 x4)/\W.cell? ⟨ga,oa+i * 13+5,none⟩=some (.int .i64 x5)/\W.cell? ⟨ga,oa+i * 13+6,none⟩=some (.int .i64 x6)/\W.cell? ⟨ga,oa+i * 13+7,none⟩=some (.string x7)/\W.cell? ⟨ga,oa+i * 13+8,none⟩=some (.string x8)/\W.cell? ⟨ga,oa+i * 13+9,none⟩=some (.int .i64 x9)/\W.cell? ⟨ga,oa+i * 13+10,none⟩=some (.int .i64 x10)/\W.cell? ⟨ga,oa+i * 13+11,none⟩=some (.int .i64 x11)/\W.cell? ⟨ga,oa+i * 13+12,none⟩=some (.int .i64 x12)/\W.cell? ⟨gb,ob+i * 13,none⟩=some (.int .i64 x0)/\W.cell? ⟨gb,ob+i * 13+1,none⟩=some (.string x1)/\W.cell? ⟨gb,ob+i * 13+2,none⟩=some (.string x2)/\W.cell? ⟨gb,ob+i * 13+3,none⟩=some (.int .i64 x3)/\W.cell? ⟨gb,ob+i * 13+4,none⟩=some (.int .i64 x4)/\W.cell? ⟨gb,ob+i * 13+5,none⟩=some (.int .i64 x5)/\W.cell? ⟨gb,ob+i * 13+6,none⟩=some (.int .i64 x6)/\W.cell? ⟨gb,ob+i * 13+7,none⟩=some (.string x7)/\W.cell? ⟨gb,ob+i * 13+8,none⟩=some (.string x8)/\W.cell? ⟨gb,ob+i * 13+9,none⟩=some (.int .i64 x9)/\W.cell? ⟨gb,ob+i * 13+10,none⟩=some (.int .i64 x10)/\W.cell? ⟨gb,ob+i * 13+11,none⟩=some (.int .i64 x11)/\W.cell? ⟨gb,ob+i * 13+12,none⟩=some (.int .i64 x12))
      (first | with_reducible exact b1 | with_reducible exact b2 | with_reducible exact b3 | with_reducible exact b3d | with_reducible exact b4 | with_reducible exact b4d)
      (first
        | (go_at_call 82;(first | with_reducible refine C1.out.mono ?_ | with_reducible refine C1d.out.mono ?_);rintro e w3 ⟨rfl,hf3⟩
           have hf3':Fr No wr w3:=(by first | with_reducible exact hf3 | with_reducible exact HD.out.trans0 hf3);have b3:=HS.out w3 hf3';have b3d:=HS.out w3.drew hf3'.drew;have C2:=H_ (CK.out w3 x7 x8 x9 x10 x11 x12);have C2d:=H_ (CK.out w3.drew x7 x8 x9 x10 x11 x12);have HF3:=H_ hf3';have HD3:=H_ hf3'.drew;clear hf3 hf3')
        | (go_at_call 82;(first | with_reducible refine C2.out.mono ?_ | with_reducible refine C2d.out.mono ?_);rintro e w4 ⟨rfl,hf4⟩
           have hf4':Fr No wr w4:=(by first | with_reducible exact HF3.out.trans0 hf4 | with_reducible exact HD3.out.trans0 hf4);have b4:=HS.out w4 hf4';have b4d:=HS.out w4.drew hf4'.drew;have HF4:=H_ hf4';have HD4:=H_ hf4'.drew;clear hf4 hf4'))
     all_goals
      go_wp2;go_meet
      case rel=>exact ⟨rfl,by first | with_reducible exact HF4 | with_reducible exact HD4⟩
    case rest =>
     obtain ⟨rfl,HX⟩:=hcut;go_wp2;go_roundg g
     case rel=>exact ⟨i+1,by go_num,by omega,H_ (HF.out.trans0 HX.out)⟩
     case measure=>omega
theorem zof (w:World) (r m:Int) (n1 n2 c1 c2:Nat) (a1 a2:Option Addr) :
 Calls Tryz.prog 22 #[stateV r m (.slice a1 n1 c1) (.slice a2 n2 c2)] w fun e w'=>e = .returned (stateV r m (.slice a1 n1 c1) (.slice a2 n2 c2))/\Fr No w w':=by
 unfold stateV;go_enter Tryz.func22,Tryz.ntmps22;go_wp2;exact bodyPost_ret (results_cell_row rfl _ _ (w.heap.size+1) 30 _ (0,0) _ rfl (zad _ _ _ (by simp)) Tryz.underlying30 rfl (by kernel_rfl)) rfl ⟨rfl,((Fr.refl No w).alloc _).alloc _⟩
theorem zoc (w:World) (r m:Int) (u1 u2 v1 v2:Value) (L:List Kv) (M:List Ev) (h1:SlR w 6 kvC u1 L) (h2:SlR w 6 kvC u2 L) (h3:SlR w 13 evC v1 M) (h4:SlR w 13 evC v2 M) (hl:L.length<=1099511627) (hm:M.length<=1099511627) :
 Calls Tryz.prog 21 #[stateV r m u1 v1,stateV r m u2 v2] w fun e w'=>e = .returned (.bool true)/\Fr No w w':=by
 have c36:=fun W (h:Fr No w W)=>zfv W u1 u2 L (h1.fr0 h) (h2.fr0 h) (by omega);have c72:=fun W (h:Fr No w W)=>zca W v1 v2 M (h3.fr0 h) (h4.fr0 h) hm;obtain ⟨a1,k1,rfl,_,_,_⟩:=h1.shape;obtain ⟨a2,k2,rfl,_,_,_⟩:=h2.shape;obtain ⟨a3,k3,rfl,_,_,_⟩:=h3.shape;obtain ⟨a4,k4,rfl,_,_,_⟩:=h4.shape;have H36:=H_ c36;have H72:=H_ c72;clear h1 h2 h3 h4 c36 c72;unfold stateV;go_enter Tryz.func21,Tryz.ntmps21
 go_wp2_with (first
  | (go_at_call 54;refine (H36.out _ (((Fr.refl No w).alloc _).alloc _)).mono ?_;rintro e w1 ⟨rfl,hf1⟩
     have hb1:=hf1.heap (zaj (zad w (Obj.cells #[.int .i64 r,.int .i64 m,.slice a1 L.length k1,.slice a3 M.length k3] 30) _ rfl) (Obj.cells #[.int .i64 r,.int .i64 m,.slice a2 L.length k2,.slice a4 M.length k4] 30)) id;have hb2:=hf1.heap (zad (w.alloc (Obj.cells #[.int .i64 r,.int .i64 m,.slice a1 L.length k1,.slice a3 M.length k3] 30)) (Obj.cells #[.int .i64 r,.int .i64 m,.slice a2 L.length k2,.slice a4 M.length k4] 30) (w.heap.size+1) (by simp)) id;have x3:w1.cell? ⟨w.heap.size,3,none⟩=some (.slice a3 M.length k3):=(by simp [World.cell?,hb1]);have y3:=cellAt hb2 3 rfl;have lx:=zac hb1;have ly:=zac hb2)
  | (go_at_call 36;refine (H72.out _ ((((Fr.refl No w).alloc _).alloc _).trans0 hf1)).mono ?_;rintro e w2 ⟨rfl,hf2⟩))
 go_ret;exact ⟨rfl,(((Fr.refl No w).alloc _).alloc _).trans0 (hf1.trans0 hf2)⟩
theorem zgm (w:World) (u v:Value) (L:List Kv) (hu:SlF w 99 6 kvC u L) (hv:SlF w 99 6 kvC v L) (hl:L.length<=9223372036854775807) :
 Calls Tryz.prog 54 #[u,v] w fun e w'=>e = .returned (.bool true)/\Fr No w w':=zfv w u v L (hu.toR zae) (hv.toR zae) hl
theorem zhv (w:World) (u v:Value) (L:List Ev) (hu:SlF w 101 13 evC u L) (hv:SlF w 101 13 evC v L) (hl:L.length<=1099511627) :
 Calls Tryz.prog 36 #[u,v] w fun e w'=>e = .returned (.bool true)/\Fr No w w':=zca w u v L (hu.toR zab) (hv.toR zab) hl
set_option maxHeartbeats 4000000 in
theorem zhc (w:World) (u v:Value) (Z1 Z2:List (Ans × Value)) (hu:AnsR w u Z1) (hv:AnsR w v Z2) (he:Z1.map (·.1)=Z2.map (·.1)) (hl:Z1.length<=1099511627) :
 Calls Tryz.prog 35 #[u,v] w fun e w'=>e = .returned (.bool true)/\Fr No w w':=by
 obtain ⟨a,ca,rfl,ha1,ha2,ha3⟩:=hu.sl.shape;obtain ⟨b,cb,rfl,hb1,hb2,hb3⟩:=hv.sl.shape;have hlen:Z2.length=Z1.length:=by have:=congrArg List.length he;simpa using this.symm
 have hnx:∀ (i:Nat) (q:Ans × Value),Z1[i]? = some q->∃ v2,Z2[i]? = some (q.1,v2):=fun i q hq=>by
  have h1:=congrArg (fun l:List Ans=>l[i]?) he;simp only [List.getElem?_map,hq,Option.map_some] at h1
  cases h2:Z2[i]? with
  | none=>rw [h2] at h1;cases h1
  | some q2 =>
    rw [h2] at h1;obtain ⟨x2,v2⟩:=q2;refine ⟨v2,?_⟩;simp only [Option.map_some,Option.some.injEq] at h1;rw [h1]
 have HU:=H_ hu;have HV:=H_ hv;have HA:=H_ ha3;have HB:=H_ hb3;have HNX:=H_ hnx;clear hu hv ha3 hb3 hnx he;rw [hlen];rw [hlen] at HV HB hb1;go_enter Tryz.func35,Tryz.ntmps35;go_wp2
 go_loopg [5] Z1.length (fun g s5 wr=>∃ i:Nat,s5 = .int .i64 i/\i+g=Z1.length/\Hid (Fr No w wr))
 case atStart=>exact ⟨0,rfl,by simp,H_ (Fr.refl No w)⟩
 case round =>
  obtain ⟨i,rfl,hi,HF⟩:=hrel
  cases gk with
  | zero =>
    have hil:¬ (i:Int) < (Z1.length:Int):=(by omega);go_wp2;go_ret;exact ⟨rfl,HF.out⟩
  | succ g =>
    have hil:(i:Int) < (Z1.length:Int):=(by omega);obtain ⟨q,hx⟩:∃ q,Z1[i]? = some q:=⟨_,List.getElem?_eq_getElem (by omega)⟩;obtain ⟨v2,hy⟩:=HNX.out i q hx;obtain ⟨ga,oa,rfl⟩:=HA.out (by omega);obtain ⟨gb,ob,rfl⟩:=HB.out (by omega);have hua:=HU.out.sl.fr0 HF.out;have hvb:=HV.out.sl.fr0 HF.out;rw [<-hlen] at hvb;have f0:=hua.cell0 zbj i hx rfl;have q0:=hvb.cell0 zbj i hy rfl;have f1:=hua.cell zbj i 1 hx rfl;have q1:=hvb.cell zbj i 1 hy rfl;have f2:=hua.cell zbj i 2 hx rfl;have q2:=hvb.cell zbj i 2 hy rfl;have f3:=hua.cell zbj i 3 hx rfl;have q3:=hvb.cell zbj i 3 hy rfl;have lf:=World.block_lt_of_cell? _ _ f0;have lq:=World.block_lt_of_cell? _ _ q0;have hk1:=(HU.out.kvs i q hx).fr0 HF.out;have hk2:=(HV.out.kvs i _ hy).fr0 HF.out
    have hkl:q.1.kvs.length<=9223372036854775807:=by
     obtain ⟨_,_,_,k1,k2,_⟩:=hk1.shape;have:maxLen=9223372036854775807:=rfl;omega
    have CK:Hid (∀ W,Fr No wr W->Calls Tryz.prog 54 #[q.2,v2] W fun e w'=>e = .returned (.bool true)/\Fr No W w'):=H_ fun W hW=>zgm W _ _ _ (hk1.fr0 hW) (hk2.fr0 hW) hkl;obtain ⟨⟨x1,x2,x3,x4⟩,v1⟩:=q;clear hx hy hua hvb hk1 hk2;dsimp only at f0 f1 f2 f3 q0 q1 q2 q3 CK;have HS:Hid (∀ W,Fr No wr W->W.cell? ⟨ga,oa+i * 4,none⟩=some (.int .i64 x1)/\W.cell? ⟨ga,oa+i * 4+1,none⟩=some v1/\W.cell? ⟨ga,oa+i * 4+2,none⟩=some (.int .i64 x3)/\W.cell? ⟨ga,oa+i * 4+3,none⟩=some (.bool x4)/\W.cell? ⟨gb,ob+i * 4,none⟩=some (.int .i64 x1)/\W.cell? ⟨gb,ob+i * 4+1,none⟩=some v2/\W.cell? ⟨gb,ob+i * 4+2,none⟩=some (.int .i64 x3)/\W.cell? ⟨gb,ob+i * 4+3,none⟩=some (.bool x4)):=H_ fun W hW=>⟨hW.cell0 f0,hW.cell0 f1,hW.cell0 f2,hW.cell0 f3,hW.cell0 q0,hW.cell0 q1,hW.cell0 q2,hW.cell0 q3⟩
    have b1:=HS.out wr (Fr.refl No wr);have b2:=HS.out wr.drew (Fr.refl No wr).drew;have C1:=H_ (CK.out wr (Fr.refl No wr));have C1d:=H_ (CK.out wr.drew (Fr.refl No wr).drew);have HD:=H_ (Fr.refl No wr).drew;go_upto_region 6 with fail
    go_cut [67] (fun sc wx=>sc = .bool false/\Hid (Fr No wr wx))
    case first =>
     go_region_held3 (fun W=>W.cell? ⟨ga,oa+i * 4,none⟩=some (.int .i64 x1)/\W.cell? ⟨ga,oa+i * 4+1,none⟩=some v1/\W.cell? ⟨ga,oa+i * 4+2,none⟩=some (.int .i64 x3)/\W.cell? ⟨ga,oa+i * 4+3,none⟩=some (.bool x4)/\W.cell? ⟨gb,ob+i * 4,none⟩=some (.int .i64 x1)/\W.cell? ⟨gb,ob+i * 4+1,none⟩=some v2/\W.cell? ⟨gb,ob+i * 4+2,none⟩=some (.int .i64 x3)/\W.cell? ⟨gb,ob+i * 4+3,none⟩=some (.bool x4))
      (first | with_reducible exact b1 | with_reducible exact b2 | with_reducible exact b3 | with_reducible exact b3d)
      (first
        | (go_at_call 54;(first | with_reducible refine C1.out.mono ?_ | with_reducible refine C1d.out.mono ?_);rintro e w3 ⟨rfl,hf3⟩
           have hf3':Fr No wr w3:=(by first | with_reducible exact hf3 | with_reducible exact HD.out.trans0 hf3);have b3:=HS.out w3 hf3';have b3d:=HS.out w3.drew hf3'.drew;have HF3:=H_ hf3';have HD3:=H_ hf3'.drew;clear hf3 hf3'))
     all_goals
      go_wp2;go_meet
      case rel=>exact ⟨rfl,by first | with_reducible exact HF3 | with_reducible exact HD3⟩
    case rest =>
     obtain ⟨rfl,HX⟩:=hcut;go_wp2;go_roundg g
     case rel=>exact ⟨i+1,by go_num,by omega,H_ (HF.out.trans0 HX.out)⟩
     case measure=>omega
def DocAp (D:Doc) (w:World) (v:Value) (F:Nat->Prop):Prop:=∃ b1 c1 b2 c2,v=docV D (.slice b1 D.kvs.length c1) (.slice b2 D.events.length c2)/\DocR w D (.slice b1 D.kvs.length c1) (.slice b2 D.events.length c2) ∧
 (0 < D.kvs.length->∀ b,(Value.slice b1 D.kvs.length c1).ownBlock=some b->¬ F b)/\(0 < D.events.length->∀ b,(Value.slice b2 D.events.length c2).ownBlock=some b->¬ F b)
def zhk (TA:zaq) (S':St) (D':Doc) (s:Nat) (F:Nat->Prop) (w:World) (e:Ending) (w':World):Prop :=
 ∃ v F',e = .returned (.tuple #[v,.bool true])/\zal TA w' s S' F'/\DocAp D' w' v F'/\Fr F w w'/\∀ b,F' b->F b\/w.heap.size<=b
theorem SlR.not4k {w:World} {v:Value} {L:List Kv} (h:SlR w 6 kvC v L) (h0:0 < L.length) {b:Nat} (hb:v.ownBlock=some b) {a0 a1 a2 a3:Value} {t:TypeId} (hk:w.heap[b]? = some (.cells #[a0,a1,a2,a3] t (0,0))):False:=by
 obtain ⟨a,cap,rfl,h1,h2,h3⟩:=h;obtain ⟨g,o,rfl,h4⟩:=h3 h0;obtain rfl:g=b:=by simpa [Value.ownBlock] using hb
 have hx:L[0]? = some L[0]:=List.getElem?_eq_getElem h0;have hc:=h4 0 _ hx 5 _ rfl;have hn:(#[a0,a1,a2,a3]:Array Value)[o+0 * 6+5]? = none:=Array.getElem?_eq_none (by simp);unfold World.cell? at hc;dsimp only at hc;rw [hk] at hc;simp only [hn] at hc;cases hc
theorem DocVN.fr0 {D D0:Doc} {w0 w w':World} {u1 u2 v:Value} (h:DocVN D w0 D0 u1 u2 w v) (hf:Fr No w w'):DocVN D w0 D0 u1 u2 w' v:=by
 obtain ⟨b1,c1,b2,c2,e,hd,n⟩:=h;exact ⟨b1,c1,b2,c2,e,hd.fr0 hf,n⟩
theorem DocVN.ap {D D0:Doc} {w0 w w':World} {u1 u2 v:Value} {F':Nat->Prop} {rb:Nat} (h:DocVN D w0 D0 u1 u2 w v) (hf:Fr (fun j=>j=rb) w w') {z0 z1 z2 z3:Value} {t:TypeId} (hr:w.heap[rb]? = some (.cells #[z0,z1,z2,z3] t (0,0)))
 (h1:0 < D0.kvs.length->∀ b,u1.ownBlock=some b->¬ F' b) (h2:0 < D0.events.length->∀ b,u2.ownBlock=some b->¬ F' b) (hn:∀ b,F' b->b < w0.heap.size):DocAp D w' v F':=by
 obtain ⟨b1,c1,b2,c2,e,hd,n1,n2⟩:=h;refine ⟨b1,c1,b2,c2,e,⟨hd.kvs.frp hf fun h0 b hb e=>(by have e':b=rb:=e;rw [e'] at hb;exact hd.kvs.not4k h0 hb hr),hd.evs.frp hf fun h0 b hb e=>(by have e':b=rb:=e;rw [e'] at hb;exact hd.evs.not4 h0 hb hr)⟩,fun h0 b hb hF=>?_,fun h0 b hb hF=>?_⟩
 · rcases n1 b h0 hb with ⟨h,h'⟩ | h
   · exact h1 h b h' hF
   have:=hn b hF;omega
 rcases n2 b h0 hb with ⟨h,h'⟩ | h
 · exact h2 h b h' hF
 have:=hn b hF;omega
theorem zoq (a b:Int):insB a b=sinceB a b:=by
 funext e
 unfold insB outB sinceB;rw [Bool.eq_iff_iff];simp only [Bool.not_eq_true',Bool.or_eq_false_iff,decide_eq_false_iff_not,Bool.and_eq_true,decide_eq_true_eq];omega
end Go.Proofs.YthljnnjpmdgkoaaGreat