/- Own lemmas and contracts that the claim's proof needs, laid together. The conditions stand in each. -/
import Derived.Test.YthljnnjpmdgkoaaN14
import Derived.Test.YthljnnjpmdgkoaaN32
import Derived.Test.YthljnnjpmdgkoaaN25
import Derived.Test.YthljnnjpmdgkoaaN29
import Derived.Deep.RegionHeld3
import Derived.Deep.DeepCutAuto
import Derived.BigRegion
namespace Go.Proofs.Ythljnnjpmdgkoaa
open Go Go.Proofs Go.RowKit
set_option maxRecDepth 100000
theorem zsq (x:Ev):∀ u∈evC x,u.oneCell'=true:=fun u hu=>ztr (L:=[x]) (by simpa using hu)
theorem zpz {X:World} {b:Nat} {a0 a1 a2 a3:Value} (hk:X.heap[b]? = some (.cells #[a0,a1,a2,a3] 69 (0,0))) (r m kv ev:Value) :
 ∃ Z,((((X.setCell ⟨b,0,none⟩ r).setCell ⟨b,1,none⟩ m).setCell ⟨b,2,none⟩ kv).setCell ⟨b,3,none⟩ ev)=Z/\Z.heap[b]? = some (.cells #[r,m,kv,ev] 69 (0,0))/\Fr (fun x=>x=b) X Z:=by
 have z1:=zaa hk 0 r;have z2:=zaa z1 1 m;have z3:=zaa z2 2 kv;have z4:=zaa z3 3 ev;refine ⟨_,rfl,by rw [z4];simp,((((Fr.refl (fun x=>x=b) X).setAt 0 r).setAt 1 m).setAt 2 kv).setAt 3 ev⟩
def stateV (r m:Int) (kv ev:Value):Value:=.agg #[.int .i64 r,.int .i64 m,kv,ev]
set_option maxHeartbeats 8000000 in
theorem zmz {TA:zan} {N:Nat} (hT:TreeOk TA N) {n:Nat} (hn:n<=1099511627) (w:World) (s:Nat) (S:St) (F:Nat->Prop) (hS:zaj TA w s S F) (hok:StOk n S) (hN:S.T.length<=1099511627) :
 Calls Try.prog 37 #[.pointer (some ⟨s,0,none⟩)] w fun e w'=>∃ kv ev,e = .returned (stateV S.rev S.mark kv ev)/\SlF w' 57 6 kvC kv (zah S S.T S.mark)/\SlF w' 73 13 evC ev S.events/\Fr No w w'/\(∀ b,kv.ownBlock=some b->w.heap.size<=b)/\(∀ b,ev.ownBlock=some b->w.heap.size<=b):=by
 have hhad:=fun W hW at_ H hH=>zhy hT hn W s S F hW hok at_ S.mark H hH;have hSA:=H_ hS;obtain ⟨t,p,ev,hp,FT,FH,a,hF⟩:=hS;have c0:=a.obj.cell 0 rfl;have c3:=a.obj.cell 3 rfl;have c4:=a.obj.cell 4 rfl;have c5:=a.obj.cell 5 rfl;have ls:=a.obj.lt;have hes:=a.events;have hevl:=hok.ev;have hlen:=fun W (h:Fr No w W)=>hT.len (w:=W) (t:=t) (T:=S.T) (F:=FT) (hT.fr a.tree h fun _ _ s=>s);have hrng:=fun W (h:Fr No w W)=>hT.range (w:=W) (t:=t) (T:=S.T) (F:=FT) ⟨#[]⟩ ⟨#[]⟩ (hT.fr a.tree h fun _ _ s=>s);simp only [zfn] at hrng;have HLEN:=H_ hlen;have HRNG:=H_ hrng;have HH:=H_ hhad;have HOk:=H_ hok.id;have HES:=H_ hes;clear a hF hes hlen hrng hhad;go_enter Try.func37,Try.ntmps37;go_upto_region 3 with fail
 have hf0:Fr No w (w.alloc (Obj.cells #[.int .i64 0,.int .i64 0,.slice none 0 0,.slice none 0 0] 69)):=(Fr.refl No w).alloc _;have hb0:=zac w (Obj.cells #[.int .i64 0,.int .i64 0,.slice none 0 0,.slice none 0 0] 69) _ rfl;generalize w.alloc (Obj.cells #[.int .i64 0,.int .i64 0,.slice none 0 0,.slice none 0 0] 69)=W0 at *;have d3:=hf0.cell0 c3;have d4:=hf0.cell0 c4;have ls0:s < W0.heap.size:=Nat.lt_of_lt_of_le ls hf0.size
 go_region
 go_upto_region 4 with fail;have hb1:((W0.alloc (Obj.cells #[.int .i64 S.rev,.int .i64 S.mark,.slice none 0 0,.slice none 0 0] 69)).drew).heap[W0.heap.size]? = some (.cells #[.int .i64 S.rev,.int .i64 S.mark,.slice none 0 0,.slice none 0 0] 69 (0,0)):=zac _ _ _ rfl;have hb01:((W0.alloc (Obj.cells #[.int .i64 S.rev,.int .i64 S.mark,.slice none 0 0,.slice none 0 0] 69)).drew).heap[w.heap.size]? = some (.cells #[.int .i64 0,.int .i64 0,.slice none 0 0,.slice none 0 0] 69 (0,0)):=zae hb0 _;have hf1:Fr No w ((W0.alloc (Obj.cells #[.int .i64 S.rev,.int .i64 S.mark,.slice none 0 0,.slice none 0 0] 69)).drew):=(hf0.alloc _).drew;have lw0:=zab hb0;clear d3 d4 hf0 hb0;generalize (W0.alloc (Obj.cells #[.int .i64 S.rev,.int .i64 S.mark,.slice none 0 0,.slice none 0 0] 69)).drew=W1 at *;have d0:=hf1.cell0 c0
 have ls1:s < W1.heap.size:=Nat.lt_of_lt_of_le ls hf1.size
 go_region_held3 (fun W=>W.cell? ⟨s,0,none⟩=some (.pointer (some ⟨t,0,none⟩)))
  (first | assumption | exact hf7.cell0 d0)
  (first
    | (go_at_call 70;refine (HLEN.out _ (hf1.trans0 (by (repeat (first | with_reducible exact Fr.refl _ _ | with_reducible refine Fr.drew ?_));done))).mono ?_;rintro e w' ⟨rfl,rfl⟩)
    | (go_at_call 69;refine (HRNG.out _ (hf1.trans0 (by (repeat (first | with_reducible exact Fr.refl _ _ | with_reducible refine Fr.drew ?_));done))).mono ?_;rintro e w7 ⟨pv,rfl,hpv,hf7,hpn⟩;obtain ⟨pa,pcap,rfl,hp1,hp2,hp3⟩:=hpv.shape))
 have hf17:Fr No W1 w7:=(by first | exact hf7 | exact (Fr.refl No W1).drew.trans0 hf7);have hb7:=hf17.heap hb1 id;have hb07:=hf17.heap hb01 id;have hf07:Fr No w w7:=hf1.trans0 hf17;have hs17:=hf17.size;have l1:=zab hb1;have hpn7:∀ b,(Value.slice pa S.T.length pcap).ownBlock=some b->W1.heap.size<=b:=fun b hb=>by have:=hpn b hb;have h':W1.heap.size<=b:=this;omega
 have HB7:=H_ hb7;have HB07:=H_ hb07;have HF7:=H_ hf07;have HPV:=H_ hpv;have HPN:=H_ hpn7;have HP3:=H_ hp3;have hST:∃ St1:Nat,W0.heap.size=St1/\w.heap.size < St1/\St1 < w7.heap.size:=⟨_,rfl,lw0,by omega⟩;obtain ⟨sb,hsb,hsb1,hsb2⟩:=hST;rw [hsb] at HB7;have hsb3:sb < W1.heap.size:=by omega
 clear hb7 hb07 hf07 hpv hpn7 hp3 hb1 hb01 hpn hf7 hf17 d0;obtain ⟨i0,hi0,hz0,hz1,hz2⟩:=info_parts info57;have hcap:S.T.length<=1099511627:=hN;have HOK2:=H_ hok;rw [hsb];go_wp2
 go_loopg [31] S.T.length (fun g s31 wr=>∃ (i:Nat) (o:Value),s31 = .int .i64 i/\i+g=S.T.length/\Hid (wr.heap[sb]? = some (.cells #[.int .i64 S.rev,.int .i64 S.mark,o,.slice none 0 0] 69 (0,0)))/\Hid (SlF wr 57 6 kvC o (zah S (S.T.take i) S.mark))/\Hid (Fr (fun b=>b=sb) w7 wr)/\Hid (∀ b,o.ownBlock=some b->w7.heap.size<=b))
 case atStart=>exact ⟨0,_,rfl,by simp,HB7,H_ (SlF.nil _ _ _ _),H_ (Fr.refl _ _),H_ (by simp [Value.ownBlock])⟩
 case round =>
  obtain ⟨i,o,rfl,hi,HBR,HO,HFR,HOn⟩:=hrel;have lsb:=zab HBR.out;have hfw:Fr No w wr:=HF7.out.trans HFR.out fun b hb e=>by have e':b=sb:=e;omega
  have HFW:=H_ hfw;have r0:=hfw.cell0 c0;have r4:=hfw.cell0 c4;have r5:=hfw.cell0 c5;have lsr:s < wr.heap.size:=Nat.lt_of_lt_of_le ls hfw.size;have b2:=cellAt HBR.out 2 rfl;have b3:=cellAt HBR.out 3 rfl;have bfz:∀ j,wr.frozen? ⟨sb,j,none⟩=false:=fun j=>by unfold World.frozen?;dsimp only;rw [HBR.out];simp
  obtain ⟨oa,ocap,rfl,ho1,ho2,ho3⟩:=HO.out.shape;clear ho3 hfw
  cases gk with
  | zero =>
    have hil:¬ (i:Int) < (S.T.length:Int):=(by omega);go_upto_region 11 with fail;have hti:S.T.take i=S.T:=List.take_of_length_le (by omega);rw [hti] at HO HOn ho1 b2 HBR;obtain ⟨j0,hj0,hy0,hy1,hy2⟩:=info_parts info73;have hnl:=hok.ev;have hwd:=HFW.out.drew;have hsE:=HES.out.fr0 hwd;obtain ⟨ea,ecap,rfl,he1,he2,he3⟩:=hsE.shape;have HSE:=H_ hsE;have HOo:=H_ (show (Value.slice oa (zah S S.T S.mark).length ocap).ownBlock≠some sb from fun h=>by have:=HOn.out sb h;omega);clear hsE he3 hwd
    go_region_law (refine zgv rfl _ _ 34 rfl 73 j0 _ 13 136 Try.underlying34 hj0 hy0 hy1 hy2 rfl (by decide) zau zsq (.slice none 0 0) (.slice ea S.events.length ecap) [] S.events rfl rfl (SlF.nil _ _ _ _) HSE.out (by unfold maxLen;simp;try omega) (by simp;try omega) ?_;intro v4 w4 hs4 hf4 hb4;obtain ⟨va,vcap,rfl,_,_,_⟩:=hs4.shape;have hq4:Fr No wr.drew w4:=hf4.mono (fun b _ h=>by simp [Value.ownBlock] at h);have hb4':=hq4.heap (show wr.drew.heap[sb]? = _ from HBR.out) id;have v3:w4.cell? ⟨sb,3,none⟩=some (.slice none 0 0):=(by simp [World.cell?,hb4']);have v3f:w4.frozen? ⟨sb,3,none⟩=false:=(by simp [World.frozen?,hb4']);have l4:=zab hb4';have HS4:=H_ hs4;have HQ4:=H_ hq4;have HB4:=H_ hb4';have HBN:=H_ hb4;clear hs4 hf4 hb4 hq4 hb4')
    all_goals
     have hset:=zaa HB4.out 3 (.slice va S.events.length vcap);have hfs:Fr (fun b=>b=sb) w4 (w4.setCell ⟨sb,3,none⟩ (.slice va S.events.length vcap)):=(Fr.refl _ w4).setAt 3 _;have hb0r:=HFR.out.heap HB07.out (fun e=>by have e':w.heap.size=sb:=e;omega);have hb04:=HQ4.out.heap (show wr.drew.heap[w.heap.size]? = _ from hb0r) (fun h=>h);have hb05:=hfs.heap hb04 (fun e=>by have e':w.heap.size=sb:=e;omega)
     have hev5:=HS4.out.fr hfs fun b hb e=>by
      have e':b=sb:=e;have h1:=HBN.out b hb;rcases h1 with h1 | h1
      · simp [Value.ownBlock] at h1
      have h2:wr.heap.size<=b:=h1
      omega
     have hkv5:=((HO.out.fr0 (Fr.refl No wr).drew).fr0 HQ4.out).fr hfs fun b hb e=>by
      have e':b=sb:=e;exact HOo.out (by rw [<-e'];exact hb)
     have hq5:Fr No w (w4.setCell ⟨sb,3,none⟩ (.slice va S.events.length vcap)):=(HFW.out.drew.trans0 HQ4.out).trans hfs fun b hb e=>by
      have e':b=sb:=e;omega
     generalize w4.setCell ⟨sb,3,none⟩ (.slice va S.events.length vcap)=W5 at *;have hst:∃ row,W5.heap[sb]? = some (.cells row 69 (0,0))/\row = #[.int .i64 S.rev,.int .i64 S.mark,.slice oa (zah S S.T S.mark).length ocap,.slice va S.events.length vcap]:=⟨_,hset,by simp⟩;obtain ⟨row,hset,rfl⟩:=hst;obtain ⟨s0,s1,s2,s3⟩:=cells4 hset;obtain ⟨t0,t1,t2,t3⟩:=cells4 hb05;have tf:∀ i,W5.frozen? ⟨w.heap.size,i,none⟩=false:=fun i=>by simp [World.frozen?,hb05]
     have lt5:=zab hb05;have lb5:=zab hset;obtain ⟨Z,hZ,hz6,hzf⟩:=zpz hb05 (.int .i64 S.rev) (.int .i64 S.mark) (.slice oa (zah S S.T S.mark).length ocap) (.slice va S.events.length vcap);have HKV5:=H_ hkv5;have HEV5:=H_ hev5;have HQ5:=H_ hq5;have HZ:=H_ hZ;have HZ6:=H_ hz6;have HZF:=H_ hzf;clear hset hfs hb0r hb04 hb05 hev5 hkv5 hq5 hZ hz6 hzf v3 v3f l4;go_wp2;rw [HZ.out];have hsz:=HFW.out.size;refine bodyPost_ret (results_cell_row rfl _ _ w.heap.size 69 _ (0,0) _ rfl HZ6.out Try.underlying69 rfl (by kernel_rfl)) rfl ⟨.slice oa (zah S S.T S.mark).length ocap,.slice va S.events.length vcap,rfl,?_,?_,?_,fun b hb=>?_,fun b hb=>?_⟩
     · refine HKV5.out.fr HZF.out fun b hb e=>?_
       have e':b=w.heap.size:=e;have h1:=HOn.out b hb;omega
     · refine (by simpa using HEV5.out:SlF W5 73 13 evC (.slice va S.events.length vcap) S.events).fr HZF.out fun b hb e=>?_
       have e':b=w.heap.size:=e;rcases HBN.out b hb with h1 | h1
       · simp [Value.ownBlock] at h1
       have h2:wr.heap.size<=b:=h1
       omega
     · exact HQ5.out.trans HZF.out fun b hb e=>by
        have e':b=w.heap.size:=e;omega
     · have h1:=HOn.out b hb
       omega
     rcases HBN.out b hb with h1 | h1
     · simp [Value.ownBlock] at h1
     have h2:wr.heap.size<=b:=h1
     omega
  | succ g =>
    have hil:(i:Int) < (S.T.length:Int):=(by omega);obtain ⟨gb,go,rfl⟩:=HP3.out (by omega);obtain ⟨q,hq⟩:∃ q,S.T[i]? = some q:=⟨_,List.getElem?_eq_getElem (by omega)⟩;have hslr:=HPV.out.fr HFR.out (fun b hb e=>by have e':b=sb:=e;have:=HPN.out b hb;omega);have x0:=hslr.cell0 zaf i hq rfl;have x1:=hslr.cell zaf i 1 hq rfl;obtain ⟨H,hH⟩:=HOk.out q (List.mem_of_getElem? hq);have hone:oneL S S.mark q=if (hadH H S.mark).2 then some (hadH H S.mark).1 else none:=(by unfold oneL;rw [hH])
    have hstep:zah S (S.T.take (i+1)) S.mark=zah S (S.T.take i) S.mark++(oneL S S.mark q).toList:=by
     unfold zah;rw [List.take_add_one,hq,List.filterMap_append];cases h:oneL S S.mark q <;> simp [h]
    have HST:=H_ hstep;have HON:=H_ hone;have HPH:=H_ hH;have HQ:=H_ hq;clear hstep hone hH hq hslr;rcases hr:hadH H S.mark with ⟨⟨r1,r2,r3,r4',r5',r6⟩,rb⟩
    rw [hr] at HON;have HR:=H_ hr;clear hr;have hob:(zah S (S.T.take i) S.mark).length<=S.T.length:=Nat.le_trans (List.length_filterMap_le _ _) (by simp;omega);go_upto_region 7 with fail;have hk7:=zac wr (Obj.cells #[.string q.1,.int .i64 q.2] 127) _ rfl;have hfa:Fr No wr (wr.alloc (Obj.cells #[.string q.1,.int .i64 q.2] 127)):=(Fr.refl No wr).alloc _;generalize wr.alloc (Obj.cells #[.string q.1,.int .i64 q.2] 127)=W2 at *;have k1:=cellAt hk7 1 rfl;have k4:=hfa.cell0 r4;have lk:=zab hk7;have lsk:s < W2.heap.size:=Nat.lt_of_lt_of_le lsr hfa.size;have HFA:=H_ hfa;clear hfa hk7;have hfZ:Fr No W2 (W2.alloc (Obj.cells #[.string ⟨#[]⟩,.string ⟨#[]⟩,.int .i64 0,.int .i64 0,.int .i64 0,.int .i64 0] 57)):=(Fr.refl No W2).alloc _
    have hzA:(W2.alloc (Obj.cells #[.string ⟨#[]⟩,.string ⟨#[]⟩,.int .i64 0,.int .i64 0,.int .i64 0,.int .i64 0] 57)).heap[W2.heap.size]? = some (.cells #[.string ⟨#[]⟩,.string ⟨#[]⟩,.int .i64 0,.int .i64 0,.int .i64 0,.int .i64 0] 57 (0,0)):=zac _ _ _ rfl;have kZ4:=hfZ.cell0 k4;have kZ1:=hfZ.cell0 k1;have b1:W2.cell? ⟨s,4,none⟩=some (.int .i64 S.mark)/\W2.cell? ⟨wr.heap.size,1,none⟩=some (.int .i64 q.2):=⟨k4,k1⟩;have b2:W2.drew.cell? ⟨s,4,none⟩=some (.int .i64 S.mark)/\W2.drew.cell? ⟨wr.heap.size,1,none⟩=some (.int .i64 q.2):=⟨k4,k1⟩;have b3:=And.intro kZ4 kZ1
    have b4:(W2.alloc (Obj.cells #[.string ⟨#[]⟩,.string ⟨#[]⟩,.int .i64 0,.int .i64 0,.int .i64 0,.int .i64 0] 57)).drew.cell? ⟨s,4,none⟩=some (.int .i64 S.mark)/\(W2.alloc (Obj.cells #[.string ⟨#[]⟩,.string ⟨#[]⟩,.int .i64 0,.int .i64 0,.int .i64 0,.int .i64 0] 57)).drew.cell? ⟨wr.heap.size,1,none⟩=some (.int .i64 q.2):=⟨kZ4,kZ1⟩;have h1:=hSA.out.fr0 hT (HFW.out.trans0 HFA.out);have h2:=h1.fr0 hT (Fr.refl No W2).drew;have h3:=h1.fr0 hT hfZ;have h4:=h3.fr0 hT (Fr.refl No _).drew;have C1:=H_ (HH.out _ h1 q.2 H HPH.out);have C2:=H_ (HH.out _ h2 q.2 H HPH.out);have C3:=H_ (HH.out _ h3 q.2 H HPH.out);have C4:=H_ (HH.out _ h4 q.2 H HPH.out);have HZA:=H_ hzA;have HFZ:=H_ hfZ;clear h1 h2 h3 h4 hzA hfZ
    go_cut [6,7] (fun s6 s7 wx=>∃ b:Nat,s6 = .pointer (some ⟨b,0,none⟩)/\s7 = .bool rb/\Hid (wx.heap[b]? = some (.cells #[.string r1,.string r2,.int .i64 r3,.int .i64 r4',.int .i64 r5',.int .i64 r6] 57 (0,0)))/\Hid (Fr No W2 wx))
    case first =>
     go_region_held3 (fun W=>W.cell? ⟨s,4,none⟩=some (.int .i64 S.mark)/\W.cell? ⟨wr.heap.size,1,none⟩=some (.int .i64 q.2))
      (first | with_reducible exact b1 | with_reducible exact b2 | with_reducible exact b3 | with_reducible exact b4 | with_reducible exact kw | with_reducible exact kv | with_reducible exact ku | with_reducible exact kt | with_reducible exact kwd | with_reducible exact kvd | with_reducible exact kud | with_reducible exact ktd)
      (first
        | (go_at_call 71;first | refine C1.out.mono ?_ | refine C2.out.mono ?_
           rintro e w3 ⟨rfl,hf3⟩;rw [HR.out];unfold zby kvV;have kw:w3.cell? ⟨s,4,none⟩=some (.int .i64 S.mark)/\w3.cell? ⟨wr.heap.size,1,none⟩=some (.int .i64 q.2):=⟨hf3.cell0 k4,hf3.cell0 k1⟩;have hfv:Fr No w3 (w3.alloc (Obj.cells #[.string ⟨#[]⟩,.string ⟨#[]⟩,.int .i64 0,.int .i64 0,.int .i64 0,.int .i64 0] 57)):=(Fr.refl No w3).alloc _;have kv:=And.intro (hfv.cell0 kw.1) (hfv.cell0 kw.2);have hqd:Fr No w3 w3.drew:=(Fr.refl No w3).drew;have kwd:=And.intro (hqd.cell0 kw.1) (hqd.cell0 kw.2);have kvd:=And.intro (hfv.drew.cell0 kw.1) (hfv.drew.cell0 kw.2);have hfu:Fr No w3 (w3.alloc (Obj.cells #[.string r1,.string r2,.int .i64 r3,.int .i64 r4',.int .i64 r5',.int .i64 r6] 57)):=(Fr.refl No w3).alloc _;have ku:=And.intro (hfu.cell0 kw.1) (hfu.cell0 kw.2);have kud:=And.intro (hfu.drew.cell0 kw.1) (hfu.drew.cell0 kw.2)
           have HQ3:Hid (Fr No W2 w3):=by first | exact H_ hf3 | exact H_ ((Fr.refl No W2).drew.trans0 hf3))
        | (go_at_call 71;first | refine C3.out.mono ?_ | refine C4.out.mono ?_
           rintro e w3 ⟨rfl,hf3⟩;rw [HR.out];unfold zby kvV;have kw:w3.cell? ⟨s,4,none⟩=some (.int .i64 S.mark)/\w3.cell? ⟨wr.heap.size,1,none⟩=some (.int .i64 q.2):=⟨hf3.cell0 kZ4,hf3.cell0 kZ1⟩;have hz3:w3.heap[W2.heap.size]? = some (.cells #[.string ⟨#[]⟩,.string ⟨#[]⟩,.int .i64 0,.int .i64 0,.int .i64 0,.int .i64 0] 57 (0,0)):=hf3.heap HZA.out (fun h=>h);obtain ⟨z0,z1,z2,z3,z4,z5⟩:=cells6 hz3;have zf:∀ i,w3.frozen? ⟨W2.heap.size,i,none⟩=false:=fun i=>by unfold World.frozen?;dsimp only;rw [hz3];simp
           have lz3:=zab hz3;have hfs:Fr (fun b=>b=W2.heap.size) w3 ((((((w3.setCell ⟨W2.heap.size,0,none⟩ (.string r1)).setCell ⟨W2.heap.size,1,none⟩ (.string r2)).setCell ⟨W2.heap.size,2,none⟩ (.int .i64 r3)).setCell ⟨W2.heap.size,3,none⟩ (.int .i64 r4')).setCell ⟨W2.heap.size,4,none⟩ (.int .i64 r5')).setCell ⟨W2.heap.size,5,none⟩ (.int .i64 r6)):=((((((Fr.refl _ w3).setAt 0 _).setAt 1 _).setAt 2 _).setAt 3 _).setAt 4 _).setAt 5 _;have kt:=And.intro (hfs.cell kw.1 (fun e=>by have e':s=W2.heap.size:=e;omega)) (hfs.cell kw.2 (fun e=>by have e':wr.heap.size=W2.heap.size:=e;omega));have hqd:Fr No w3 w3.drew:=(Fr.refl No w3).drew;have kwd:=And.intro (hqd.cell0 kw.1) (hqd.cell0 kw.2)
           have ktd:=And.intro (hfs.drew.cell kw.1 (fun e=>by have e':s=W2.heap.size:=e;omega)) (hfs.drew.cell kw.2 (fun e=>by have e':wr.heap.size=W2.heap.size:=e;omega));have HQ3:Hid (Fr No W2 w3):=(by first | exact H_ (HFZ.out.trans0 hf3) | exact H_ (HFZ.out.drew.trans0 hf3));have HZ3:=H_ hz3;clear hz3))
     · go_wp2
       go_meet
       case rel=>exact ⟨_,rfl,rfl,H_ (zac _ _ _ rfl),H_ (HQ3.out.alloc _)⟩
     obtain ⟨Z,hZ,hz6,hzf⟩:=zhp (w:=W2) HZ3.out ⟨r1,r2,r3,r4',r5',r6⟩
     dsimp only at hZ hz6;rw [hZ];go_wp2;go_meet
     case rel=>exact ⟨_,rfl,rfl,H_ hz6,H_ (hzf HQ3.out (Nat.le_refl _))⟩
    case rest =>
     obtain ⟨b,rfl,rfl,HBK,HX⟩:=hcut;have hfc:Fr No wr wc:=HFA.out.trans0 HX.out;have HFC:=H_ hfc;have hbc:=hfc.heap HBR.out id;have lbk:=zab HBK.out;have lsc:=zab hbc;have e2:=cellAt hbc 2 rfl;have efz:∀ j,wc.frozen? ⟨sb,j,none⟩=false:=fun j=>by unfold World.frozen?;dsimp only;rw [hbc];simp
     obtain ⟨y0,y1,y2,y3,y4,y5⟩:=cells6 HBK.out;have HBC:=H_ hbc;have HSO:=H_ (HO.out.fr0 hfc);clear hfc hbc x0 x1 k4 k1 kZ4 kZ1 b1 b4 lk lsk r0 r4 r5 b2 b3 bfz;cases rb
     · have HE:Hid (zah S (S.T.take (i+1)) S.mark=zah S (S.T.take i) S.mark):=H_ (by rw [HST.out,HON.out];simp)
       go_wp2;go_roundg g
       case rel=>exact ⟨i+1,_,by go_num,by omega,HBC,H_ (by rw [HE.out];exact HSO.out),H_ (HFR.out.trans0 HFC.out),HOn⟩
       case measure=>omega
     have HE:Hid (zah S (S.T.take (i+1)) S.mark=zah S (S.T.take i) S.mark++[⟨r1,r2,r3,r4',r5',r6⟩]):=H_ (by rw [HST.out,HON.out];simp)
     have hnew:=zas wc (kvC ⟨r1,r2,r3,r4',r5',r6⟩) 57 (0,0);have hob2:(Value.slice oa (zah S (S.T.take i) S.mark).length ocap).ownBlock≠some sb:=fun h=>by have:=HOn.out sb h;omega
     have HOB:=H_ hob2;clear hob2;go_wp2_with (at_builtin;refine zap rfl _ _ 53 rfl 57 i0 _ 6 64 Try.underlying53 hi0 hz0 hz1 hz2 rfl (by decide) _ (zah S (S.T.take i) S.mark) rfl (HSO.out.alloc _) wc.heap.size 1 (⟨r1,r2,r3,r4',r5',r6⟩:Kv) rfl hnew rfl ?c1 ?c2 ?c3 ?_)
     case c1=>intro u hu;simp [kvC] at hu;rcases hu with rfl | rfl | rfl | rfl | rfl | rfl <;> rfl
     case c2=>unfold maxLen;omega
     case c3=>omega
     intro g1 o' cap w4 hs4 hg4 hb4 hlt4;have hf4:Fr (fun k=>(Value.slice oa (zah S (S.T.take i) S.mark).length ocap).ownBlock=some k) wc w4:=((Fr.refl _ wc).alloc _).grown hg4 fun k hk=>.inl hk;have hb4':=hf4.heap HBC.out HOB.out;have v2:=cellAt hb4' 2 rfl;have v2f:∀ j,w4.frozen? ⟨sb,j,none⟩=false:=fun j=>by unfold World.frozen?;dsimp only;rw [hb4'];simp
     have l4:=zab hb4'
     have hg1:w7.heap.size<=g1:=by
      rcases hb4 with e | e
      · exact HOn.out _ e
      have h1:=HFR.out.size
      have h2:=HFC.out.size
      try simp at e
      omega
     have HS4:=H_ hs4;have HF4:=H_ hf4;have HB4:=H_ hb4';clear hs4 hg4 hb4 hnew hf4 hb4';go_wp2;go_roundg g
     case rel =>
      have hset:=zaa HB4.out 2 (.slice (some ⟨g1,o',none⟩) ((zah S (S.T.take i) S.mark).length+1) cap);have hfs:Fr (fun b=>b=sb) w4 (w4.setCell ⟨sb,2,none⟩ (.slice (some ⟨g1,o',none⟩) ((zah S (S.T.take i) S.mark).length+1) cap)):=(Fr.refl _ w4).setAt 2 _
      have hsl4:=HS4.out.fr hfs fun b hb e=>by
       have e':b=sb:=e;obtain rfl:g1=b:=by simpa [Value.ownBlock] using hb
       omega
      refine ⟨i+1,.slice (some ⟨g1,o',none⟩) ((zah S (S.T.take i) S.mark).length+1) cap,by go_num,by omega,H_ (by rw [hset];simp),H_ (by rw [HE.out];simpa using hsl4),H_ (((HFR.out.trans0 HFC.out).trans HF4.out fun b hb h=>?_).trans hfs fun b hb e=>e),H_ fun b hb=>?_⟩
      · have:=HOn.out b h;omega
      obtain rfl:g1=b:=by simpa [Value.ownBlock] using hb
      exact hg1
     case measure=>omega
theorem SlF.apart {α β:Type} {f:α->List Value} {g:β->List Value} {w:World} {e1 e2 s1 s2:Nat} {v1 v2:Value} {L1:List α} {L2:List β} (h1:SlF w e1 s1 f v1 L1) (h2:SlF w e2 s2 g v2 L2) (hne:e1≠e2):∀ b,v1.ownBlock=some b->v2.ownBlock≠some b:=by
 intro b hb1 hb2;unfold SlF Sl at h1 h2;obtain ⟨_,h1 | ⟨g1,o1,c1,u1,h1,k1,_⟩⟩:=h1
 · rw [h1.1] at hb1
   simp [Value.ownBlock] at hb1
 obtain ⟨_,h2 | ⟨g2,o2,c2,u2,h2,k2,_⟩⟩:=h2
 · rw [h2.1] at hb2
   simp [Value.ownBlock] at hb2
 subst h1 h2
 simp only [Value.ownBlock,Option.some.injEq] at hb1 hb2;rw [hb1] at k1;rw [hb2] at k2;rw [k1] at k2
 injection k2 with k2
 injection k2 with _ k2 _
 exact hne k2
theorem zin (P:Program) (w:World) (a:Addr) (fn:Fn) (first cap:Array Value) {u:Value} (hc:w.cell? a=some u) (hf:w.frozen? a=false):(store a (.func fn first cap)).run P w = .ok () (w.setCell a (.func fn first cap)):=by
 rw [run_store P w a _ _ rfl,hc];simp [hf]
theorem zbr {P:Program} {w:World} {ops:Array Oper} {rest:List Oper} {o:Oper} {a:Act} {Q:Exit->Act->World->Prop} (hgd:o.guard=none) (t:TypeId) (x y:Operand) (hop:o.op=Op.store t x y) (g i:Nat) (u:Value) (fn:Fn) (first cap:Array Value) (hx:a.eval x = .pointer (some ⟨g,i,none⟩)) (hy:a.eval y = .func fn first cap)
 (hz:(Go.sizeOf t).run P w = .ok 1 w) (hc:w.cell? ⟨g,i,none⟩=some u) (hf:w.frozen? ⟨g,i,none⟩=false) (hK:wpList P ops Q rest (a.put o.dst undef) (w.setCell ⟨g,i,none⟩ (.func fn first cap))):wpList P ops Q (o :: rest) a w:=by
 refine wpList_plain hgd fun K' hK'=>?_;have h1:=zin P w ⟨g,i,none⟩ fn first cap hc hf
 have hrun:(Instr.storeAt t (.pointer (some ⟨g,i,none⟩)) (.func fn first cap)).run P w = .ok () (w.setCell ⟨g,i,none⟩ (.func fn first cap)):=by
  simp [Instr.storeAt,Instr.sureAddr,storeVar,hz,Value.cells,storeCells,Addr.add,Result.andThen,h1]
 unfold Oper.wp;simp [execOp,hop,hx,hy,hrun,Result.andThen];exact hK' _ _ hK
theorem zth (n:Int) (l:List UInt8):numB n++l≠[]:=fun h=>by
 have h1:=congrArg List.length h;rw [List.length_append,zay] at h1;simp at h1
theorem stB_ne (rev mark:Int) (kvs:List Kv) (evs:List Ev):stB rev mark kvs evs≠[]:=by
 unfold stB;simp only [List.append_assoc];exact zth _ _
set_option maxHeartbeats 4000000 in
theorem zew (w:World) (rev mark:Int) (vk ve:Value) (kvs:List Kv) (evs:List Ev) (hk:SlF w 57 6 kvC vk kvs) (he:SlF w 73 13 evC ve evs) (hdis:∀ b,vk.ownBlock=some b->ve.ownBlock≠some b) (hsz:(stB rev mark kvs evs).length<=140737488355328) (hl1:kvs.length<=100000000) (hl2:evs.length<=100000000) :
 Calls Try.prog 64 #[stateV rev mark vk ve] w fun e w'=>e = .returned (.string ⟨(stB rev mark kvs evs).toArray⟩)/\Fr (fun b=>vk.ownBlock=some b\/ve.ownBlock=some b) w w':=by
 obtain ⟨ka,kcap,rfl,_,_,_⟩:=hk.shape;obtain ⟨ea,ecap,rfl,_,_,_⟩:=he.shape;have hmf:∀ (fn:Fn) (first cap:Array Value) (w:World),(Instr.makeFunc fn first cap).run Try.prog w = .ok (.func fn first cap) w:=fun _ _ _ _=>rfl;have hkl:=hk.lt;have hel:=he.lt;have hX:=zae (zac w (Obj.cells #[.int .i64 rev,.int .i64 mark,.slice ka kvs.length kcap,.slice ea evs.length ecap] 69) _ rfl) (Obj.cells #[.pointer none,.slice none 0 0] 167);have hB:=zac (w.alloc (Obj.cells #[.int .i64 rev,.int .i64 mark,.slice ka kvs.length kcap,.slice ea evs.length ecap] 69)) (Obj.cells #[.pointer none,.slice none 0 0] 167) (w.heap.size+1) (by simp);have hf1:Fr No w ((w.alloc (Obj.cells #[.int .i64 rev,.int .i64 mark,.slice ka kvs.length kcap,.slice ea evs.length ecap] 69)).alloc (Obj.cells #[.pointer none,.slice none 0 0] 167)):=((Fr.refl No w).alloc _).alloc _
 have hs1:((w.alloc (Obj.cells #[.int .i64 rev,.int .i64 mark,.slice ka kvs.length kcap,.slice ea evs.length ecap] 69)).alloc (Obj.cells #[.pointer none,.slice none 0 0] 167)).heap.size=w.heap.size+2:=by simp
 have HK:=H_ hk;have HE:=H_ he;have HDIS:=H_ hdis;have HKL:=H_ hkl;have HEL:=H_ hel;have HX:=H_ hX;have HB:=H_ hB;have HF1:=H_ hf1;have HS1:=H_ hs1;clear hk he hdis hkl hel hX hB hf1 hs1;unfold stateV;go_enter Try.func64,Try.ntmps64;go_upto_region 2 with fail;generalize (w.alloc (Obj.cells #[.int .i64 rev,.int .i64 mark,.slice ka kvs.length kcap,.slice ea evs.length ecap] 69)).alloc (Obj.cells #[.pointer none,.slice none 0 0] 167)=W1 at *;obtain ⟨nb,hnbe⟩:∃ nb,nb=W1.heap.size:=⟨_,rfl⟩;have HNBE:=H_ hnbe;have hnb:nb=w.heap.size+2:=by rw [hnbe,HS1.out]
 have HNB2:=H_ hnb;clear hnb
 go_cut [4] (fun s4 wx=>s4 = .pointer (some ⟨nb,0,none⟩)/\Hid (wx.heap[nb]? = some (.cells #[.func (.func 102) #[] #[.pointer (some ⟨w.heap.size+1,0,none⟩)]] 103 (0,0)))/\Hid (Fr No W1 wx))
 case first =>
  have hN:=zac W1 (Obj.cells #[.nilFunc] 103) _ rfl;have hcN:(W1.alloc (Obj.cells #[.nilFunc] 103)).cell? ⟨W1.heap.size,0,none⟩=some .nilFunc:=cellAt hN 0 rfl;have hfN:(W1.alloc (Obj.cells #[.nilFunc] 103)).frozen? ⟨W1.heap.size,0,none⟩=false:=(by unfold World.frozen?;rw [hN];rfl);have HN:=H_ hN;clear hN hnbe;go_wp2_with (with_reducible show wpList _ _ _ ({ dst:=none,op:=Op.store 103 _ _,type:=_,pos:=_,after:=_,guard:=_ } :: _) _ _;refine zbr rfl 103 _ _ rfl W1.heap.size 0 .nilFunc (.func 102) #[] #[.pointer (some ⟨w.heap.size+1,0,none⟩)] rfl rfl (Try.sizeOf103 _) hcN hfN ?_);go_meet
  case rel=>exact ⟨by rw [HNBE.out],H_ (by rw [HNBE.out];first | (rw [zaa HN.out];rfl) | exact zac _ _ _ rfl),H_ (by first | exact ((Fr.refl No W1).alloc _).setCell (p:=⟨W1.heap.size,0,none⟩) (.inr (Nat.le_refl _)) _ | exact (Fr.refl No W1).alloc _)⟩
 case rest =>
 obtain ⟨rfl,HN2,HF2⟩:=hcut;generalize hwc:wc=W2 at *;clear hwc hnbe;have hN2:=HN2.out;have hf2:=HF2.out;have n0:W2.cell? ⟨nb,0,none⟩=some (.func (.func 102) #[] #[.pointer (some ⟨w.heap.size+1,0,none⟩)]):=cellAt hN2 0 rfl;have ln:=zab hN2;go_upto_region 4 with fail;obtain ⟨c,hce⟩:∃ c,c=W2.heap.size:=⟨_,rfl⟩;have HCE:=H_ hce;have hlc:nb < c:=by rw [hce];exact ln
 have hC:=zac W2 (Obj.cells #[.func (.func 102) #[] #[.pointer (some ⟨w.heap.size+1,0,none⟩)],.nilFunc,.bool false] 106) _ rfl;have hcC:(W2.alloc (Obj.cells #[.func (.func 102) #[] #[.pointer (some ⟨w.heap.size+1,0,none⟩)],.nilFunc,.bool false] 106)).cell? ⟨W2.heap.size,1,none⟩=some .nilFunc:=cellAt hC 1 rfl;have hfC:(W2.alloc (Obj.cells #[.func (.func 102) #[] #[.pointer (some ⟨w.heap.size+1,0,none⟩)],.nilFunc,.bool false] 106)).frozen? ⟨W2.heap.size,1,none⟩=false:=by unfold World.frozen?;rw [hC];rfl
 have HC:=H_ hC;clear hC
 go_cut [5] (fun s5 wx=>s5 = .pointer (some ⟨c,0,none⟩)/\Hid (wx.heap[c]? = some (.cells #[.func (.func 102) #[] #[.pointer (some ⟨w.heap.size+1,0,none⟩)],.func (.func 104) #[] #[.pointer (some ⟨nb,0,none⟩),.pointer (some ⟨w.heap.size+1,0,none⟩)],.bool false] 106 (0,0)))/\Hid (Fr No W2 wx))
 case first =>
  clear hce hlc;go_wp2_with (with_reducible show wpList _ _ _ ({ dst:=none,op:=Op.store 104 _ _,type:=_,pos:=_,after:=_,guard:=_ } :: _) _ _;refine zbr rfl 104 _ _ rfl W2.heap.size 1 .nilFunc (.func 104) #[] #[.pointer (some ⟨nb,0,none⟩),.pointer (some ⟨w.heap.size+1,0,none⟩)] rfl rfl (Try.sizeOf104 _) hcC hfC ?_);go_meet
  case rel=>exact ⟨by rw [HCE.out],H_ (by rw [HCE.out];first | (rw [zaa HC.out];rfl) | exact zac _ _ _ rfl),H_ (by first | exact ((Fr.refl No W2).alloc _).setCell (p:=⟨W2.heap.size,1,none⟩) (.inr (Nat.le_refl _)) _ | exact (Fr.refl No W2).alloc _)⟩
 case rest =>
 obtain ⟨rfl,HC2,HF3⟩:=hcut;generalize hwc:wc=W3 at *;clear hwc hce hcC hfC;have hC2:=HC2.out;have hf3:=HF3.out;clear ln;have ln:nb < c:=hlc;have hnb:=HNB2.out;have hfw:Fr No w W3:=HF1.out.trans0 (hf2.trans0 hf3)
 have hAt:(wrC c nb (w.heap.size+1)).At W3 [] (fun x=>x=c\/x=nb\/x=w.heap.size+1):=by
  refine ⟨.slice none 0 0,⟨.pointer none,.inl rfl,(hf2.trans0 hf3).heap HB.out id,World.ownsRowF_nil _ _ _ _,by simp [Value.ownBlock]⟩,⟨106,hC2⟩,⟨103,hf3.heap hN2 id⟩,by omega,by omega,by omega,by simp [Value.ownBlock],by simp [Value.ownBlock],fun x=>by simp [Value.ownBlock]⟩
 have hSC:Calls Try.prog 62 #[.pointer (some ⟨c,0,none⟩),.pointer (some ⟨w.heap.size,0,none⟩)] W3 (fun en w'=>en = .returned (.tuple #[])/\StP (wrC c nb (w.heap.size+1)) W3 (fun x=>x=c\/x=nb\/x=w.heap.size+1) w.heap.size 69 (.slice ka kvs.length kcap) (.slice ea evs.length ecap) (stB rev mark kvs evs) rev mark kvs evs w'):=zek (wrC_ok c nb (w.heap.size+1)) W3 [] (fun x=>x=c\/x=nb\/x=w.heap.size+1) w.heap.size 69 rev mark (.slice ka kvs.length kcap) (.slice ea evs.length ecap) kvs evs kvs.length evs.length (stB rev mark kvs evs) rev mark kvs evs
  hAt ((hf2.trans0 hf3).heap HX.out id) (by omega) (HK.out.fr0 hfw) (HE.out.fr0 hfw) (fun b hb=>by have:=HKL.out b hb;exact ⟨by omega,by omega⟩) (fun b hb=>by have:=HEL.out b hb;exact ⟨by omega,by omega⟩) HDIS.out (by rw [zta];exact StW.wr rev mark kvs evs) hsz (by omega) (by omega)
 have HSC:=H_ hSC;have HFW:=H_ hfw;clear hSC hAt hC2 hN2 hf2 hf3 hfw n0 hnb;go_upto_region 6 with (go_at_call 62;(with_reducible refine HSC.out.mono ?_);rintro en w5 ⟨rfl,hst5⟩);obtain ⟨F5,vk5,ve5,a5,g5,k5,e5,f5,n5,_⟩:=hst5;obtain ⟨v5,b5,_,_,_,_,_,_,_,hF5⟩:=a5;have hS:=zif w5 (w.heap.size+1) _ v5 b5 (stB_ne rev mark kvs evs);have hw3:=HFW.out.size;have hnb:=HNB2.out
 have hv5:∀ x,v5.ownBlock=some x->w.heap.size<=x:=fun x hx=>by
  rcases n5 x ((hF5 x).2 (.inr (.inr (.inr hx)))) with (h | h | h) | h <;> omega
 have HS:=H_ hS;have HF5:=H_ f5;clear hS f5 b5 k5 e5 g5 n5;go_wp2_with (go_at_call 106;refine HS.out.mono ?_;rintro en w6 ⟨rfl,hf6⟩);go_ret;refine ⟨rfl,((HFW.out.mono fun _ _ h=>h.elim).trans HF5.out fun j hj h=>?_).trans hf6 fun j hj h=>?_⟩
 · rcases h with (h | h | h) | h | h | h
   · omega
   · omega
   · omega
   · omega
   · exact .inl h
   exact .inr h
 have:=hv5 j h
 omega
end Go.Proofs.Ythljnnjpmdgkoaa