/- The statement StoreBack's function returns true, whatever its arguments are. -/
import Derived.Test.YthljnnjpmdgkoaaGreatB29
import Derived.Test.YthljnnjpmdgkoaaGreatB32
import Derived.Test.YthljnnjpmdgkoaaGreatB33
import Derived.Test.YthljnnjpmdgkoaaGreatB34
import Derived.Deep.RegionHeld3
import Derived.Deep.DeepCutAuto
namespace Go.Proofs.YthljnnjpmdgkoaaGreat
open Go Go.Proofs Go.RowKit
set_option maxRecDepth 100000
theorem SlR.frB {α:Type} {f:α->List Value} {w w':World} {sz:Nat} {v:Value} {L:List α} (h:SlR w sz f v L) (_:∀ x,(f x).length=sz) (_:0 < sz) (hW:Fr (fun b=>w.heap.size<=b) w w'):SlR w' sz f v L:=by
 obtain ⟨a,cap,rfl,h1,h2,h3⟩:=h;refine ⟨a,cap,rfl,h1,h2,fun hp=>?_⟩;obtain ⟨g,o,rfl,h4⟩:=h3 hp;refine ⟨g,o,rfl,fun i x hx j u hu=>?_⟩;have h5:=h4 i x hx j u hu;have h6:g < w.heap.size:=World.block_lt_of_cell? _ _ h5;exact hW.cell h5 (by show ¬ w.heap.size<=g;omega)
theorem zez {TA:zar} (hT:TreeOk TA 1000000) {k:Nat} {S:St} {D:Doc} (h:Good k S D) (hk:k<=70) (w:World) (s:Nat) (F:Nat->Prop) (hS:zak TA w s S F) :
 Calls Tryz.prog 23 #[.pointer (some ⟨s,0,none⟩)] w fun e w'=>∃ a1 c1 a2 c2,e = .returned (stateV D.rev D.mark (.slice a1 D.kvs.length c1) (.slice a2 D.events.length c2))/\SlF w' 99 6 kvC (.slice a1 D.kvs.length c1) D.kvs/\SlF w' 101 13 evC (.slice a2 D.events.length c2) D.events/\Fr No w w'/\(∀ b,(Value.slice a1 D.kvs.length c1).ownBlock=some b->w.heap.size<=b)/\(∀ b,(Value.slice a2 D.events.length c2).ownBlock=some b->w.heap.size<=b):=by
 refine (zoq hT (n:=20000 * k) (by omega) w s S F hS h.ok (by have:=h.size;omega)).mono ?_;rintro e w' ⟨kv,ev,rfl,h1,h2,h3,h4,h5⟩;rw [zem h] at h1;rw [h.cpl.events] at h2;obtain ⟨a1,c1,rfl,_,_,_⟩:=h1.shape;obtain ⟨a2,c2,rfl,_,_,_⟩:=h2.shape;exact ⟨a1,c1,a2,c2,by rw [h.rev,h.cpl.mark],h1,h2,h3,h4,h5⟩
set_option maxHeartbeats 16000000 in
theorem ziz {TA:zar} (hT:TreeOk TA 1000000) (hTD:TreeDl TA) (w:World) (v v2:Value) (l m:List CalQ) (hv:CalR w v l) (hv2:CalR w v2 m) :
 Calls Tryz.prog 5 #[v,v2] w fun e w'=>e = .returned (.bool true)/\Fr No w w':=by
 have hfc:=zge w v l hv;have hfm:=zge w v2 m hv2
 cases hfl:zbi l with
 | false =>
   rw [hfl] at hfc;obtain ⟨va,vcap,hve,_,_,_⟩:=hv.sl.shape;clear hv hv2 hfm;subst hve;have CA:=H_ hfc;clear hfc;go_enter Tryz.func5,Tryz.ntmps5
   go_wp2_with (first
    | (go_at_call 15;with_reducible refine CA.out.mono ?_;rintro e w1 ⟨rfl,rfl⟩)
    | (go_at_call 16;refine (zex hT hTD _).mono ?_;rintro e w2 ⟨rfl,hf2⟩))
   go_ret;exact ⟨rfl,hf2⟩
 | true =>
   rw [hfl] at hfc
   cases hfl2:zbi m with
   | false =>
     rw [hfl2] at hfm;obtain ⟨va,vcap,hve,_,_,_⟩:=hv.sl.shape;obtain ⟨vb,vbcap,hvb,_,_,_⟩:=hv2.sl.shape;clear hv hv2;subst hve hvb;have CA:=H_ hfc;have CB:=H_ hfm;clear hfc hfm;go_enter Tryz.func5,Tryz.ntmps5
     go_wp2_with (first
      | (go_at_call 15;(with_reducible refine CA.out.mono ?_);rintro e w1 ⟨rfl,rfl⟩)
      | (go_at_call 15;(with_reducible refine CB.out.mono ?_);rintro e w1 ⟨rfl,rfl⟩)
      | (go_at_call 16;refine (zex hT hTD _).mono ?_;rintro e w2 ⟨rfl,hf2⟩))
     go_ret;exact ⟨rfl,hf2⟩
   | true =>
     rw [hfl2] at hfm;have hl30:=(zaz hfl).1;have hm30:=(zaz hfl2).1;have hfq:=(zaz hfl2).2;have hdn:=zqx hT hTD w v l hv hfl;have hG:=zcc hfl l.length (Nat.le_refl _);have hN:=zti hfl;have hR:=zob hfl;obtain ⟨va,vcap,hve,_,_,_⟩:=hv.sl.shape;obtain ⟨vb,vbcap,hvb,hvb1,hvb2,hvz⟩:=hv2.sl.shape;clear hv;subst hve hvb;generalize donesT l l.length=SD at *;obtain ⟨S,D⟩:=SD;dsimp only at hG hdn hN hR;have hrv1:=hG.rev1;have hst:=fun W s F hS=>zez hT hG (by omega) W s F hS;have hmd:=fun W vk ve (h:DocR W D vk ve)=>zqk hT W D vk ve h hN (fun _=>by omega);have CA:=H_ hfc;have CB:=H_ hfm;have HDN:=H_ hdn;have HST:=H_ hst;have HMD:=H_ hmd;have HG:=H_ hG;have HR:=H_ hR;have HV2:=H_ hv2;have HVZ:=H_ hvz;have HFQ:=H_ hfq;have HFL2:=H_ hfl2;clear hfc hfm hdn hst hmd hG hR hN hv2 hvz hfq
     go_enter Tryz.func5,Tryz.ntmps5
     go_upto_region 4 with (first
      | (go_at_call 15;(with_reducible refine CA.out.mono ?_);rintro e w1 ⟨rfl,rfl⟩)
      | (go_at_call 15;(with_reducible refine CB.out.mono ?_);rintro e w1 ⟨rfl,rfl⟩)
      | (go_at_call 26;(with_reducible refine HDN.out.mono ?_);rintro e w2 ⟨s,rfl,F,hs2,hf2,hn2⟩))
     have HS2:=H_ hs2;have HF2:=H_ hf2;have HN2:=H_ hn2;clear hs2 hf2 hn2
     go_upto_region 5 with (first
      | (go_at_call 23;(with_reducible refine (HST.out _ _ _ HS2.out).mono ?_);rintro e w3 ⟨a1,c1,a2,c2,rfl,hk3,he3,hf3,_,_⟩;unfold stateV)
      | (go_at_call 24;refine (HMD.out w3 (.slice a1 D.kvs.length c1) (.slice a2 D.events.length c2) ⟨hk3.toR zai,he3.toR zab⟩).mono ?_
         intro e w4 hm4;obtain ⟨t,S2,F4,rfl,ht4,hmo,hn4,hf4⟩:=hm4.get HR.out))
     have hS4:zak TA w4 s S F:=(HS2.out.fr0 hT hf3).fr0 hT hf4;have hdis:∀ b,F b->w.heap.size<=b/\¬ F4 b:=fun b hb=>⟨HN2.out b hb,fun h=>by have:=hn4 b h;have:=HS2.out.lt hT b hb;have:=hf3.size;omega⟩;have hn4':∀ b,F4 b->w.heap.size<=b:=fun b hb=>by have:=hn4 b hb;have:=HF2.out.size;have:=hf3.size;omega
     have hG2:=hmo.good HG.out (by omega);have HG1:Hid (∀ i≤ m.length,Good (l.length+i) (dTs S m i) (dDs D m i)):=H_ (HG.out.goes (by omega) HFL2.out);have HG2:Hid (∀ i≤ m.length,Good (l.length+1+i) (dTs S2 m i) (dDs D m i)):=H_ (hG2.goes (by omega) HFL2.out);have HS4:=H_ hS4;have HT4:=H_ ht4;have HDIS:=H_ hdis;have HN4:=H_ hn4';have HF4:=H_ ((HF2.out.trans0 hf3).trans0 hf4);clear hS4 ht4 hdis hn4' hn4 hf4 hk3 he3 hf3 hmo hG2 HS2 HF2 HN2;go_wp2_with fail
     go_loopg [8] m.length (fun g s8 wr=>∃ (i:Nat) (F1 F3:Nat->Prop),s8 = .int .i64 i/\i+g=m.length/\Hid (zak TA wr s (dTs S m i) F1)/\Hid (zak TA wr t (dTs S2 m i) F3)/\Hid (∀ b,F1 b->w.heap.size<=b/\¬ F3 b)/\Hid (∀ b,F3 b->w.heap.size<=b)/\Hid (Fr No w wr))
     case atStart=>exact ⟨0,F,F4,rfl,by simp,HS4,HT4,HDIS,HN4,HF4⟩
     case round =>
      clear HS4 HT4 HDIS HN4 HF4;obtain ⟨i,F1,F3,rfl,hi,HS1,HS3,HD1,HN3,HF⟩:=hrel
      cases gk with
      | zero =>
        have hil:¬ (i:Int) < (m.length:Int):=(by omega);go_wp2_with (go_at_call 16;refine (zex hT hTD _).mono ?_;rintro e w9 ⟨rfl,hf9⟩);go_ret;exact ⟨rfl,HF.out.trans0 hf9⟩
      | succ g =>
        obtain ⟨ga,go,rfl⟩:=HVZ.out (by omega);obtain ⟨q,hx⟩:∃ q,m[i]? = some q:=⟨_,List.getElem?_eq_getElem (by omega)⟩;have hil:(i:Int) < (m.length:Int):=(by omega);have hq:=HFQ.out q (List.mem_of_getElem? hx);have hops:=HV2.out.ops i q hx;have hkeys:=HV2.out.keys i q hx;have hsl:=HV2.out.sl;have hgl:ga < w.heap.size:=World.block_lt_of_cell? _ _ (hsl.cell0 zam i hx rfl);obtain ⟨oa,ocap,hos,_,_,_⟩:=hops.shape;obtain ⟨ka,kcap,hks,_,_,_⟩:=hkeys.shape;have hts1:=zko S m hx;have hts2:=zko S2 m hx;have hg1:=HG1.out i (by omega);have hg2:=HG2.out i (by omega);have hd1:=(hg1.doDoc (by omega) hq).1;have hd2:=(hg2.doDoc (by omega) hq).1;have hga1:=HG1.out (i+1) (by omega);have hga2:=HG2.out (i+1) (by omega);generalize dDs D m (i+1)=D' at *;rw [hts1] at hga1;rw [hts2] at hga2
        obtain ⟨⟨p1,p2,⟨g1,g2,g3,g4,g5,g6,g7⟩,p3,p4,p5⟩,ops,keys⟩:=q;dsimp only at hos hks;subst hos hks
        have HQ:Hid (∀ W,Fr (fun b=>w.heap.size<=b) w W->W.cell? ⟨ga,go+i * 12,none⟩=some (.int .i64 p1)/\W.cell? ⟨ga,go+i * 12+1,none⟩=some (.slice oa ops.length ocap)/\W.cell? ⟨ga,go+i * 12+2,none⟩=some (.string g1)/\W.cell? ⟨ga,go+i * 12+3,none⟩=some (.string g2)/\W.cell? ⟨ga,go+i * 12+4,none⟩=some (.int .i64 g3)/\W.cell? ⟨ga,go+i * 12+5,none⟩=some (.int .i64 g4)/\W.cell? ⟨ga,go+i * 12+6,none⟩=some (.bool g5)/\W.cell? ⟨ga,go+i * 12+7,none⟩=some (.bool g6)/\W.cell? ⟨ga,go+i * 12+8,none⟩=some (.bool g7)/\W.cell? ⟨ga,go+i * 12+9,none⟩=some (.int .i64 p3)/\W.cell? ⟨ga,go+i * 12+10,none⟩=some (.int .i64 p4)/\W.cell? ⟨ga,go+i * 12+11,none⟩=some (.slice ka keys.length kcap)):=H_ (fun W hW=>by
         have h:=hsl.frB zam (by decide) hW;exact ⟨h.cell0 zam i hx rfl,h.cell zam i 1 hx rfl,h.cell zam i 2 hx rfl,h.cell zam i 3 hx rfl,h.cell zam i 4 hx rfl,h.cell zam i 5 hx rfl,h.cell zam i 6 hx rfl,h.cell zam i 7 hx rfl,h.cell zam i 8 hx rfl,h.cell zam i 9 hx rfl,h.cell zam i 10 hx rfl,h.cell zam i 11 hx rfl⟩)
        generalize hee:dE (dDs D m i) (⟨⟨p1,.slice oa ops.length ocap,⟨g1,g2,g3,g4,g5,g6,g7⟩,p3,p4,.slice ka keys.length kcap⟩,ops,keys⟩:CalQ)=ee at *
        have CD1:Hid (∀ W (F:Nat->Prop),Fr (fun b=>w.heap.size<=b) w W->zak TA W s (dTs S m i) F->(∀ b,F b->w.heap.size<=b)->Calls Tryz.prog 27 #[.pointer (some ⟨s,0,none⟩),.agg #[.int .i64 p1,.slice oa ops.length ocap,.string g1,.string g2,.int .i64 g3,.int .i64 g4,.bool g5,.bool g6,.bool g7,.int .i64 p3,.int .i64 p4,.slice ka keys.length kcap]] W fun e w'=>e = .returned (.int .i64 ee)/\∃ F',zak TA w' s (doT (dTs S m i) (⟨⟨p1,.slice oa ops.length ocap,⟨g1,g2,g3,g4,g5,g6,g7⟩,p3,p4,.slice ka keys.length kcap⟩,ops,keys⟩:CalQ)) F'/\Fr F W w'/\(∀ b,F' b->F b\/W.heap.size<=b)):=H_ (fun W F hW hs hF=>by
         have h:=zkv hT hTD hg1 (by omega) W s F hs (⟨⟨p1,.slice oa ops.length ocap,⟨g1,g2,g3,g4,g5,g6,g7⟩,p3,p4,.slice ka keys.length kcap⟩,ops,keys⟩:CalQ) hq (hops.frB zaf (by decide) hW) (hkeys.frB zbs (by decide) hW) (fun hp b hb hF2=>by have:=hops.lt zaf (by decide) hp b hb;have:=hF b hF2;omega) (fun hp b hb hF2=>by have:=hkeys.lt zbs (by decide) hp b hb;have:=hF b hF2;omega);rw [hd1] at h;exact h)
        have CD2:Hid (∀ W (F:Nat->Prop),Fr (fun b=>w.heap.size<=b) w W->zak TA W t (dTs S2 m i) F->(∀ b,F b->w.heap.size<=b)->Calls Tryz.prog 27 #[.pointer (some ⟨t,0,none⟩),.agg #[.int .i64 p1,.slice oa ops.length ocap,.string g1,.string g2,.int .i64 g3,.int .i64 g4,.bool g5,.bool g6,.bool g7,.int .i64 p3,.int .i64 p4,.slice ka keys.length kcap]] W fun e w'=>e = .returned (.int .i64 ee)/\∃ F',zak TA w' t (doT (dTs S2 m i) (⟨⟨p1,.slice oa ops.length ocap,⟨g1,g2,g3,g4,g5,g6,g7⟩,p3,p4,.slice ka keys.length kcap⟩,ops,keys⟩:CalQ)) F'/\Fr F W w'/\(∀ b,F' b->F b\/W.heap.size<=b)):=H_ (fun W F hW hs hF=>by
         have h:=zkv hT hTD hg2 (by omega) W t F hs (⟨⟨p1,.slice oa ops.length ocap,⟨g1,g2,g3,g4,g5,g6,g7⟩,p3,p4,.slice ka keys.length kcap⟩,ops,keys⟩:CalQ) hq (hops.frB zaf (by decide) hW) (hkeys.frB zbs (by decide) hW) (fun hp b hb hF2=>by have:=hops.lt zaf (by decide) hp b hb;have:=hF b hF2;omega) (fun hp b hb hF2=>by have:=hkeys.lt zbs (by decide) hp b hb;have:=hF b hF2;omega);rw [hd2] at h;exact h)
        have hsz1:D'.kvs.length<=1099511627:=by
         have h1:=hga1.size;rw [<-zem hga1];unfold zan;exact Nat.le_trans (List.length_filterMap_le _ _) (by omega)
        have hsz2:D'.events.length<=1099511627:=(by have:=hga1.ok.ev;rw [<-hga1.cpl.events];omega);have HSA:=H_ (fun W F hS=>zez hT hga1 (by omega) W s F hS);have HSB:=H_ (fun W F hS=>zez hT hga2 (by omega) W t F hS);have hcp:=fun W=>znf W D'.rev D'.mark;unfold stateV at hcp;have HCP:=H_ hcp;have HSM:=H_ (fun w u1 u2 v1 v2 h1 h2 h3 h4=>zqd w D'.rev D'.mark u1 u2 v1 v2 D'.kvs D'.events h1 h2 h3 h4 hsz1 hsz2);have HTS1:=H_ hts1;have HTS2:=H_ hts2;have hwr:Fr (fun b=>w.heap.size<=b) w wr:=HF.out.mono fun _ _ h=>h.elim;have q1:=HQ.out _ hwr;have q2:=HQ.out _ hwr.drew;have C1:=H_ (CD1.out wr.drew F1 hwr.drew (HS1.out.fr0 hT (Fr.refl No wr).drew) (fun b hb=>(HD1.out b hb).1));have HWR:=H_ hwr;have lgw:ga < wr.heap.size:=(by have:=HF.out.size;omega)
        clear hx hq hops hkeys hsl hts1 hts2 hg1 hg2 hd1 hd2 hga1 hga2 hcp hsz1 hsz2 hwr hee;go_wp2_with fail
        go_region_held3 (fun W=>W.cell? ⟨ga,go+i * 12,none⟩=some (.int .i64 p1)/\W.cell? ⟨ga,go+i * 12+1,none⟩=some (.slice oa ops.length ocap)/\W.cell? ⟨ga,go+i * 12+2,none⟩=some (.string g1)/\W.cell? ⟨ga,go+i * 12+3,none⟩=some (.string g2)/\W.cell? ⟨ga,go+i * 12+4,none⟩=some (.int .i64 g3)/\W.cell? ⟨ga,go+i * 12+5,none⟩=some (.int .i64 g4)/\W.cell? ⟨ga,go+i * 12+6,none⟩=some (.bool g5)/\W.cell? ⟨ga,go+i * 12+7,none⟩=some (.bool g6)/\W.cell? ⟨ga,go+i * 12+8,none⟩=some (.bool g7)/\W.cell? ⟨ga,go+i * 12+9,none⟩=some (.int .i64 p3)/\W.cell? ⟨ga,go+i * 12+10,none⟩=some (.int .i64 p4)/\W.cell? ⟨ga,go+i * 12+11,none⟩=some (.slice ka keys.length kcap))
         (first | with_reducible exact q1 | with_reducible exact q2 | with_reducible exact qa | with_reducible exact qb | with_reducible exact qc | with_reducible exact qd | with_reducible exact qe | with_reducible exact qf | with_reducible exact qg | fail)
         (first
           | (go_at_call 27;(with_reducible refine C1.out.mono ?_);rintro e wa ⟨rfl,Fa,hsa,hfa,hna⟩
              have ha:Fr (fun b=>w.heap.size<=b) w wa:=HWR.out.drew.trans hfa fun j _ h=>(HD1.out j h).1;have qa:=HQ.out _ ha;have la:=hfa.size;have C2:=H_ (CD2.out wa F3 ha ((HS3.out.fr0 hT (Fr.refl No wr).drew).fr hT hfa (fun b hb h=>(HD1.out b h).2 hb)) HN3.out);have HWA:=H_ ha;have HSAA:=H_ hsa;have HFAA:=H_ hfa;have HNA:=H_ hna;clear ha hsa hfa hna)
           | (go_at_call 27;(with_reducible refine C2.out.mono ?_);rintro e wb ⟨rfl,Fb,hsb,hfb,hnb⟩
              have hlF3:=HS3.out.lt hT
              have hdab:∀ b,Fa b->¬ F3 b:=fun b hb h=>by
               rcases HNA.out b hb with h2 | h2
               · exact (HD1.out b h2).2 h
               have:=hlF3 b h
               have h2':wr.heap.size<=b:=h2;omega
              have hb:Fr (fun b=>w.heap.size<=b) w wb:=HWA.out.trans hfb fun j _ h=>HN3.out j h;have qb:=HQ.out _ hb;have lb:=hfb.size;have hsa2:=HSAA.out.fr hT hfb hdab;have C3:=H_ (HSA.out wb Fa hsa2);have HWB:=H_ hb;have HSAB:=H_ hsa2;have HSBB:=H_ hsb;have HFBB:=H_ hfb;have HNB:=H_ hnb;clear hb hsb hfb hnb hsa2 hdab hlF3)
           | (go_at_call 23;(with_reducible refine C3.out.mono ?_);rintro e wc ⟨a5,c5,a6,c6,rfl,hkc,hec,hfcc,_,_⟩;unfold stateV
              have hc:Fr (fun b=>w.heap.size<=b) w wc:=HWB.out.trans hfcc fun _ _ h=>h.elim;have qc:=HQ.out _ hc;have C4:=H_ (HCP.out wc D'.kvs.length D'.events.length c5 c6 a5 a6);have HWC:=H_ hc;have HBC:=H_ hfcc;have HKC:=H_ hkc;have HEC:=H_ hec;clear hc hfcc hkc hec)
           | (go_at_call 22;(with_reducible refine C4.out.mono ?_);rintro e wd ⟨rfl,hfd⟩
              have hd:Fr (fun b=>w.heap.size<=b) w wd:=HWC.out.trans hfd fun _ _ h=>h.elim;have qd:=HQ.out _ hd;have C5:=H_ (HSB.out wd Fb (HSBB.out.fr0 hT (HBC.out.trans0 hfd)));have HWD:=H_ hd;have HCD:=H_ hfd;clear hd hfd)
           | (go_at_call 23;(with_reducible refine C5.out.mono ?_);rintro e we ⟨a7,c7,a8,c8,rfl,hke,hee,hfe,_,_⟩;unfold stateV
              have he:Fr (fun b=>w.heap.size<=b) w we:=HWD.out.trans hfe fun _ _ h=>h.elim;have qe:=HQ.out _ he;have C6:=H_ (HCP.out we D'.kvs.length D'.events.length c7 c8 a7 a8);have HWE:=H_ he;have HDE:=H_ hfe;have HKE:=H_ hke;have HEE:=H_ hee;clear he hfe hke hee)
           | (go_at_call 22;(with_reducible refine C6.out.mono ?_);rintro e wf ⟨rfl,hff⟩
              have hf:Fr (fun b=>w.heap.size<=b) w wf:=HWE.out.trans hff fun _ _ h=>h.elim;have qf:=HQ.out _ hf;have hcf:=HCD.out.trans0 (HDE.out.trans0 hff);have hsm:=HSM.out wf _ _ _ _ (HKC.out.fr0 hcf) (HKE.out.fr0 hff) (HEC.out.fr0 hcf) (HEE.out.fr0 hff);unfold stateV at hsm;have C7:=H_ hsm;have HWF:=H_ hf;have HBF:=H_ (HBC.out.trans0 hcf);clear hf hff hcf hsm)
           | (go_at_call 21;(with_reducible refine C7.out.mono ?_);rintro e wg ⟨rfl,hfg⟩
              have hg:Fr (fun b=>w.heap.size<=b) w wg:=HWF.out.trans hfg fun _ _ h=>h.elim;have qg:=HQ.out _ hg;have HWG:=H_ hg;have HBG:=H_ (HBF.out.trans0 hfg);clear hg hfg))
        all_goals
         go_wp2;go_roundg g
         case rel =>
          have hz:=HF.out.size;refine ⟨i+1,Fa,Fb,by go_num,by omega,H_ (by rw [HTS1.out];exact HSAB.out.fr0 hT HBG.out),H_ (by rw [HTS2.out];exact HSBB.out.fr0 hT HBG.out),H_ (fun b hb=>?_),H_ (fun b hb=>?_),H_ ⟨HWG.out.os,HWG.out.tape,HWG.out.output,HWG.out.size,fun b hb _=>HWG.out.block b hb (by omega)⟩⟩
          · have h0:w.heap.size<=b:=by
             rcases HNA.out b hb with h | h
             · exact (HD1.out b h).1
             have h':wr.heap.size<=b:=h
             omega
            refine ⟨h0,fun h=>?_⟩;rcases HNB.out b h with h2 | h2
            · rcases HNA.out b hb with h3 | h3
              · exact (HD1.out b h3).2 h2
              have:=HS3.out.lt hT b h2
              have h3':wr.heap.size<=b:=h3;omega
            have:=HSAA.out.lt hT b hb
            omega
          rcases HNB.out b hb with h | h
          · exact HN3.out b h
          have:=HWA.out.size
          omega
         case measure=>omega
end Go.Proofs.YthljnnjpmdgkoaaGreat
