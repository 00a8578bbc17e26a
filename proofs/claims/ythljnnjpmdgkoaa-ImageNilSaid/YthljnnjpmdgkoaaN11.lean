/- Own lemmas and contracts that the claim's proof needs, laid together. The conditions stand in each. -/
import Derived.Test.YthljnnjpmdgkoaaN09
import Derived.Test.YthljnnjpmdgkoaaN10
import Derived.Test.YthljnnjpmdgkoaaN01
import Derived.BigRegion
namespace Go.Proofs.Ythljnnjpmdgkoaa
open Go Go.Proofs Go.RowKit
set_option maxRecDepth 100000
theorem Pt.splitSafe {A:Arr} {fr:List Nat} {d at_ i kid:Nat} (h:Pt A fr (d+1) at_) (h9:(ndA A at_).pairs.length<=9) (hi:(ndA A at_).kids[i]? = some kid) (hk:(ndA A kid).pairs.length=9):splitSafe A fr at_ i:=by
 have hl:(ndA A at_).kids.length=(ndA A at_).pairs.length+1:=h.wf.1;have hil:=(List.getElem?_eq_some_iff.1 hi).1;have hkA:kidA A at_ i=kid:=by unfold kidA;simp [List.getD,hi]
 have hkm:=List.mem_of_getElem? hi;obtain ⟨k1,k2,k3,k4⟩:=h.wf.2 kid hkm
 have hne:kid≠at_:=by
  intro e;have h1:=h.one at_;have h2:0 < (nidx A (d+1) (ndA A at_)).count at_:=List.count_pos_iff.2 (List.mem_flatMap.2 ⟨kid,hkm,by simp [e]⟩);unfold own at h1;simp only [List.count_cons,beq_self_eq_true,if_true] at h1;omega
 unfold Go.Proofs.Ythljnnjpmdgkoaa.splitSafe;rw [hkA];refine ⟨h.lt,h9,by omega,by omega,hi,k1,hne,hk,?_,fun f hf=>⟨(h.free f hf).1,fun e=>?_,fun e=>?_,(h.free f hf).2⟩⟩
 · rcases zqs d _ k4 with e | e
   · exact .inl e
   exact .inr (by omega)
 · have h3:=h.one f
   have h4:0 < fr.count f:=List.count_pos_iff.2 hf;have h5:0 < (own A (d+1) at_).count f:=List.count_pos_iff.2 (by rw [e];unfold own;simp);omega
 have h3:=(h.kid hkm).one f
 have h4:0 < fr.count f:=List.count_pos_iff.2 hf;have h5:0 < (own A d kid).count f:=List.count_pos_iff.2 (by rw [e];unfold own;simp);omega
theorem zoi (A:Arr) (fr:List Nat) (at_ i:Nat):A.length<=(splitA A fr at_ i).length:=by
 unfold splitA takeA
 split <;> simp
theorem zgy (key:ByteArray) (n:Int):∀ (g:Nat) (A:Arr) (fr:List Nat) (at_:Nat),A.length<=(setA g A fr at_ key n).1.length
 | 0,_,_,_=>Nat.le_refl _
 | g+1,A,fr,at_=>by
   unfold setA
   split
   · simp
   split
   · simp
   split
   · exact Nat.le_trans (zoi A fr at_ _) (zgy key n g _ _ _)
   exact zgy key n g _ _ _
theorem TreeR.of_eq {w:World} {t:Nat} {nv fv:Value} {Z:List Nz} {fl fl':List Nat} {root:Nat} {many many':Int} (h:TreeR w t nv fv Z fl root many) (h1:fl'=fl) (h2:many'=many):TreeR w t nv fv Z fl' root many':=by
 subst h1;subst h2;exact h
def SetEnd (w:World) (t:Nat) (F:Nat->Prop) (r:Arr × List Nat × Bool) (root:Nat) (many:Int) (e:Ending) (w':World):Prop :=
 (∃ v,e = .returned v)/\∃ F',TreeZ w' t r.1 r.2.1 root (many+if r.2.2 then 1 else 0) F'/\Fr F w w'/\(∀ b,F' b->F b\/w.heap.size<=b)
structure GrownZ (w wx:World) (t:Nat) (A:Arr) (fl:List Nat) (root:Nat) (many:Int) (F F1:Nat->Prop):Prop where
 z:TreeZ wx t A fl root many F1
 fr:Fr F w wx
 new:∀ b,F1 b->F b\/w.heap.size<=b
set_option maxHeartbeats 4000000 in
theorem zph (w:World) (t:Nat) (A:Arr) (fl:List Nat) (root:Nat) (many:Int) (F:Nat->Prop) (T:Pairs) (key:ByteArray) (n:Int) (h:TreeZ w t A fl root many F) (hg:GoodT A fl root T) (N:Nat) (hN:N<=1000000) (hA:A.length<=N+2) (_hT:T.length < N)
 (hm:0<=many/\many<=1000000) (g:Nat) (hsafe:zfm g (growA A fl root).1 (growA A fl root).2.1 (growA A fl root).2.2 key) (hlen:(setA g (growA A fl root).1 (growA A fl root).2.1 (growA A fl root).2.2 key n).1.length<=N+2) :
 Calls Try.prog 123 #[.pointer (some ⟨t,0,none⟩),.string key,.int .i64 n] w (SetEnd w t F (setA g (growA A fl root).1 (growA A fl root).2.1 (growA A fl root).2.2 key n) (growA A fl root).2.2 many):=by
 obtain ⟨D,hD⟩:=hg;have hflA:fl.length<=A.length:=by have:=hD.cover;omega
 have hgl:(growA A fl root).2.1.length<=fl.length:=by unfold growA;split <;> simp;omega
 have hZ0:=H_ h;obtain ⟨nv,fv,Z,hR,hZ,hF⟩:=h;subst hZ;have hzl:Z.length<=N+2:=by rw [<-zaz];exact hA
 obtain ⟨z,hz,hnd⟩:=zdt hD.pt.lt;have hrl:root < Z.length:=(List.getElem?_eq_some_iff.1 hz).1;obtain ⟨nb,no,cap,rfl,hcap⟩:=hR.headLen (by omega);have c0:=hR.obj.cell 0 rfl;have c2:=hR.obj.cell 2 rfl;obtain ⟨a1,a2,a3,a4⟩:=hR.look root z hz;obtain ⟨pa,pcap,hpv,hp1,hp2,hpa⟩:=(hR.pairs root z hz).shape;rw [hpv] at a1;have hlt:t < w.heap.size:=hR.obj.lt;have hlnb:nb < w.heap.size:=hR.nodes.lt nb rfl;have hrz:(root:Int) < (Z.length:Int):=by omega
 have hD':=H_ hD;have HR:=H_ hR;have HND:=H_ hnd;have HF:=H_ hF;have HSAFE:=H_ hsafe;have HLEN:=H_ hlen;have HGL:=H_ hgl;clear hR hF hz hnd hpv hpa hD hsafe hlen hgl a2 a3 a4;go_enter Try.func123,Try.ntmps123;go_upto_region 3 with fail
 go_quiet (fail)
 have hq:=Fr.drewN No w nq;have hZq:=hZ0.out.fr0 hq;generalize w.drewN nq=W at hq hZq ⊢
 have HQ:=H_ hq;have HZQ:=H_ hZq;clear hq hZq;go_upto_if 28 with fail
 go_cut [8] (fun _ wx=>∃ F1,Hid (GrownZ w wx t (growA (ndsZ Z) fl root).1 (growA (ndsZ Z) fl root).2.1 (growA (ndsZ Z) fl root).2.2 many F F1))
 case first =>
  by_cases h9:z.nd.pairs.length=9
  · have h9':(ndA (ndsZ Z) root).pairs.length=9:=by rw [HND.out];exact h9
    obtain ⟨t1,t2,t3,t4,t5,t6⟩:=top_ok hD'.out h9';have hgr:growA (ndsZ Z) fl root=(splitA (topA (ndsZ Z) fl root) fl.dropLast (takeI (ndsZ Z) fl) 0,fl.dropLast.dropLast,takeI (ndsZ Z) fl):=(by unfold growA;rw [if_pos h9']);have hss:=t1.splitSafe (i:=0) (kid:=root) (by rw [t2];simp) (by rw [t2];rfl) (by rw [t3];exact h9');have htk:=took hD'.out.pt.free;have htt:=htk.lt;have htn:=htk.new;have htl:(takeA (ndsZ Z) fl).length<=1000003:=(by unfold takeA;split <;> simp [zaz] <;> omega);have h9i:((z.nd.pairs.length:Int) == 9)=true:=(by simp;omega);have HGR:=H_ hgr;have HSS:=H_ hss;have HTT:=H_ htt;have HTN:=H_ htn;have HTL:=H_ htl;have HTA:Hid (topA (ndsZ Z) fl root=(takeA (ndsZ Z) fl).set (takeI (ndsZ Z) fl) ⟨[],[root]⟩):=H_ rfl;have HT6:=H_ t6;clear t1 t2 t3 t4 t5 t6 hgr hss htk htt htn h9 h9' htl
    have hfl:fl.length<=1099511627:=(by rw [zaz] at hflA;omega);generalize htop:takeI (ndsZ Z) fl=top at *;have HTOP:=H_ htop;clear htop
    go_upto_region 5 with (first
     | (go_at_call 142;refine (ziv _ t (ndsZ Z) fl root many F HZQ.out (by rw [zaz];omega) hfl).mono ?_;rintro e w1 ⟨rfl,F1,hz1,hf1,hn1⟩;rw [HTOP.out]))
    obtain ⟨nv1,fv1,Z1,hR1,hZ1,hF1⟩:=hz1;obtain ⟨zt,hzt,ezt⟩:=zeq hZ1 HTT.out;have htl1:top < Z1.length:=(List.getElem?_eq_some_iff.1 hzt).1;obtain ⟨nb1,no1,cap1,rfl,hcap1⟩:=hR1.headLen (by omega);obtain ⟨_,e2,_,e4⟩:=hR1.look top zt hzt;have d0:=hR1.obj.cell 0 rfl;have d2:=hR1.obj.cell 2 rfl;have hlt1:t < w1.heap.size:=hR1.obj.lt;have hlnb1:nb1 < w1.heap.size:=hR1.nodes.lt nb1 rfl;have htz:(top:Int) < (Z1.length:Int):=(by omega)
    have hset:=hR1.setKids (w1:=(w1.alloc (.cells #[.int .i64 (root:Int)] 3))) (kv':=.slice (some ⟨w1.heap.size,0,none⟩) 1 1) (K':=[root]) top zt hzt ((Fr.refl _ w1).alloc _)
     ⟨rfl,.inr ⟨_,_,_,_,rfl,zac _ _ _ rfl,by simp,by unfold maxLen;omega,by simp,rfl⟩⟩ (fun b e=>by
       obtain rfl:w1.heap.size=b:=by simpa [Value.ownBlock] using e
       exact .inr (Nat.le_refl _))
    obtain ⟨q1,q2,q3⟩:=hset
    have hzn:ndsZ (Z1.set top ⟨⟨zt.nd.pairs,[root]⟩,zt.pv,.slice (some ⟨w1.heap.size,0,none⟩) 1 1⟩)=topA (ndsZ Z) fl root:=by
     rw [zch,hZ1,HTA.out,ezt,HTN.out];rfl
    have hnew:=zbs (t:=t) (nv:=.slice (some ⟨nb1,no1,none⟩) Z1.length cap1) (fv:=fv1) hzt q3;have HQ1:=H_ q1;have HQ2:=H_ q2;have HZN:=H_ hzn;have HNEW:=H_ hnew;have HF1:=H_ hF1;have HFR1:=H_ hf1;have HN1:=H_ hn1;have HZT:=H_ hzt;clear q1 q2 q3 hzn hnew hF1 hf1 hn1 hR1 hZ1 ezt hzt c0 c2 a1
    go_region
    rw [<-World.setCell_alloc_past _ _ _ _ hlnb1];have hq2:=HQ1.out.fr0 ((Fr.refl No _).drew);have hfq:Fr (fun b=>b=nb1\/zt.kv.ownBlock=some b) w1 (((w1.alloc (.cells #[.int .i64 (root:Int)] 3)).setCell ⟨nb1,no1+top * 2+1,none⟩ (.slice (some ⟨w1.heap.size,0,none⟩) 1 1)).drew):=HQ2.out.drew;generalize (((w1.alloc (.cells #[.int .i64 (root:Int)] 3)).setCell ⟨nb1,no1+top * 2+1,none⟩ (.slice (some ⟨w1.heap.size,0,none⟩) 1 1)).drew)=W2 at hq2 hfq ⊢
    have r2:=hq2.obj.cell 2 rfl;have r2f:=hq2.obj.free 2;have hW2t:t < W2.heap.size:=hq2.obj.lt;have ho:=hq2.obj.set 2 (.int .i64 (top:Int));have hq3:=hq2.setObj ((Fr.refl (fun b=>b=t) W2).setAt 2 (.int .i64 (top:Int))) top many ho;have hfs:Fr (fun b=>b=t) W2 (W2.setCell ⟨t,2,none⟩ (.int .i64 (top:Int))):=(Fr.refl _ W2).setAt 2 _;have HQ3:=H_ hq3;have HFQ:=H_ hfq;have HFS:=H_ hfs;clear hq2 hfq ho hq3 hfs d0 d2 e2 e4;go_wp2_with fail;generalize W2.setCell ⟨t,2,none⟩ (.int .i64 (top:Int))=W3 at HQ3 HFS ⊢
    have hz3:TreeZ W3 t (topA (ndsZ Z) fl root) fl.dropLast top many (treeF t (.slice (some ⟨nb1,no1,none⟩) Z1.length cap1) fv1 (Z1.set top ⟨⟨zt.nd.pairs,[root]⟩,zt.pv,.slice (some ⟨w1.heap.size,0,none⟩) 1 1⟩)):=⟨_,_,_,HQ3.out,HZN.out,fun b=>Iff.rfl⟩;have HZ3:=H_ hz3;clear hz3;have hfl2:fl.dropLast.length<=1099511627:=(by simp;omega)
    go_wp2_with (first
     | (go_at_call 143;refine (zgx _ t (topA (ndsZ Z) fl root) fl.dropLast top many _ HZ3.out top 0 HSS.out (by rw [HT6.out];have:=HTL.out;omega) hfl2).mono ?_;rintro e w4 ⟨rfl,F4,hz4,hf4,hn4⟩))
    have HZ4:=H_ hz4;have HF4:=H_ hf4;have HN4:=H_ hn4;clear hz4 hf4 hn4;go_meet
    case rel =>
     have hsz1:=HFR1.out.size;have hszq:=HQ.out.size;have hszq2:=HFQ.out.size;have hszs:=HFS.out.size
     have key1:∀ b,treeF t (.slice (some ⟨nb1,no1,none⟩) Z1.length cap1) fv1 Z1 b->F b\/w.heap.size<=b:=by
      intro b hb;rcases HN1.out b ((HF1.out b).2 hb) with e | e
      · exact .inl e
      exact .inr (by omega)
     have key2:∀ b,treeF t (.slice (some ⟨nb1,no1,none⟩) Z1.length cap1) fv1 (Z1.set top ⟨⟨zt.nd.pairs,[root]⟩,zt.pv,.slice (some ⟨w1.heap.size,0,none⟩) 1 1⟩) b->F b\/w.heap.size<=b:=by
      intro b hb;rcases HNEW.out b hb with e | e
      · exact key1 b e
      exact .inr (by omega)
     refine ⟨F4,H_ ⟨?_,?_,fun b hb=>?_⟩⟩
     · rw [HGR.out];exact HZ4.out
     · have f1:Fr F w w1:=(HQ.out.mono fun _ _ s=>s.elim).trans HFR1.out fun _ _ e=>e
       have f2:=f1.trans HFQ.out fun b hb e=>by
        rcases key1 b (by
         rcases e with rfl | e
         · exact .inr (.inl rfl)
         exact .inr (.inr (.inr ⟨top,zt,HZT.out,.inr e⟩))) with e | e
        · exact e
        omega
       have f3:=f2.trans HFS.out fun b hb e=>by
        rcases key1 b (.inl e) with e | e
        · exact e
        omega
       exact f3.trans HF4.out fun b hb e=>by
        rcases key2 b e with e | e
        · exact e
        omega
     rcases HN4.out b hb with e | e
     · exact key2 b e
     exact .inr (by omega)
  have h9i:((z.nd.pairs.length:Int) == 9)=false:=by simp;omega
  have hgr:growA (ndsZ Z) fl root=(ndsZ Z,fl,root):=(by unfold growA;rw [if_neg (by rw [HND.out];exact h9)]);have HGR:=H_ hgr;clear hgr h9;go_wp2_with fail;go_meet
  case rel=>exact ⟨F,H_ ⟨by rw [HGR.out];exact HZQ.out,HQ.out.mono fun _ _ s=>s.elim,fun b hb=>.inl hb⟩⟩
 case rest =>
  obtain ⟨F1,HG1⟩:=hcut;have HGL2:Hid ((growA (ndsZ Z) fl root).2.1.length<=1099511627):=H_ (by have:=HGL.out;rw [zaz] at hflA;omega);have HGL3:Hid (many<=1000000/\0<=many):=H_ ⟨hm.2,hm.1⟩;generalize growA (ndsZ Z) fl root=G at *;obtain ⟨A1,fl1,root1⟩:=G;dsimp only at HG1 HSAFE HLEN HGL2 ⊢
  generalize hres:setA g A1 fl1 root1 key n=res at *;have HRES:=H_ hres
  have c2w:wc.cell? ⟨t,2,none⟩=some (.int .i64 (root1:Int)):=by
   obtain ⟨_,_,_,h1,_⟩:=HG1.out.z;exact h1.obj.cell 2 rfl
  clear hres HQ HZQ hZ0 HR HND HF c0 c2 a1 HGL hD' hflA;go_wp2_with fail
  go_loopg [9] g (fun gg s9 wr=>∃ (A2:Arr) (fl2:List Nat) (at2:Nat) (F2:Nat->Prop),s9 = .int .i64 at2/\Hid (GrownZ w wr t A2 fl2 root1 many F F2)/\Hid (zfm gg A2 fl2 at2 key)/\Hid (setA gg A2 fl2 at2 key n=res)/\Hid (fl2.length<=1099511627))
  case atStart=>exact ⟨A1,fl1,root1,F1,rfl,HG1,HSAFE,HRES,HGL2⟩
  case round =>
   obtain ⟨A2,fl2,at2,F2,rfl,HGZ,HS,HR2,HL2⟩:=hrel
   cases gk with
   | zero=>exact absurd HS.out id
   | succ q =>
     obtain ⟨s1,s2,s3⟩:=HS.out
     have hA2:A2.length<=N+2:=by
      have h1:=zgy key n (q+1) A2 fl2 at2;rw [HR2.out] at h1;exact Nat.le_trans h1 HLEN.out
     have hHZ:=H_ HGZ.out.z;obtain ⟨nv2,fv2,Z2,hRr,hZ2,hF2⟩:=HGZ.out.z;obtain ⟨z2,hz2,hnd2⟩:=zeq hZ2 s1;have hzl2:Z2.length<=N+2:=(by rw [<-zaz,hZ2];exact hA2);have hatl:at2 < Z2.length:=(List.getElem?_eq_some_iff.1 hz2).1;obtain ⟨nb2,no2,cap2,rfl,hcap2⟩:=hRr.headLen (by omega);have hsp:=spotZ hRr at2 z2 hz2 (by rw [hnd2];exact s2) (by omega) key;unfold zbt at hsp;obtain ⟨b1,b2,b3,b4⟩:=hRr.look at2 z2 hz2;have d0:=hRr.obj.cell 0 rfl;have d3:=hRr.obj.cell 3 rfl;have d3f:=hRr.obj.free 3;have hP:=hRr.pairs at2 z2 hz2;have hK:=hRr.kids at2 z2 hz2;obtain ⟨pa2,pcap2,hpv2,hp21,hp22,hpa2⟩:=hP.shape;obtain ⟨ka2,kcap2,hkv2,hk21,hk22,hka2⟩:=hK.shape;have hiz:(at2:Int) < (Z2.length:Int):=(by omega);have hR2':setA (q+1) A2 fl2 at2 key n=res:=HR2.out;unfold setA at hR2';rw [<-hnd2] at hR2' s2 s3
     have hlnb2:nb2 < wr.heap.size:=hRr.nodes.lt nb2 rfl;have hlt2:t < wr.heap.size:=hRr.obj.lt;have hpn:¬ z2.pv.ownBlock=some nb2:=fun e=>(hRr.a2 at2 _ nb2 hz2 (.inl e)).2.1 rfl;have hpt:¬ z2.pv.ownBlock=some t:=fun e=>(hRr.a2 at2 _ t hz2 (.inl e)).1 rfl;have htn:t≠nb2:=fun e=>hRr.a1.1 (by rw [e];rfl)
     cases hh:hitOf z2.nd.pairs key with
     | true =>
       obtain ⟨m,hm⟩:=hit_at hh;have hil:=(List.getElem?_eq_some_iff.1 hm).1;obtain ⟨pb,po,rfl⟩:=hpa2 (by omega);rw [hpv2] at b1 hP;have hc:=hP.cell zaf _ 1 hm rfl;have hcf:=hP.free (po+spotOf z2.nd.pairs key * 2+1);rw [hh,if_pos rfl] at hR2';rw [hh] at hsp;have hpst:=hP.set zaf (spotOf z2.nd.pairs key) 1 (by omega) (key,m) (key,n) (.int .i64 n) hm rfl;have HPS:=H_ hpst;have HRR:=H_ hR2';have hilz:(spotOf z2.nd.pairs key:Int) < (z2.nd.pairs.length:Int):=(by omega);have hlpb:pb < wr.heap.size:=hP.lt pb rfl;have HRz:=H_ hRr;have HZ2:=H_ hZ2;have HF2:=H_ hF2;have Hz2:=H_ hz2;have HPV2:=H_ hpv2;clear hR2' hh hm hpv2 hkv2 hP hK hRr hz2 hnd2 hpa2 hka2 hpst hZ2 hF2 b2 b3 b4 d3 d3f s1 s2 s3 HS;generalize spotOf z2.nd.pairs key=i at *;go_wp2_with (go_at_call 130;refine hsp.mono ?_;clear hsp;rintro e w' ⟨rfl,rfl⟩)
       go_ret2
       have hfs:Fr (fun b=>b=pb) wr (wr.setCell ⟨pb,po+i * 2+1,none⟩ (.int .i64 n)):=(Fr.refl _ wr).setAt _ _
       have hq:=HRz.out.setPair (w1:=wr.setCell ⟨pb,po+i * 2+1,none⟩ (.int .i64 n)) (P':=z2.nd.pairs.set i (key,n)) at2 z2 Hz2.out HPV2.out hfs (by
        rw [HPV2.out];have:=HPS.out;unfold SlF at this ⊢
        rw [List.length_set] at this ⊢
        exact this)
       have hzo:zown z2 pb:=.inl (by rw [HPV2.out];rfl);have hb:res.2.1=fl2/\(many+if res.2.2 then 1 else 0)=many:=(by rw [<-HRR.out];simp);refine ⟨⟨_,rfl⟩,_,⟨_,_,_,hq.of_eq hb.1 hb.2,?_,fun b=>Iff.rfl⟩,?_,?_⟩
       · rw [<-HRR.out,zch,HZ2.out]
       · exact HGZ.out.fr.trans hfs fun b hb e=>by
          have e':b=pb:=e;rcases HGZ.out.new b ((HF2.out b).2 (.inr (.inr (.inr ⟨at2,z2,Hz2.out,e' ▸ hzo⟩)))) with e | e
          · exact e
          omega
       intro b hb
       rcases zbs (z':=⟨⟨z2.nd.pairs.set i (key,n),z2.nd.kids⟩,z2.pv,z2.kv⟩) Hz2.out (B:=w.heap.size) (fun b e=>.inl e) b hb with e | e
       · exact HGZ.out.new b ((HF2.out b).2 e)
       exact .inr e
     | false =>
       rw [hh] at hsp hR2';simp only [Bool.false_eq_true,if_false] at hR2';by_cases hk0:z2.nd.kids = []
       · rw [if_pos hk0] at hR2'
         have hkl:z2.nd.kids.length=0:=(by rw [hk0];rfl);rw [hkv2,hkl] at b2;have hput:=zfb wr z2.pv z2.nd.pairs (spotOf z2.nd.pairs key) (key,n) hP (zbm _ _) (by omega);have HRR:=H_ hR2';have HRz:=H_ hRr;have HZ2:=H_ hZ2;have HF2:=H_ hF2;have Hz2:=H_ hz2;have HK0:=H_ hk0;clear hR2' hh hpv2 hkv2 hP hK hRr hz2 hnd2 hpa2 hka2 hZ2 hF2 b4 s1 s3 HS hk0 hkl;have hm1:=HGL3.out.1;have hm2:=HGL3.out.2;generalize spotOf z2.nd.pairs key=i at *
         go_wp2_with (first
          | (go_at_call 130;refine hsp.mono ?_;clear hsp;rintro e w' ⟨rfl,rfl⟩)
          | (go_at_call 144;refine hput.mono ?_;clear hput;rintro e w1 ⟨g1,o1,c1,rfl,hs1,hf1,hg1⟩
             have y1:=hf1.cell b1 hpn;have y2:=hf1.free b1 b3 hpn;have y3:=hf1.cell d3 hpt;have y4:=hf1.free d3 d3f hpt;have HS1:=H_ hs1;have HG1':=H_ hg1;have HF1':=H_ hf1;clear hs1 hg1 hf1))
         go_ret2
         have hgo:∀ b,(Value.slice (some ⟨g1,o1,none⟩) (z2.nd.pairs.length+1) c1).ownBlock=some b->z2.pv.ownBlock=some b\/wr.heap.size<=b:=fun b e=>by
          obtain rfl:g1=b:=by simpa [Value.ownBlock] using e
          exact HG1'.out
         obtain ⟨q1,q2,q3⟩:=HRz.out.setPairs (w1:=w1) (pv':=.slice (some ⟨g1,o1,none⟩) (z2.nd.pairs.length+1) c1) (P':=z2.nd.pairs.take i++(key,n) :: z2.nd.pairs.drop i) at2 z2 Hz2.out HF1'.out HS1.out hgo;have hfs:Fr (fun b=>b=t) (w1.setCell ⟨nb2,no2+at2 * 2,none⟩ (.slice (some ⟨g1,o1,none⟩) (z2.nd.pairs.length+1) c1)) ((w1.setCell ⟨nb2,no2+at2 * 2,none⟩ (.slice (some ⟨g1,o1,none⟩) (z2.nd.pairs.length+1) c1)).setCell ⟨t,3,none⟩ (.int .i64 (many+1))):=(Fr.refl _ _).setAt _ _;have ho:=q1.obj.set 3 (.int .i64 (many+1));have q4:=q1.setObj hfs root1 (many+1) ho;have hszr:=HGZ.out.fr.size;have key1:∀ b,treeF t (.slice (some ⟨nb2,no2,none⟩) Z2.length cap2) fv2 Z2 b->F b\/w.heap.size<=b:=fun b hb=>HGZ.out.new b ((HF2.out b).2 hb)
         have hb:res.2.1=fl2/\(many+if res.2.2 then 1 else 0)=many+1:=(by rw [<-HRR.out];simp);refine ⟨⟨_,rfl⟩,_,⟨_,_,_,q4.of_eq hb.1 hb.2,?_,fun b=>Iff.rfl⟩,?_,?_⟩
         · rw [<-HRR.out,zch,HZ2.out,HK0.out]
         · refine (HGZ.out.fr.trans q2 fun b hb e=>?_).trans hfs fun b hb e=>?_
           · rcases key1 b (by
              rcases e with rfl | e
              · exact .inr (.inl rfl)
              exact .inr (.inr (.inr ⟨at2,z2,Hz2.out,.inl e⟩))) with e | e
             · exact e
             omega
           rcases key1 b (.inl e) with e | e
           · exact e
           omega
         intro b hb
         rcases zbs Hz2.out q3 b hb with e | e
         · exact key1 b e
         exact .inr (by omega)
       rw [if_neg hk0] at hR2'
       obtain ⟨k1,k2,k3,k4,k5⟩:=s3 hh hk0;obtain ⟨z3,hz3,hnd3⟩:=zeq hZ2 k2;have hkatl:kidA A2 at2 (spotOf z2.nd.pairs key) < Z2.length:=(List.getElem?_eq_some_iff.1 hz3).1;obtain ⟨e1,_,_,_⟩:=hRr.look _ z3 hz3;obtain ⟨pa3,pcap3,hpv3,_,_,_⟩:=(hRr.pairs _ z3 hz3).shape;rw [hpv3] at e1;have hil:=(List.getElem?_eq_some_iff.1 k1).1;obtain ⟨kb,ko,rfl⟩:=hka2 (by omega);rw [hkv2] at b2 hK;have hkc:=hK.cell1 zak _ k1 rfl;have hiz2:(spotOf z2.nd.pairs key:Int) < (z2.nd.kids.length:Int):=(by omega);have hkz2:((z2.nd.kids.length:Int) == 0)=false:=(by simp;omega);have hlkb:kb < wr.heap.size:=hK.lt kb rfl;have hsL:=zbm z2.nd.pairs key;rw [<-hnd3] at hR2' k4 k5;have HK4:=H_ k4;have HK5:=H_ k5;have HRR:=H_ hR2'
       clear hR2' hh hpv2 hkv2 hP hK hRr hz2 hnd2 hpa2 hZ2 hF2 b1 b3 b4 s1 s3 HS hk0 k1 k2 k3 k4 k5 hz3 hnd3 hpv3 hil d3 d3f;generalize hki:kidA A2 at2 (spotOf z2.nd.pairs key)=kid at *;have HKI:=H_ hki;have hkz:(kid:Int) < (Z2.length:Int):=(by omega);clear hki;by_cases h9:z3.nd.pairs.length=9
       · have h9i:((z3.nd.pairs.length:Int) == 9)=true:=by simp;omega
         have HR3:=HRR.out;rw [if_pos h9] at HR3;obtain ⟨ks1,ks2⟩:=HK4.out h9;have HR3':=H_ HR3;have HKS1:=H_ ks1;have HKS2:=H_ ks2;clear HR3 ks1 ks2 HRR HK4 HK5 h9;generalize spotOf z2.nd.pairs key=i at *
         go_upto_region 19 with (first
          | (go_at_call 130;refine hsp.mono ?_;clear hsp;rintro e w' ⟨rfl,rfl⟩))
         go_quiet (fail)
         have hq:=Fr.drewN No wr nq;have hZq:=hHZ.out.fr0 hq;generalize wr.drewN nq=W at hq hZq ⊢
         have HQ:=H_ hq;have HZQ:=H_ hZq;clear hq hZq;have hl2:=HL2.out
         go_wp2_with (first
          | (go_at_call 143;refine (zgx _ t A2 fl2 root1 many F2 HZQ.out at2 i HKS1.out (by omega) hl2).mono ?_;rintro e w4 ⟨rfl,F4,hz4,hf4,hn4⟩))
         have HZ4:=H_ hz4;have HF4:=H_ hf4;have HN4:=H_ hn4;clear hz4 hf4 hn4;go_roundg q
         case rel =>
          have hszq:=HQ.out.size;have hszr:=HGZ.out.fr.size;refine ⟨splitA A2 fl2 at2 i,fl2.dropLast,at2,F4,rfl,H_ ⟨HZ4.out,(HGZ.out.fr.trans0 HQ.out).trans HF4.out fun b hb e=>?_,fun b hb=>?_⟩,HKS2,HR3',H_ (by simp;omega)⟩
          · rcases HGZ.out.new b e with e | e
            · exact e
            omega
          rcases HN4.out b hb with e | e
          · exact HGZ.out.new b e
          exact .inr (by omega)
         case measure=>omega
       have h9i:((z3.nd.pairs.length:Int) == 9)=false:=by simp;omega
       have HR3:=HRR.out;rw [if_neg h9] at HR3;have ks:=HK5.out h9;have HR3':=H_ HR3;have HKS:=H_ ks;clear HR3 ks HRR HK4 HK5 h9;generalize spotOf z2.nd.pairs key=i at *
       go_upto_region 19 with (first
        | (go_at_call 130;refine hsp.mono ?_;clear hsp;rintro e w' ⟨rfl,rfl⟩))
       go_quiet (fail)
       have hq:=Fr.drewN No wr nq;have hZq:=hHZ.out.fr0 hq;have b2q:=hq.cell0 b2;have hkcq:=hq.cell0 hkc;generalize wr.drewN nq=W at hq hZq b2q hkcq ⊢
       have HQ:=H_ hq;have HZQ:=H_ hZq;clear hq hZq;go_wp2_with fail;go_roundg q
       case rel =>
        exact ⟨A2,fl2,kid,F2,rfl,H_ ⟨HZQ.out,HGZ.out.fr.trans0 HQ.out,HGZ.out.new⟩,HKS,HR3',HL2⟩
       case measure=>omega
open Go Go.Proofs Go.RowKit Go.Shelf
theorem zpi (w:World) (t:Nat) (frm tO:ByteArray) :
 Calls Try.prog 69 #[.pointer (some ⟨t,0,none⟩),.string frm,.string tO,.int .i64 0] w fun e w'=>e = .returned (.slice none 0 0)/\Fr No w w':=by
 go_enter Try.func69,Try.ntmps69;go_wp2;go_ret;exact ⟨rfl,(((Fr.refl No w).alloc _).alloc _).alloc _⟩
abbrev zan:=World->Nat->Pairs->(Nat->Prop)->Prop
structure TreeOk (TA:zan) (N:Nat):Prop where
 lt:∀ {w t T F},TA w t T F->∀ b,F b->b < w.heap.size
 fr:∀ {w w' t T F S},TA w t T F->Fr S w w'->(∀ b,F b->¬ S b)->TA w' t T F
 root:∀ {w t T F},TA w t T F->F t
 sorted:∀ {w t T F},TA w t T F->Sorted T
 new:∀ w:World,Calls Try.prog 67 #[] w fun e w'=>∃ t,e = .returned (.pointer (some ⟨t,0,none⟩))/\∃ F,TA w' t [] F/\Fr No w w'/\(∀ b,F b->w.heap.size<=b)
 len:∀ {w t T F},TA w t T F->Calls Try.prog 70 #[.pointer (some ⟨t,0,none⟩)] w fun e w'=>e = .returned (.int .i64 T.length)/\w=w'
 get:∀ {w t T F} (key:ByteArray),TA w t T F->Calls Try.prog 112 #[.pointer (some ⟨t,0,none⟩),.string key] w fun e w'=>e = .returned (zeg (getT T key))/\Fr No w w'
 set:∀ {w t T F} (key:ByteArray) (m:Int),TA w t T F->T.length < N →
  Calls Try.prog 123 #[.pointer (some ⟨t,0,none⟩),.string key,.int .i64 m] w fun e w'=>(∃ v,e = .returned v)/\∃ F',TA w' t (insT T key m) F'/\Fr F w w'/\(∀ b,F' b->F b\/w.heap.size<=b)
 range:∀ {w t T F} (frm tO:ByteArray),TA w t T F →
  Calls Try.prog 69 #[.pointer (some ⟨t,0,none⟩),.string frm,.string tO,.int .i64 T.length] w fun e w'=>∃ v,e = .returned v/\SlF w' 127 2 pairC v (rangeT T frm tO)/\Fr No w w'/\(∀ b,v.ownBlock=some b->w.heap.size<=b)
end Go.Proofs.Ythljnnjpmdgkoaa