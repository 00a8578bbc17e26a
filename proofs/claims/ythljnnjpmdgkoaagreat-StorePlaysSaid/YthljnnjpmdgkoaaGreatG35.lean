/- Own lemmas and contracts that the claim's proof needs, laid together. The conditions stand in each. -/
import Derived.Test.YthljnnjpmdgkoaaGreatG32
import Derived.Test.YthljnnjpmdgkoaaGreatG34
import Derived.Test.YthljnnjpmdgkoaaGreatG31
import Derived.Test.YthljnnjpmdgkoaaGreatG01
namespace Go.Proofs.YthljnnjpmdgkoaaGreat
open Go Go.Proofs Go.RowKit
set_option maxRecDepth 100000
theorem zts (A:Arr) (fl:List Nat) (at_ i:Nat):(fillA A fl at_ i).1.length=A.length:=by
 unfold fillA lendL lendR joinA
 repeat' split
 all_goals simp
theorem ztj (A:Arr) (at_ i:Nat):(joinA A at_ i).length=A.length:=by unfold joinA;simp
theorem GrownZ.step {w W w':World} {t:Nat} {A A':Arr} {fl fl':List Nat} {root:Nat} {many:Int} {F F1 F2:Nat->Prop} (h:GrownZ w W t A fl root many F F1) (hz:TreeZ w' t A' fl' root many F2) (hf:Fr F1 W w') (hn:∀ b,F2 b->F1 b\/W.heap.size<=b) :
 GrownZ w w' t A' fl' root many F F2:=by
 have hsz:=h.fr.size;refine ⟨hz,h.fr.trans hf fun b hb e=>?_,fun b hb=>?_⟩
 · rcases h.new b e with e | e
   · exact e
   omega
 rcases hn b hb with e | e
 · exact h.new b e
 exact .inr (by omega)
set_option maxHeartbeats 8000000 in
theorem zmn (w:World) (t:Nat) (A:Arr) (fl:List Nat) (root:Nat) (many:Int) (F:Nat->Prop) (h:TreeZ w t A fl root many F) (at_:Nat) (key:ByteArray) (g:Nat) (hs:zem g A fl at_ key) (hA:A.length<=109951162) :
 Calls Tryz.prog 148 #[.pointer (some ⟨t,0,none⟩),.int .i64 at_,.string key] w (zgj w t F (delA g A fl at_ key).1 (delA g A fl at_ key).2 root many):=by
 generalize hres:delA g A fl at_ key=res;have H:=H_ h;have HS:=H_ hs;have HRES:=H_ hres;clear h hs hres;go_enter Tryz.func148,Tryz.ntmps148;go_wp2_with fail
 go_loopg [1,2] g (fun gg s1 s2 wr=>∃ (A2:Arr) (fl2:List Nat) (at2:Nat) (key2:ByteArray) (F2:Nat->Prop),s1 = .int .i64 at2/\s2 = .string key2/\Hid (GrownZ w wr t A2 fl2 root many F F2)/\Hid (zem gg A2 fl2 at2 key2)/\Hid (delA gg A2 fl2 at2 key2=res)/\Hid (A2.length=A.length))
 case atStart=>exact ⟨A,fl,at_,key,F,rfl,rfl,H_ ⟨H.out,Fr.refl _ w,fun b hb=>.inl hb⟩,HS,HRES,H_ rfl⟩
 case round =>
  obtain ⟨A2,fl2,at2,key2,F2,rfl,rfl,HGZ,HS2,HR2,HL⟩:=hrel
  cases gk with
  | zero=>exact absurd HS2.out id
  | succ q =>
    obtain ⟨s1,s2,s3,s4⟩:=HS2.out;have hA2:A2.length<=109951162:=(by have:=HL.out;omega);have HZ:=H_ HGZ.out.z;obtain ⟨nv2,fv2,Z2,hRr,hZ2,hF2⟩:=HGZ.out.z;obtain ⟨z2,hz2,hnd2⟩:=zbi hZ2 s1;have hzl2:Z2.length<=109951162:=(by rw [<-zas,hZ2];exact hA2);have hatl:at2 < Z2.length:=(List.getElem?_eq_some_iff.1 hz2).1;obtain ⟨nb2,no2,cap2,rfl,hcap2⟩:=hRr.headLen (by omega);have hsp:=spotZ hRr at2 z2 hz2 (by rw [hnd2];exact s2) (by omega) key2;unfold zbs at hsp;obtain ⟨b1,b2,b3,b4⟩:=hRr.look at2 z2 hz2;have d0:=hRr.obj.cell 0 rfl;have hP:=hRr.pairs at2 z2 hz2;have hK:=hRr.kids at2 z2 hz2;obtain ⟨pa2,pcap2,hpv2,hp21,hp22,hpa2⟩:=hP.shape;obtain ⟨ka2,kcap2,hkv2,hk21,hk22,hka2⟩:=hK.shape;have hiz:(at2:Int) < (Z2.length:Int):=(by omega);have hR2':delA (q+1) A2 fl2 at2 key2=res:=HR2.out
    unfold delA at hR2';rw [<-hnd2] at hR2' s2 s3 s4;have hlnb2:nb2 < wr.heap.size:=hRr.nodes.lt nb2 rfl;have hlt2:t < wr.heap.size:=hRr.obj.lt;have hpn:¬ z2.pv.ownBlock=some nb2:=fun e=>(hRr.a2 at2 _ nb2 hz2 (.inl e)).2.1 rfl;have hpt:¬ z2.pv.ownBlock=some t:=fun e=>(hRr.a2 at2 _ t hz2 (.inl e)).1 rfl;have htn:t≠nb2:=fun e=>hRr.a1.1 (by rw [e];rfl);have hsle:=zbm z2.nd.pairs key2;by_cases hk0:z2.nd.kids = []
    · rw [if_pos hk0] at hR2'
      have hs3:=s3 hk0;have hkl:z2.nd.kids.length=0:=(by rw [hk0];rfl);rw [hkv2,hkl] at b2;have hcut:=zen wr z2.pv z2.nd.pairs (spotOf z2.nd.pairs key2) hP hs3 (by omega);obtain ⟨pb,po,rfl⟩:=hpa2 (by omega);have HPV:=H_ hpv2;have HR:=H_ hRr;have HZ2:=H_ hZ2;have HF2:=H_ hF2;have Hz2:=H_ hz2;have HK0:=H_ hk0;have HRR:=H_ hR2';clear hR2' hpv2 hkv2 hP hK hRr hz2 hnd2 hpa2 hka2 hZ2 hF2 b4 s1 s3 s4 HS2 hk0 hkl;generalize spotOf z2.nd.pairs key2=i at *
      go_wp2_with (first
       | (go_at_call 157;refine hsp.mono ?_;clear hsp;rintro e w' ⟨rfl,rfl⟩)
       | (go_at_call 170;refine hcut.mono ?_;clear hcut;rintro e w1 ⟨g1,o1,c1,rfl,hs1,hf1,hg1⟩
          have y1:=hf1.cell b1 hpn;have y2:=hf1.free b1 b3 hpn;have HS1:=H_ hs1;have HG1':=H_ hg1;have HF1':=H_ hf1;clear hs1 hg1 hf1))
      refine bodyPost_ret (results_none rfl _ _ _) rfl ?_
      have hgo:∀ b,(Value.slice (some ⟨g1,o1,none⟩) (z2.nd.pairs.length - 1) c1).ownBlock=some b->z2.pv.ownBlock=some b\/wr.heap.size<=b:=fun b e=>by
       obtain rfl:g1=b:=by simpa [Value.ownBlock] using e
       exact .inl HG1'.out
      obtain ⟨q1,q2,q3⟩:=HR.out.setPairs (w1:=w1) (pv':=.slice (some ⟨g1,o1,none⟩) (z2.nd.pairs.length - 1) c1) (P':=z2.nd.pairs.take i++z2.nd.pairs.drop (i+1)) at2 z2 Hz2.out HF1'.out HS1.out hgo
      have hst:=HGZ.out.step (w':=w1.setCell ⟨nb2,no2+at2 * 2,none⟩ (.slice (some ⟨g1,o1,none⟩) (z2.nd.pairs.length - 1) c1)) (A':=A2.set at2 ⟨z2.nd.pairs.take i++z2.nd.pairs.drop (i+1),[]⟩) (fl':=fl2) ⟨_,_,_,q1,by rw [zav,HZ2.out,HK0.out],fun b=>Iff.rfl⟩ (q2.mono fun b _ e=>by
       refine (HF2.out b).2 ?_;rcases e with rfl | e
       · exact .inr (.inl rfl)
       · exact .inr (.inr (.inr ⟨at2,z2,Hz2.out,.inl e⟩))) (fun b hb=>by
       rcases zbb Hz2.out q3 b hb with e | e
       · exact .inl ((HF2.out b).2 e)
       exact .inr e)
      refine ⟨⟨_,rfl⟩,_,?_,hst.fr,hst.new⟩;rw [<-HRR.out];exact hst.z
    obtain ⟨n1,n2,n3,n4,n5,n6⟩:=s4 hk0
    rw [if_neg hk0] at hR2';have hlen:z2.nd.kids.length=z2.nd.pairs.length+1:=(by rw [hnd2];exact n1.len);obtain ⟨kb,ko,rfl⟩:=hka2 (by omega);rw [hkv2] at b2 hK;have hkz2:((z2.nd.kids.length:Int) == 0)=false:=(by simp;omega)
    cases hh:hitOf z2.nd.pairs key2 with
    | false =>
      rw [hh] at hsp;rw [if_pos hh] at hR2';obtain ⟨f1,f2,f3⟩:=n3 hh;have hfill:=zrn wr t A2 fl2 root many F2 HZ.out at2 (spotOf z2.nd.pairs key2) n1 hA2 (by rw [<-hnd2];omega) (by rw [<-hnd2];exact n2);have hfl:=zts A2 fl2 at2 (spotOf z2.nd.pairs key2);generalize fillA A2 fl2 at2 (spotOf z2.nd.pairs key2)=fa at *;obtain ⟨A3,fl3⟩:=fa;dsimp only at hfill hfl hR2' f1 f2 f3;have hF1:=H_ f1;have hF2':=H_ f2;have hF3:=H_ f3;have HFL:=H_ hfl;have HRR:=H_ hR2';clear f1 f2 f3 hfl hR2' s1 s3 s4 n1 n3 n4 n5 n6 hnd2 hz2 hRr hP hK hpa2 hZ2 hF2 HS2 hpv2 hkv2 b3 b4;generalize spotOf z2.nd.pairs key2=i at *
      go_upto_region 6 with (first
       | (go_at_call 157;refine hsp.mono ?_;clear hsp;rintro e w' ⟨rfl,rfl⟩)
       | (go_at_call 171;refine hfill.mono ?_;clear hfill;rintro e w1 ⟨⟨v,rfl⟩,F3,hz3,hf3,hn3⟩))
      have hgz:=HGZ.out.step hz3 hf3 hn3;obtain ⟨nv3,fv3,Z3,hR3,hZ3,hFF3⟩:=hz3;obtain ⟨z3,hz3,hnd3⟩:=zbi hZ3 hF1.out.lt;have hatl3:at2 < Z3.length:=(List.getElem?_eq_some_iff.1 hz3).1;have hzl3:Z3.length<=109951162:=(by rw [<-zas,hZ3];have:=HFL.out;omega);obtain ⟨nb3,no3,cap3,rfl,hcap3⟩:=hR3.headLen (by omega);have hlen3:=hF1.out.len;have h93:=hF1.out.hi;rw [<-hnd3] at hlen3 h93;have hsp3:=spotZ hR3 at2 z3 hz3 h93 (by omega) key2;unfold zbs at hsp3;have hh3:=hF2'.out;rw [<-hnd3] at hh3;rw [hh3] at hsp3;obtain ⟨x1,x2,x3,x4⟩:=hR3.look at2 z3 hz3;have x0:=hR3.obj.cell 0 rfl;have hK3:=hR3.kids at2 z3 hz3;obtain ⟨ka3,kcap3,hkv3,hk31,hk32,hka3⟩:=hK3.shape;obtain ⟨kb3,ko3,rfl⟩:=hka3 (by omega);rw [hkv3] at x2 hK3;have hsle3:=zbm z3.nd.pairs key2
      obtain ⟨c,hc⟩:∃ c,z3.nd.kids[spotOf z3.nd.pairs key2]? = some c:=⟨_,List.getElem?_eq_getElem (by omega)⟩;have hkc:=hK3.cell1 zah _ hc rfl;have hkA:kidA A3 at2 (spotOf z3.nd.pairs key2)=c:=(by unfold kidA;rw [<-hnd3];simp [List.getD,hc]);have hRq:=HRR.out;have hSq:=hF3.out;rw [<-hnd3,hkA] at hRq hSq;have hiz3:(at2:Int) < (Z3.length:Int):=(by omega);have hkz3:(spotOf z3.nd.pairs key2:Int) < (z3.nd.kids.length:Int):=(by omega);have HRQ:=H_ hRq;have HSQ:=H_ hSq;have HGQ:=H_ hgz;clear hRq hSq hgz hkA hc hkv3 hK3 hka3 hh3 hnd3 hz3 hZ3 hFF3 hR3 hf3 hn3 HRR hF1 hF2' hF3 d0 b1 b2;generalize spotOf z3.nd.pairs key2=i3 at *;go_wp2_with (go_at_call 157;refine hsp3.mono ?_;clear hsp3;rintro e w' ⟨rfl,rfl⟩);go_roundg q
      case rel=>exact ⟨A3,fl3,c,key2,F3,rfl,rfl,HGQ,HSQ,HRQ,H_ (HFL.out.trans HL.out)⟩
      case measure=>omega
    | true =>
      rw [hh] at hsp;rw [if_neg (by rw [hh];decide)] at hR2';obtain ⟨m,hm⟩:=hit_at hh;have hil:=(List.getElem?_eq_some_iff.1 hm).1;obtain ⟨l,zl,kl,klA,hzl,hzln,hla,hl9,hlw⟩:=kid_z hZ2 n1 (i:=spotOf z2.nd.pairs key2) (by rw [<-hnd2];omega);obtain ⟨r,zr,kr,krA,hzr,hzrn,hra,hr9,hrw⟩:=kid_z hZ2 n1 (i:=spotOf z2.nd.pairs key2+1) (by rw [<-hnd2];omega);rw [<-hnd2] at kl kr;have N4:=n4 hh;have N5:=n5 hh;have N6:=n6 hh;rw [klA,<-hzln] at hR2' N4 N5 N6;rw [krA,<-hzrn] at hR2' N5 N6;have hkcl:=hK.cell1 zah _ kl rfl;have hkcr:=hK.cell1 zah _ kr rfl;obtain ⟨el1,_,_,_⟩:=hRr.look l zl hzl;obtain ⟨er1,_,_,_⟩:=hRr.look r zr hzr;obtain ⟨lpa,lpcap,hlpv,_,_,_⟩:=(hRr.pairs l zl hzl).shape;obtain ⟨rpa,rpcap,hrpv,_,_,_⟩:=(hRr.pairs r zr hzr).shape;rw [hlpv] at el1;rw [hrpv] at er1
      have hll:l < Z2.length:=(List.getElem?_eq_some_iff.1 hzl).1;have hrl:r < Z2.length:=(List.getElem?_eq_some_iff.1 hzr).1;have hlz:(l:Int) < (Z2.length:Int):=(by omega);have hrz:(r:Int) < (Z2.length:Int):=(by omega);obtain ⟨pb,po,rfl⟩:=hpa2 (by omega);rw [hpv2] at b1;have hAt:AtZ wr wr t nb2 no2 cap2 fv2 Z2 fl2 root many F2:=⟨hRr,Fr.refl _ wr,fun b hb=>.inl ((hF2 b).2 hb)⟩;have hlpb:pb < wr.heap.size:=hP.lt pb (by rw [hpv2];rfl);have hcl0:=hP;rw [hpv2] at hcl0;have zf0:=hcl0.cell0 zag _ hm rfl;have zf1:=hcl0.cell zag _ 1 hm rfl;have zff:=hcl0.free;have hk1:(spotOf z2.nd.pairs key2:Int) < (z2.nd.kids.length:Int):=(by omega);have hk2:(spotOf z2.nd.pairs key2:Int)+1 < (z2.nd.kids.length:Int):=(by omega);have hk3:(0:Int)<=(spotOf z2.nd.pairs key2:Int)+1:=(by omega)
      have hk4:((spotOf z2.nd.pairs key2:Int)+1).toNat=spotOf z2.nd.pairs key2+1:=(by omega);have hk5:IntKind.i64.wrap ((spotOf z2.nd.pairs key2:Int)+1)=(spotOf z2.nd.pairs key2:Int)+1:=(by have h9':z2.nd.pairs.length<=9:=s2;rw [IntKind.wrap_i64];omega);have hk6:(spotOf z2.nd.pairs key2:Int) < (z2.nd.pairs.length:Int):=(by omega);have HAT:=H_ hAt;have HPV:=H_ hpv2;have Hz2:=H_ hz2;have HM:=H_ hm;have HN4:=H_ N4;have HN5:=H_ N5;have HN6:=H_ N6;have HRR:=H_ hR2';have HZ2:=H_ hZ2;have HN1:=H_ n1;have HND:=H_ hnd2;have HKRA:=H_ krA;have HIL:=H_ hil;clear hAt hpv2 hkv2 hz2 hm N4 N5 N6 n1 n2 n3 n4 n5 n6 hR2' hZ2 hnd2 hRr hP hK hcl0 hF2 HS2 s1 s2 s3 s4 kl kr klA krA hzl hzr hzln hzrn hlpv hrpv hlw hrw hka2 hk0 hpa2 hkz2 hh hil;generalize spotOf z2.nd.pairs key2=i at *
      have hkz2:((z2.nd.kids.length:Int) == 0)=false:=(by rw [beq_eq_false_iff_ne];omega);go_upto_region 9 with (go_at_call 157;refine hsp.mono ?_;clear hsp;rintro e w' ⟨rfl,rfl⟩)
      go_quiet (fail)
      have hq:=Fr.drewN No wr nq;generalize wr.drewN nq=W1 at hq ⊢
      have HAT1:=H_ (HAT.out.fr0 hq);have HZ1:=H_ (HZ.out.fr0 hq);have HGZ1:=H_ (HGZ.out.step (HZ.out.fr0 hq) (hq.mono fun _ _ s=>s.elim) fun b hb=>.inl hb)
      replace d0:=hq.cell0 d0
      replace b1:=hq.cell0 b1
      replace el1:=hq.cell0 el1
      replace er1:=hq.cell0 er1
      replace zf0:=hq.cell0 zf0
      replace zf1:=hq.cell0 zf1
      have hzff:∀ j,W1.frozen? ⟨pb,j,none⟩=false:=by
       have h:=HAT1.out.r.pairs at2 z2 Hz2.out;rw [HPV.out] at h;exact h.free
      have hlpb1:pb < W1.heap.size:=(by have:=hq.size;omega);have hlt1:t < W1.heap.size:=HAT1.out.r.obj.lt;clear hq zff b2 b3 b4 hlpb hlnb2 hlt2;by_cases hl5:4 < zl.nd.pairs.length
      · have hl5z:(4:Int) < (zl.nd.pairs.length:Int):=by omega
        have hs5:=HN4.out hl5;have hend:=znp W1 t _ fv2 Z2 fl2 root many HAT1.out.r hzl2 l true q (by rw [HZ2.out];exact hs5.1);rw [HZ2.out] at hend;have HS5:=H_ hs5.2;have HR5:=HRR.out;rw [if_pos hl5] at HR5;have HRQ:=H_ HR5;clear hs5 HR5 HRR;generalize endA q A2 l true=y at hend HS5 HRQ;go_upto_region 14 with (go_at_call 172;refine hend.mono ?_;clear hend;rintro e w3 ⟨rfl,hf3⟩);have d0':=hf3.cell0 d0;have b1':=hf3.cell0 b1;have hlt3:t < w3.heap.size:=(by have:=hf3.size;omega);have hlpb3:pb < w3.heap.size:=(by have:=hf3.size;omega);have hnb3:nb2 < w3.heap.size:=(by have:=hf3.size;have:=HAT1.out.r.nodes.lt nb2 rfl;omega);have e0:=hf3.cell0 zf0;have e1:=hf3.cell0 zf1
        have ef:∀ j,w3.frozen? ⟨pb,j,none⟩=false:=by
         have h:=(HAT1.out.fr0 hf3).r.pairs at2 z2 Hz2.out;rw [HPV.out] at h;exact h.free
        have HSET:=H_ ((HAT1.out.fr0 hf3).setPair at2 z2 Hz2.out HPV.out (key2,m) y HM.out);have hi0:(0:Int)<=(i:Int):=(by omega);clear d0 b1 zf0 zf1 hzff
        go_region
        have hset:=HSET.out;have hsz:((w3.setCell ⟨pb,po+i * 2,none⟩ (.string y.1)).setCell ⟨pb,po+i * 2+1,none⟩ (.int .i64 y.2)).heap.size=w3.heap.size:=(by simp);generalize (w3.setCell ⟨pb,po+i * 2,none⟩ (.string y.1)).setCell ⟨pb,po+i * 2+1,none⟩ (.int .i64 y.2)=X at hset hsz ⊢
        have hal:=zad X (.cells #[.string y.1,.int .i64 y.2] 122) _ rfl;rw [hsz] at hal;have hy0:(X.alloc (.cells #[.string y.1,.int .i64 y.2] 122)).drew.cell? ⟨w3.heap.size,0,none⟩=some (.string y.1):=((Fr.refl No _).drew).cell0 (by simp [World.cell?,hal]);have hq4:=hset.fr0 ((Fr.refl No X).alloc (.cells #[.string y.1,.int .i64 y.2] 122)).drew;generalize (X.alloc (.cells #[.string y.1,.int .i64 y.2] 122)).drew=W4 at hq4 hy0 ⊢
        have HQ4:=H_ hq4;clear hq4 hset hal hsz;go_upto_region 15 with fail
        go_quiet (fail)
        have hq5:=HQ4.out.fr0 (Fr.drewN No _ nq);generalize W4.drewN nq=W5 at hq5 ⊢
        have HGQ:=H_ (HGZ.out.step (A':=A2.set at2 ⟨z2.nd.pairs.set i y,z2.nd.kids⟩) ⟨_,_,_,hq5.r,by rw [zav,HZ2.out],fun b=>Iff.rfl⟩ hq5.fr hq5.new);clear hq5
        try go_wp2_with fail
        go_roundg q
        case rel=>exact ⟨_,_,l,y.1,_,rfl,rfl,HGQ,HS5,HRQ,H_ (by rw [List.length_set];exact HL.out)⟩
        case measure=>omega
      have hl5z:¬ (4:Int) < (zl.nd.pairs.length:Int):=by omega
      by_cases hr5:4 < zr.nd.pairs.length
      · have hr5z:(4:Int) < (zr.nd.pairs.length:Int):=by omega
        have hs5:=HN5.out hl5 hr5;have hend:=znp W1 t _ fv2 Z2 fl2 root many HAT1.out.r hzl2 r false q (by rw [HZ2.out];exact hs5.1);rw [HZ2.out] at hend;have HS5:=H_ hs5.2;have HR5:=HRR.out;rw [if_neg hl5,if_pos hr5] at HR5;have HRQ:=H_ HR5;clear hs5 HR5 HRR;generalize endA q A2 r false=y at hend HS5 HRQ;go_upto_region 18 with (go_at_call 172;refine hend.mono ?_;clear hend;rintro e w3 ⟨rfl,hf3⟩);have d0':=hf3.cell0 d0;have b1':=hf3.cell0 b1;have hlt3:t < w3.heap.size:=(by have:=hf3.size;omega);have hlpb3:pb < w3.heap.size:=(by have:=hf3.size;omega);have hnb3:nb2 < w3.heap.size:=(by have:=hf3.size;have:=HAT1.out.r.nodes.lt nb2 rfl;omega);have e0:=hf3.cell0 zf0;have e1:=hf3.cell0 zf1
        have ef:∀ j,w3.frozen? ⟨pb,j,none⟩=false:=by
         have h:=(HAT1.out.fr0 hf3).r.pairs at2 z2 Hz2.out;rw [HPV.out] at h;exact h.free
        have HSET:=H_ ((HAT1.out.fr0 hf3).setPair at2 z2 Hz2.out HPV.out (key2,m) y HM.out);have hi0:(0:Int)<=(i:Int):=(by omega);clear d0 b1 zf0 zf1 hzff
        go_region
        have hset:=HSET.out;have hsz:((w3.setCell ⟨pb,po+i * 2,none⟩ (.string y.1)).setCell ⟨pb,po+i * 2+1,none⟩ (.int .i64 y.2)).heap.size=w3.heap.size:=(by simp);generalize (w3.setCell ⟨pb,po+i * 2,none⟩ (.string y.1)).setCell ⟨pb,po+i * 2+1,none⟩ (.int .i64 y.2)=X at hset hsz ⊢
        have hal:=zad X (.cells #[.string y.1,.int .i64 y.2] 122) _ rfl;rw [hsz] at hal;have hy0:(X.alloc (.cells #[.string y.1,.int .i64 y.2] 122)).drew.cell? ⟨w3.heap.size,0,none⟩=some (.string y.1):=((Fr.refl No _).drew).cell0 (by simp [World.cell?,hal]);have hq4:=hset.fr0 ((Fr.refl No X).alloc (.cells #[.string y.1,.int .i64 y.2] 122)).drew;generalize (X.alloc (.cells #[.string y.1,.int .i64 y.2] 122)).drew=W4 at hq4 hy0 ⊢
        have HQ4:=H_ hq4;clear hq4 hset hal hsz;go_upto_region 19 with fail
        go_quiet (fail)
        have hq5:=HQ4.out.fr0 (Fr.drewN No _ nq);generalize W4.drewN nq=W5 at hq5 ⊢
        have HGQ:=H_ (HGZ.out.step (A':=A2.set at2 ⟨z2.nd.pairs.set i y,z2.nd.kids⟩) ⟨_,_,_,hq5.r,by rw [zav,HZ2.out],fun b=>Iff.rfl⟩ hq5.fr hq5.new);clear hq5
        try go_wp2_with fail
        go_roundg q
        case rel=>exact ⟨_,_,r,y.1,_,rfl,rfl,HGQ,HS5,HRQ,H_ (by rw [List.length_set];exact HL.out)⟩
        case measure=>omega
      have hr5z:¬ (4:Int) < (zr.nd.pairs.length:Int):=by omega
      have hjoin:=zhh W1 t A2 fl2 root many F2 HZ1.out at2 i HN1.out (by rw [<-HND.out];exact HIL.out) hA2;have HS5:=H_ (HN6.out hl5 hr5);have HR5:=HRR.out;rw [if_neg hl5,if_neg hr5] at HR5;have HRQ:=H_ HR5;clear HR5 HRR;go_wp2_with (go_at_call 173;refine hjoin.mono ?_;clear hjoin;rintro e w3 ⟨rfl,F3,hz3,hf3,hn3⟩);rw [HKRA.out] at hz3;have HGQ:=H_ (HGZ1.out.step hz3 hf3 hn3);clear hz3 hf3 hn3;go_roundg q
      case rel=>exact ⟨_,_,l,key2,F3,rfl,rfl,HGQ,HS5,HRQ,H_ ((ztj A2 at2 i).trans HL.out)⟩
      case measure=>omega
open Go Go.Proofs Go.RowKit Go.Shelf
attribute [local go_sem] Oper.semAt_some
theorem TreeR.keep {w w':World} {t:Nat} {nv fv:Value} {Z:List Nz} {fl:List Nat} {root:Nat} {many:Int} (h:TreeR w t nv fv Z fl root many) (hk:∀ b,treeF t nv fv Z b->w'.heap[b]? = w.heap[b]?):TreeR w' t nv fv Z fl root many where
 obj:=by obtain ⟨e,he⟩:=h.obj;exact ⟨e,(hk t (.inl rfl)).trans he⟩
 nodes:=Sl.keep h.nodes fun b hb=>hk b (.inr (.inl hb))
 free:=Sl.keep h.free fun b hb=>hk b (.inr (.inr (.inl hb)))
 pairs i z hz:=Sl.keep (h.pairs i z hz) fun b hb=>hk b (.inr (.inr (.inr ⟨i,z,hz,.inl hb⟩)))
 kids i z hz:=Sl.keep (h.kids i z hz) fun b hb=>hk b (.inr (.inr (.inr ⟨i,z,hz,.inr hb⟩)))
 a1:=h.a1
 a2:=h.a2
 a3:=h.a3
 a4:=h.a4
structure zer (W:World) (t n₀ Bo:Nat) (nv fv:Value) (Z:List Nz) (fl:List Nat) (root:Nat) (many:Int):Prop where
 r:TreeR W t nv fv Z fl root many
 size:n₀<=W.heap.size
 low:∀ b,treeF t nv fv Z b->b < n₀/\b≠Bo
 few:Z.length<=1099511627
theorem zer.kp {W W':World} {t n₀ Bo:Nat} {nv fv:Value} {Z:List Nz} {fl:List Nat} {root:Nat} {many:Int} (h:zer W t n₀ Bo nv fv Z fl root many) (k:KpR n₀ Bo W W'):zer W' t n₀ Bo nv fv Z fl root many :=
 ⟨h.r.keep fun b hb=>k.low b (h.low b hb).1 (h.low b hb).2,Nat.le_trans h.size k.size,h.low,h.few⟩
set_option maxHeartbeats 1000000 in
theorem zuj (n l t n₀ Bo:Nat) (hBo:Bo < n₀) (nv fv:Value) (Z:List Nz) (fl:List Nat) (root:Nat) (many:Int) (frm:ByteArray) (J Jx:Pairs->World->Prop) (N:Nat)
 (hJ:∀ pre W W',J pre W->Fr No W W'->J pre W')
 (hY:∀ m pre x W,J pre W->pre.length < N->YieldAt Fence.wide m Tryz.prog l (zee x) W fun e W' =>
   (e = .returned (.bool true)/\J (pre++[x]) W'/\KpR n₀ Bo W W')\/(e = .returned (.bool false)/\Jx (pre++[x]) W'))
 (at_:Nat) (z:Nz) (hz:Z[at_]? = some z) (h9:z.nd.pairs.length<=9) (hk0:z.nd.kids = []) (pre0:Pairs) (hN:pre0.length+(z.nd.pairs.drop (spotOf z.nd.pairs frm)).length<=N)
 (W:World) (h:zer W t n₀ Bo nv fv Z fl root many) (h0:J pre0 W) :
 CallsIn Fence.wide n Tryz.prog 153 #[.pointer (some ⟨t,0,none⟩),.int .i64 at_,.string frm,.func (.yield l) #[] #[]] W fun e W' =>
  (e = .returned (.bool true)/\J (pre0++z.nd.pairs.drop (spotOf z.nd.pairs frm)) W'/\KpR n₀ Bo W W')\/(e = .returned (.bool false)/\∃ pre,pre <+: z.nd.pairs.drop (spotOf z.nd.pairs frm)/\Jx (pre0++pre) W'):=by
 have hsp:=spotZ h.r at_ z hz h9 h.few frm;unfold zbs at hsp;have hzl:=h.few;have hatl:at_ < Z.length:=(List.getElem?_eq_some_iff.1 hz).1;obtain ⟨nb,no,cap,rfl,hcap⟩:=h.r.headLen (by omega);have c0:=h.r.obj.cell 0 rfl;obtain ⟨n0,n1,_,_⟩:=h.r.look at_ z hz;obtain ⟨pa,pcap,hpv,hc3,hc4,hpa⟩:=(h.r.pairs at_ z hz).shape;obtain ⟨ka,kcap,hkv,hc5,hc6,hka⟩:=(h.r.kids at_ z hz).shape;have hkl:z.nd.kids.length=0:=by rw [hk0];rfl
 rw [hpv] at n0;rw [hkv,hkl] at n1;have hsl:=zbm z.nd.pairs frm;have hatz:(at_:Int) < (Z.length:Int):=by omega
 have hltW:t < W.heap.size:=h.r.obj.lt;have hlnb:nb < W.heap.size:=h.r.nodes.lt nb rfl;have H:=H_ h;have HA:=H_ hpa;have HZ:=H_ hz;have HPV:=H_ hpv;have hsz0:=h.size;clear h hpa hz hpv hkv hka hk0 hkl;refine callsIn_of_wp Tryz.func153 rfl trivial ?_ rfl;simp only [Tryz.ntmps153,List.size_toArray,List.length_cons,List.length_nil,Nat.reduceAdd,Nat.reduceSub,Array.replicate_succ,Array.replicate_zero,List.push_toArray,List.append_toArray,List.nil_append,List.cons_append];generalize hitOf z.nd.pairs frm=hit at hsp;generalize spotOf z.nd.pairs frm=s0 at *;cases hit
 all_goals
  gi_wp2_with (refine ⟨trivial,hdd _,?_⟩;gi_at_call 157;refine (callsIn_wide.2 hsp).mono ?_;clear hsp;rintro e w' ⟨rfl,rfl⟩)
  refine ⟨trivial,?_⟩
  gi_wp2
  gi_loopw [9] (fun i wr=>∃ k:Nat,s0<=k/\k<=z.nd.pairs.length/\i = .int .i64 k/\Hid (J (pre0++(z.nd.pairs.drop s0).take (k - s0)) wr)/\KpR n₀ Bo W wr/\wr.heap[W.heap.size]? = some (.cells #[.slice pa z.nd.pairs.length pcap,.slice ka 0 kcap] 231 (0,0)))
   (fun i _=>z.nd.pairs.length - (intOf i).toNat)
  case atStart=>exact ⟨s0,Nat.le_refl _,hsl,rfl,H_ (by simpa using hJ _ _ _ h0 ((Fr.refl _ W).alloc _)),KpR.of_fr ((Fr.refl No W).alloc _) hsz0 (fun _ s=>s.elim),heap_alloc_new _ _⟩
  case round =>
   obtain ⟨k,hk1,hk2,rfl,hJs,hKp,hbp⟩:=hrel;have p0:wr.cell? ⟨W.heap.size,0,none⟩=some (.slice pa z.nd.pairs.length pcap):=(by simp [World.cell?,hbp]);have p1:wr.cell? ⟨W.heap.size,1,none⟩=some (.slice ka 0 kcap):=(by simp [World.cell?,hbp]);by_cases hlt:k < z.nd.pairs.length
   · obtain ⟨pb,po,rfl⟩:=HA.out (by omega)
     obtain ⟨x,hx⟩:∃ x,z.nd.pairs[k]? = some x:=⟨_,List.getElem?_eq_getElem hlt⟩
     have hpw:SlF wr 122 2 pairC (.slice (some ⟨pb,po,none⟩) z.nd.pairs.length pcap) z.nd.pairs:=by
      have:=(H.out.kp hKp).r.pairs at_ z HZ.out
      rwa [HPV.out] at this
     have x0:=hpw.cell0 zag k hx rfl;have x1:=hpw.cell zag k 1 hx rfl;obtain ⟨fn,tmps,assign,body,hy,hR⟩:=hY (n - 1) _ x wr hJs.out (by simp at hN ⊢;omega);dsimp only [zee] at hy;have hkz:(k:Int) < (z.nd.pairs.length:Int):=(by omega);have HX:=H_ hx;have hbl2:n₀<=wr.heap.size:=Nat.le_trans hsz0 hKp.size;have hpbl:pb < wr.heap.size:=hpw.lt pb rfl;clear hx hpw
     gi_wp2
     refine ⟨hdd _,hR.mono ?_⟩;rintro e W3 (⟨rfl,hJ3,hk3⟩ | ⟨rfl,hJx3⟩)
     · have hb3:=(hk3.rows _ _ _ _ hbp (by decide) (by omega)).trans hbp
       have q0:W3.cell? ⟨W.heap.size,0,none⟩=some (.slice (some ⟨pb,po,none⟩) z.nd.pairs.length pcap):=(by simp [World.cell?,hb3]);have q1:W3.cell? ⟨W.heap.size,1,none⟩=some (.slice ka 0 kcap):=(by simp [World.cell?,hb3])
       have hst:(z.nd.pairs.drop s0).take (k - s0)++[x] = (z.nd.pairs.drop s0).take (k+1 - s0):=by
        rw [show k+1 - s0=(k - s0)+1 from by omega,List.take_add_one,List.getElem?_drop,show s0+(k - s0)=k from by omega,HX.out]
        rfl
       rw [List.append_assoc,hst] at hJ3;have HJ3:=H_ hJ3;clear hJ3 hst hJs p0 p1 x0 x1
       gi_wp2
       refine ⟨trivial,?_⟩
       gi_wp2
       go_roundw
       case rel=>exact ⟨k+1,by omega,by omega,by go_num,HJ3,hKp.trans hk3,hb3⟩
       case measure=>simp [intOf];omega
     have hst:(z.nd.pairs.drop s0).take (k - s0)++[x] = (z.nd.pairs.drop s0).take (k+1 - s0):=by
      rw [show k+1 - s0=(k - s0)+1 from by omega,List.take_add_one,List.getElem?_drop,show s0+(k - s0)=k from by omega,HX.out]
      rfl
     rw [List.append_assoc,hst] at hJx3;have HJ3:=H_ hJx3;clear hJx3 hst hJs p0 p1 x0 x1
     gi_wp2
     go_ret;exact .inr ⟨rfl,_,List.take_prefix _ _,HJ3.out⟩
   obtain rfl:k=z.nd.pairs.length:=by omega
   gi_wp2
   go_ret;exact .inl ⟨rfl,by have:=hJs.out;rwa [List.take_of_length_le (by simp)] at this,hKp⟩
attribute [local go_sem] Oper.semAt_some
theorem zpx (f:Nat->Pairs):∀ (P:Pairs) (K:List Nat) (p:ByteArray × Int) (k:Nat),K.length=P.length->rwv f (P++[p]) (K++[k])=rwv f P K++p :: f k
 | [],[],p,k,_=>by simp [rwv]
 | [],_ :: _,_,_,h=>by simp at h
 | _ :: _,[],_,_,h=>by simp at h
 | q :: P,c :: K,p,k,h=>by simp [rwv,zpx f P K p k (by simpa using h)]
def zie (n₀ Bo:Nat) (J Jx:Pairs->World->Prop) (pre0 S:Pairs) (W:World) (e:Ending) (W':World):Prop :=
 (e = .returned (.bool true)/\J (pre0++S) W'/\KpR n₀ Bo W W')\/(e = .returned (.bool false)/\∃ pre,pre <+: S/\Jx (pre0++pre) W')
def segW (f:Nat->Pairs) (P:Pairs) (K:List Nat) (s0 k:Nat):Pairs:=rwv f ((P.drop s0).take (k - s0)) ((K.drop (s0+1)).take (k - s0))
theorem zmj (f:Nat->Pairs) (P:Pairs) (K:List Nat) (s0:Nat):segW f P K s0 s0 = []:=by unfold segW;simp [rwv]
theorem zim (f:Nat->Pairs) (P:Pairs) (K:List Nat) (s0 k:Nat) (x:ByteArray × Int) (c:Nat) (h:s0<=k) (hx:P[k]? = some x) (hc:K[k+1]? = some c) (hl:K.length=P.length+1):segW f P K s0 (k+1)=segW f P K s0 k++x :: f c:=by
 have hk:=(List.getElem?_eq_some_iff.1 hx).1;unfold segW;rw [show k+1 - s0=(k - s0)+1 by omega,List.take_add_one,List.take_add_one,List.getElem?_drop,List.getElem?_drop,show s0+(k - s0)=k by omega,show s0+1+(k - s0)=k+1 by omega,hx,hc];exact zpx f _ _ x c (by simp;omega)
theorem zkr (f:Nat->Pairs) (P:Pairs) (K:List Nat) (s0:Nat) (hl:K.length=P.length+1):segW f P K s0 P.length=rwv f (P.drop s0) (K.drop (s0+1)):=by
 unfold segW;rw [List.take_of_length_le (by simp),List.take_of_length_le (by simp;omega)]
theorem zgb (f:Nat->Pairs) (P:Pairs) (K:List Nat) (s0:Nat) (hl:K.length=P.length+1):∀ (m k:Nat),k+m=P.length->s0<=k->segW f P K s0 k <+: rwv f (P.drop s0) (K.drop (s0+1))
 | 0,k,h,_=>by obtain rfl:k=P.length:=by omega
               rw [zkr f P K s0 hl];exact List.prefix_refl _
 | m+1,k,h,hs=>by
   have ih:=zgb f P K s0 hl m (k+1) (by omega) (by omega);rw [zim f P K s0 k _ _ hs (List.getElem?_eq_getElem (by omega)) (List.getElem?_eq_getElem (by omega)) hl] at ih;exact (List.prefix_append _ _).trans ih
set_option maxHeartbeats 4000000 in
theorem zsh (n l t n₀ Bo:Nat) (hBo:Bo < n₀) (nv fv:Value) (Z:List Nz) (fl:List Nat) (root:Nat) (many:Int) (frm:ByteArray) (J Jx:Pairs->World->Prop) (N:Nat)
 (hJ:∀ pre W W',J pre W->Fr No W W'->J pre W')
 (hY:∀ m pre x W,J pre W->pre.length < N->YieldAt Fence.wide m Tryz.prog l (zee x) W fun e W' =>
   (e = .returned (.bool true)/\J (pre++[x]) W'/\KpR n₀ Bo W W')\/(e = .returned (.bool false)/\Jx (pre++[x]) W'))
 (at_:Nat) (z:Nz) (hz:Z[at_]? = some z) (h9:z.nd.pairs.length<=9) (hl:z.nd.kids.length=z.nd.pairs.length+1) (f:Nat->Pairs)
 (hIH:∀ (m c:Nat) (pre:Pairs) (W:World),c∈z.nd.kids->zer W t n₀ Bo nv fv Z fl root many->pre.length+(f c).length<=N->J pre W →
   CallsIn Fence.wide m Tryz.prog 153 #[.pointer (some ⟨t,0,none⟩),.int .i64 c,.string frm,.func (.yield l) #[] #[]] W (zie n₀ Bo J Jx pre (f c) W))
 (pre0 first:Pairs) (hfirst:first=if hitOf z.nd.pairs frm then [] else f (z.nd.kids.getD (spotOf z.nd.pairs frm) 0))
 (hN:pre0.length+(first++rwv f (z.nd.pairs.drop (spotOf z.nd.pairs frm)) (z.nd.kids.drop (spotOf z.nd.pairs frm+1))).length<=N)
 (W:World) (h:zer W t n₀ Bo nv fv Z fl root many) (h0:J pre0 W) :
 CallsIn Fence.wide n Tryz.prog 153 #[.pointer (some ⟨t,0,none⟩),.int .i64 at_,.string frm,.func (.yield l) #[] #[]] W
  (zie n₀ Bo J Jx pre0 (first++rwv f (z.nd.pairs.drop (spotOf z.nd.pairs frm)) (z.nd.kids.drop (spotOf z.nd.pairs frm+1))) W):=by
 have hsp:=spotZ h.r at_ z hz h9 h.few frm;unfold zbs at hsp;have hzl:=h.few;have hatl:at_ < Z.length:=(List.getElem?_eq_some_iff.1 hz).1;obtain ⟨nb,no,cap,rfl,hcap⟩:=h.r.headLen (by omega);have c0:=h.r.obj.cell 0 rfl;obtain ⟨n0,n1,_,_⟩:=h.r.look at_ z hz;obtain ⟨pa,pcap,hpv,hc3,hc4,hpa⟩:=(h.r.pairs at_ z hz).shape;obtain ⟨ka,kcap,hkv,hc5,hc6,hka⟩:=(h.r.kids at_ z hz).shape;obtain ⟨kb,ko,rfl⟩:=hka (by omega);rw [hpv] at n0;rw [hkv] at n1;have hsl:=zbm z.nd.pairs frm;have hatz:(at_:Int) < (Z.length:Int):=by omega
 have hltW:t < W.heap.size:=h.r.obj.lt;have hlnb:nb < W.heap.size:=h.r.nodes.lt nb rfl;have hkb:kb < n₀/\kb≠Bo:=h.low kb (.inr (.inr (.inr ⟨at_,z,hz,.inr (by rw [hkv];rfl)⟩)));obtain ⟨c,hc⟩:∃ c,z.nd.kids[spotOf z.nd.pairs frm]? = some c:=⟨_,List.getElem?_eq_getElem (by omega)⟩;have hcd:z.nd.kids.getD (spotOf z.nd.pairs frm) 0=c:=by simp [List.getD,hc]
 rw [hcd] at hfirst;have hkk:=h.r.kids at_ z hz;rw [hkv] at hkk;have k0:=hkk.cell1 zah _ hc rfl;have hcm:=List.mem_of_getElem? hc;have H:=H_ h;have HA:=H_ hpa;have HZ:=H_ hz;have HPV:=H_ hpv;have HKV:=H_ hkv;have HIH:=H_ hIH;have HFI:=H_ hfirst;have HN:=H_ hN;have HL:=H_ hl;have HCM:=H_ hcm;have hsz0:=h.size;have hlkb:kb < W.heap.size:=by omega
 have hkz:(0:Int) < (z.nd.kids.length:Int):=by omega
 have hsz:(spotOf z.nd.pairs frm:Int) < (z.nd.kids.length:Int):=by omega
 have hBW:Bo < W.heap.size:=by omega
 clear h hpa hz hpv hkv hka hIH hfirst hN hl hkk hcd hc hcm;refine callsIn_of_wp Tryz.func153 rfl trivial ?_ rfl;simp only [Tryz.ntmps153,List.size_toArray,List.length_cons,List.length_nil,Nat.reduceAdd,Nat.reduceSub,Array.replicate_succ,Array.replicate_zero,List.push_toArray,List.append_toArray,List.nil_append,List.cons_append];generalize hitOf z.nd.pairs frm=hit at *;generalize spotOf z.nd.pairs frm=s0 at *;have hA0:Fr No W (W.alloc (Obj.cells #[.slice pa z.nd.pairs.length pcap,.slice (some ⟨kb,ko,none⟩) z.nd.kids.length kcap] 231)):=(Fr.refl No W).alloc _;have hkp0:KpR n₀ Bo W (W.alloc (Obj.cells #[.slice pa z.nd.pairs.length pcap,.slice (some ⟨kb,ko,none⟩) z.nd.kids.length kcap] 231)):=KpR.of_fr hA0 hsz0 (fun _ s=>s.elim)
 have hb0:(W.alloc (Obj.cells #[.slice pa z.nd.pairs.length pcap,.slice (some ⟨kb,ko,none⟩) z.nd.kids.length kcap] 231)).heap[W.heap.size]? = some (.cells #[.slice pa z.nd.pairs.length pcap,.slice (some ⟨kb,ko,none⟩) z.nd.kids.length kcap] 231 (0,0)):=heap_alloc_new _ _;have HA0:=H_ hA0;have HKP0:=H_ hkp0;have HB0:=H_ hb0;have HJ0:=H_ (hJ _ _ _ h0 hA0);clear hA0 hkp0 hb0 h0;cases hit
 · have hff:first=f c:=by have:=HFI.out;simpa using this
   have hih:=HIH.out (n - 1) c pre0 _ HCM.out (H.out.kp HKP0.out) (by have:=HN.out;rw [hff] at this;simp only [List.length_append] at this;omega) HJ0.out;have HI1:=H_ hih;have HFF:=H_ hff;clear hih hff
   gi_wp2_with (first
    | (refine ⟨trivial,hdd _,?_⟩;gi_at_call 157;refine (callsIn_wide.2 hsp).mono ?_;clear hsp;rintro e w' ⟨rfl,rfl⟩)
    | (refine ⟨trivial,hdd _,?_⟩;gi_at_call 153;refine HI1.out.mono ?_;rintro e w2 (⟨rfl,hJ2,hk2⟩ | ⟨rfl,pre,hpre,hx⟩)))
   · have hb2:=(hk2.rows _ _ _ _ HB0.out (by decide) (by omega)).trans HB0.out
     have HB2:=H_ hb2;have HJ2:Hid (J (pre0++first) w2):=H_ (by rw [HFF.out];exact hJ2);have HK2:=H_ (HKP0.out.trans hk2);clear hb2 hJ2 hk2 k0 n0 n1 c0;have hb2:w2.heap[W.heap.size]? = some (.cells #[.slice pa z.nd.pairs.length pcap,.slice (some ⟨kb,ko,none⟩) z.nd.kids.length kcap] 231 (0,0)):=HB2.out;have q0:w2.cell? ⟨W.heap.size,0,none⟩=some (.slice pa z.nd.pairs.length pcap):=(by simp [World.cell?,hb2]);have q1:w2.cell? ⟨W.heap.size,1,none⟩=some (.slice (some ⟨kb,ko,none⟩) z.nd.kids.length kcap):=(by simp [World.cell?,hb2]);clear hb2
     gi_wp2
     gi_loopw [9] (fun i wr=>∃ k:Nat,s0<=k/\k<=z.nd.pairs.length/\i = .int .i64 k/\Hid (J (pre0++first++segW f z.nd.pairs z.nd.kids s0 k) wr)/\Hid (KpR n₀ Bo W wr)/\wr.heap[W.heap.size]? = some (.cells #[.slice pa z.nd.pairs.length pcap,.slice (some ⟨kb,ko,none⟩) z.nd.kids.length kcap] 231 (0,0)))
      (fun i _=>z.nd.pairs.length - (intOf i).toNat)
     case atStart=>exact ⟨s0,Nat.le_refl _,hsl,rfl,H_ (by rw [zmj,List.append_nil];exact HJ2.out),HK2,HB2.out⟩
     case round =>
      obtain ⟨k,hk1,hk2,rfl,hJs,hKp,hbp⟩:=hrel;have p0:wr.cell? ⟨W.heap.size,0,none⟩=some (.slice pa z.nd.pairs.length pcap):=(by simp [World.cell?,hbp]);have p1:wr.cell? ⟨W.heap.size,1,none⟩=some (.slice (some ⟨kb,ko,none⟩) z.nd.kids.length kcap):=(by simp [World.cell?,hbp]);by_cases hlt:k < z.nd.pairs.length
      · obtain ⟨pb,po,rfl⟩:=HA.out (by omega)
        obtain ⟨x,hx⟩:∃ x,z.nd.pairs[k]? = some x:=⟨_,List.getElem?_eq_getElem hlt⟩;obtain ⟨c',hc'⟩:∃ c',z.nd.kids[k+1]? = some c':=⟨_,List.getElem?_eq_getElem (by have:=HL.out;omega)⟩;have hWk:=H.out.kp hKp.out
        have hpw:SlF wr 122 2 pairC (.slice (some ⟨pb,po,none⟩) z.nd.pairs.length pcap) z.nd.pairs:=by
         have:=hWk.r.pairs at_ z HZ.out
         rwa [HPV.out] at this
        have x0:=hpw.cell0 zag k hx rfl;have x1:=hpw.cell zag k 1 hx rfl;have hpf:=zgb f z.nd.pairs z.nd.kids s0 HL.out (z.nd.pairs.length - (k+1)) (k+1) (by omega) (by omega);have hsu:=zim f z.nd.pairs z.nd.kids s0 k x c' hk1 hx hc' HL.out;have hpl:=hpf.length_le;have hNN:=HN.out
        have hlen1:(pre0++first++segW f z.nd.pairs z.nd.kids s0 k).length < N:=by
         rw [hsu] at hpl;simp only [List.length_append,List.length_cons] at hpl hNN ⊢
         omega
        have hlen2:(pre0++first++segW f z.nd.pairs z.nd.kids s0 k++[x]).length+(f c').length<=N:=by
         rw [hsu] at hpl;simp only [List.length_append,List.length_cons,List.length_nil] at hpl hNN ⊢
         omega
        obtain ⟨fn,tmps,assign,body,hy,hR⟩:=hY (n - 1) _ x wr hJs.out hlen1;dsimp only [zee] at hy;have hkz2:(k:Int) < (z.nd.pairs.length:Int):=(by omega);have hkz3:(k:Int)+1 < (z.nd.kids.length:Int):=(by have:=HL.out;omega);have hkz4:(0:Int)<=(k:Int)+1:=(by omega);have hkz5:((k:Int)+1).toNat=k+1:=(by omega);have HX:=H_ hx;have HC':=H_ hc';have HSU:=H_ hsu;have HPF:=H_ hpf;have hbl2:n₀<=wr.heap.size:=Nat.le_trans hsz0 hKp.out.size;have hpbl:pb < wr.heap.size:=hpw.lt pb rfl;have hWlt:W.heap.size < wr.heap.size:=zac hbp;clear hx hpw hc' hsu hpf hpl hNN hlen1
        gi_wp2
        refine ⟨hdd _,hR.mono ?_⟩;rintro e W3 (⟨rfl,hJ3,hk3⟩ | ⟨rfl,hJx3⟩)
        · have hb3:=(hk3.rows _ _ _ _ hbp (by decide) (by omega)).trans hbp
          have q0:W3.cell? ⟨W.heap.size,0,none⟩=some (.slice (some ⟨pb,po,none⟩) z.nd.pairs.length pcap):=(by simp [World.cell?,hb3]);have q1:W3.cell? ⟨W.heap.size,1,none⟩=some (.slice (some ⟨kb,ko,none⟩) z.nd.kids.length kcap):=(by simp [World.cell?,hb3]);have hW3:=hWk.kp hk3
          have hkq:W3.cell? ⟨kb,ko+(k+1),none⟩=some (.int .i64 (c':Int)):=by
           have hh:=hW3.r.kids at_ z HZ.out;rw [HKV.out] at hh;exact hh.cell1 zah _ HC'.out rfl
          have hkb3:kb < W3.heap.size:=World.block_lt_of_cell? _ _ hkq;have hih:=HIH.out (n - 1) c' _ W3 (List.mem_of_getElem? HC'.out) hW3 hlen2 hJ3;have HI2:=H_ hih;have HKP3:=H_ hk3;have HB3:=H_ hb3;clear hJ3 hJs p0 p1 x0 x1 hih hk3 hb3 hW3 hWk hlen2
          gi_wp2_with (first
           | (refine ⟨trivial,hdd _,?_⟩;gi_at_call 153;refine HI2.out.mono ?_;rintro e w4 (⟨rfl,hJ4,hk4⟩ | ⟨rfl,pre,hpre,hx4⟩)))
          · have hb4:=(hk4.rows _ _ _ _ HB3.out (by decide) (by omega)).trans HB3.out
            have HJ4:=H_ hJ4;have HK4:=H_ hk4;clear hJ4 hk4
            gi_wp2
            go_roundw
            case rel =>
             refine ⟨k+1,by omega,by omega,by go_num,H_ ?_,H_ ((hKp.out.trans HKP3.out).trans HK4.out),hb4⟩;have:=HJ4.out;rw [HSU.out];simpa using this
            case measure=>simp [intOf];omega
          have HX4:=H_ hx4
          have HPRE:=H_ hpre;clear hx4 hpre
          gi_wp2
          go_ret;refine .inr ⟨rfl,first++(segW f z.nd.pairs z.nd.kids s0 k++x :: pre),?_,by have:=HX4.out;simpa using this⟩;refine (List.prefix_append_right_inj first).2 (List.IsPrefix.trans ?_ HPF.out);rw [HSU.out];refine (List.prefix_append_right_inj _).2 ?_;exact List.cons_prefix_cons.2 ⟨rfl,HPRE.out⟩
        have HJ3:=H_ hJx3
        clear hJx3 hJs p0 p1 x0 x1 hWk
        gi_wp2
        go_ret;refine .inr ⟨rfl,first++(segW f z.nd.pairs z.nd.kids s0 k++[x]),?_,by have:=HJ3.out;simpa using this⟩;refine (List.prefix_append_right_inj first).2 (List.IsPrefix.trans ?_ HPF.out);rw [HSU.out];refine (List.prefix_append_right_inj _).2 ?_;exact List.cons_prefix_cons.2 ⟨rfl,List.nil_prefix⟩
      obtain rfl:k=z.nd.pairs.length:=by omega
      gi_wp2
      go_ret;exact .inl ⟨rfl,by have:=hJs.out;rw [zkr f _ _ _ HL.out,List.append_assoc] at this;exact this,hKp.out⟩
   have HX:=H_ hx
   have HPRE:=H_ hpre;clear hx hpre
   gi_wp2
   go_ret;refine .inr ⟨rfl,pre,?_,HX.out⟩;rw [HFF.out];exact HPRE.out.trans (List.prefix_append _ _)
 have hff:first = []:=by have:=HFI.out;simpa using this
 gi_wp2_with (first
  | (refine ⟨trivial,hdd _,?_⟩;gi_at_call 157;refine (callsIn_wide.2 hsp).mono ?_;clear hsp;rintro e w' ⟨rfl,rfl⟩))
 refine ⟨trivial,?_⟩;have HB2:=HB0;have HJ2:Hid (J (pre0++first) _):=H_ (by rw [hff,List.append_nil];exact HJ0.out);have HK2:=HKP0;generalize (W.alloc (Obj.cells #[.slice pa z.nd.pairs.length pcap,.slice (some ⟨kb,ko,none⟩) z.nd.kids.length kcap] 231))=w2 at *;have HFF:=H_ hff;clear hff k0 n0 n1 c0;have hb2:w2.heap[W.heap.size]? = some (.cells #[.slice pa z.nd.pairs.length pcap,.slice (some ⟨kb,ko,none⟩) z.nd.kids.length kcap] 231 (0,0)):=HB2.out;have q0:w2.cell? ⟨W.heap.size,0,none⟩=some (.slice pa z.nd.pairs.length pcap):=(by simp [World.cell?,hb2]);have q1:w2.cell? ⟨W.heap.size,1,none⟩=some (.slice (some ⟨kb,ko,none⟩) z.nd.kids.length kcap):=(by simp [World.cell?,hb2]);clear hb2
 gi_wp2
 gi_loopw [9] (fun i wr=>∃ k:Nat,s0<=k/\k<=z.nd.pairs.length/\i = .int .i64 k/\Hid (J (pre0++first++segW f z.nd.pairs z.nd.kids s0 k) wr)/\Hid (KpR n₀ Bo W wr)/\wr.heap[W.heap.size]? = some (.cells #[.slice pa z.nd.pairs.length pcap,.slice (some ⟨kb,ko,none⟩) z.nd.kids.length kcap] 231 (0,0)))
  (fun i _=>z.nd.pairs.length - (intOf i).toNat)
 case atStart=>exact ⟨s0,Nat.le_refl _,hsl,rfl,H_ (by rw [zmj,List.append_nil];exact HJ2.out),HK2,HB2.out⟩
 case round =>
  obtain ⟨k,hk1,hk2,rfl,hJs,hKp,hbp⟩:=hrel;have p0:wr.cell? ⟨W.heap.size,0,none⟩=some (.slice pa z.nd.pairs.length pcap):=(by simp [World.cell?,hbp]);have p1:wr.cell? ⟨W.heap.size,1,none⟩=some (.slice (some ⟨kb,ko,none⟩) z.nd.kids.length kcap):=(by simp [World.cell?,hbp]);by_cases hlt:k < z.nd.pairs.length
  · obtain ⟨pb,po,rfl⟩:=HA.out (by omega)
    obtain ⟨x,hx⟩:∃ x,z.nd.pairs[k]? = some x:=⟨_,List.getElem?_eq_getElem hlt⟩;obtain ⟨c',hc'⟩:∃ c',z.nd.kids[k+1]? = some c':=⟨_,List.getElem?_eq_getElem (by have:=HL.out;omega)⟩;have hWk:=H.out.kp hKp.out
    have hpw:SlF wr 122 2 pairC (.slice (some ⟨pb,po,none⟩) z.nd.pairs.length pcap) z.nd.pairs:=by
     have:=hWk.r.pairs at_ z HZ.out
     rwa [HPV.out] at this
    have x0:=hpw.cell0 zag k hx rfl;have x1:=hpw.cell zag k 1 hx rfl;have hpf:=zgb f z.nd.pairs z.nd.kids s0 HL.out (z.nd.pairs.length - (k+1)) (k+1) (by omega) (by omega);have hsu:=zim f z.nd.pairs z.nd.kids s0 k x c' hk1 hx hc' HL.out;have hpl:=hpf.length_le;have hNN:=HN.out
    have hlen1:(pre0++first++segW f z.nd.pairs z.nd.kids s0 k).length < N:=by
     rw [hsu] at hpl;simp only [List.length_append,List.length_cons] at hpl hNN ⊢
     omega
    have hlen2:(pre0++first++segW f z.nd.pairs z.nd.kids s0 k++[x]).length+(f c').length<=N:=by
     rw [hsu] at hpl;simp only [List.length_append,List.length_cons,List.length_nil] at hpl hNN ⊢
     omega
    obtain ⟨fn,tmps,assign,body,hy,hR⟩:=hY (n - 1) _ x wr hJs.out hlen1;dsimp only [zee] at hy;have hkz2:(k:Int) < (z.nd.pairs.length:Int):=(by omega);have hkz3:(k:Int)+1 < (z.nd.kids.length:Int):=(by have:=HL.out;omega);have hkz4:(0:Int)<=(k:Int)+1:=(by omega);have hkz5:((k:Int)+1).toNat=k+1:=(by omega);have HX:=H_ hx;have HC':=H_ hc';have HSU:=H_ hsu;have HPF:=H_ hpf;have hbl2:n₀<=wr.heap.size:=Nat.le_trans hsz0 hKp.out.size;have hpbl:pb < wr.heap.size:=hpw.lt pb rfl;have hWlt:W.heap.size < wr.heap.size:=zac hbp;clear hx hpw hc' hsu hpf hpl hNN hlen1
    gi_wp2
    refine ⟨hdd _,hR.mono ?_⟩;rintro e W3 (⟨rfl,hJ3,hk3⟩ | ⟨rfl,hJx3⟩)
    · have hb3:=(hk3.rows _ _ _ _ hbp (by decide) (by omega)).trans hbp
      have q0:W3.cell? ⟨W.heap.size,0,none⟩=some (.slice (some ⟨pb,po,none⟩) z.nd.pairs.length pcap):=(by simp [World.cell?,hb3]);have q1:W3.cell? ⟨W.heap.size,1,none⟩=some (.slice (some ⟨kb,ko,none⟩) z.nd.kids.length kcap):=(by simp [World.cell?,hb3]);have hW3:=hWk.kp hk3
      have hkq:W3.cell? ⟨kb,ko+(k+1),none⟩=some (.int .i64 (c':Int)):=by
       have hh:=hW3.r.kids at_ z HZ.out;rw [HKV.out] at hh;exact hh.cell1 zah _ HC'.out rfl
      have hkb3:kb < W3.heap.size:=World.block_lt_of_cell? _ _ hkq;have hih:=HIH.out (n - 1) c' _ W3 (List.mem_of_getElem? HC'.out) hW3 hlen2 hJ3;have HI2:=H_ hih;have HKP3:=H_ hk3;have HB3:=H_ hb3;clear hJ3 hJs p0 p1 x0 x1 hih hk3 hb3 hW3 hWk hlen2
      gi_wp2_with (first
       | (refine ⟨trivial,hdd _,?_⟩;gi_at_call 153;refine HI2.out.mono ?_;rintro e w4 (⟨rfl,hJ4,hk4⟩ | ⟨rfl,pre,hpre,hx4⟩)))
      · have hb4:=(hk4.rows _ _ _ _ HB3.out (by decide) (by omega)).trans HB3.out
        have HJ4:=H_ hJ4;have HK4:=H_ hk4;clear hJ4 hk4
        gi_wp2
        go_roundw
        case rel =>
         refine ⟨k+1,by omega,by omega,by go_num,H_ ?_,H_ ((hKp.out.trans HKP3.out).trans HK4.out),hb4⟩;have:=HJ4.out;rw [HSU.out];simpa using this
        case measure=>simp [intOf];omega
      have HX4:=H_ hx4
      have HPRE:=H_ hpre;clear hx4 hpre
      gi_wp2
      go_ret;refine .inr ⟨rfl,first++(segW f z.nd.pairs z.nd.kids s0 k++x :: pre),?_,by have:=HX4.out;simpa using this⟩;refine (List.prefix_append_right_inj first).2 (List.IsPrefix.trans ?_ HPF.out);rw [HSU.out];refine (List.prefix_append_right_inj _).2 ?_;exact List.cons_prefix_cons.2 ⟨rfl,HPRE.out⟩
    have HJ3:=H_ hJx3
    clear hJx3 hJs p0 p1 x0 x1 hWk
    gi_wp2
    go_ret;refine .inr ⟨rfl,first++(segW f z.nd.pairs z.nd.kids s0 k++[x]),?_,by have:=HJ3.out;simpa using this⟩;refine (List.prefix_append_right_inj first).2 (List.IsPrefix.trans ?_ HPF.out);rw [HSU.out];refine (List.prefix_append_right_inj _).2 ?_;exact List.cons_prefix_cons.2 ⟨rfl,List.nil_prefix⟩
  obtain rfl:k=z.nd.pairs.length:=by omega
  gi_wp2
  go_ret;exact .inl ⟨rfl,by have:=hJs.out;rw [zkr f _ _ _ HL.out,List.append_assoc] at this;exact this,hKp.out⟩
end Go.Proofs.YthljnnjpmdgkoaaGreat