/- Own lemmas and contracts that the claim's proof needs, laid together. The conditions stand in each. -/
import Derived.Test.YthljnnjpmdgkoaaGreatG33
import Derived.Test.YthljnnjpmdgkoaaGreatG31
import Derived.Test.YthljnnjpmdgkoaaGreatG01
import Derived.BigRegion
namespace Go.Proofs.YthljnnjpmdgkoaaGreat
open Go Go.Proofs Go.RowKit
set_option maxRecDepth 100000
set_option maxHeartbeats 8000000 in
theorem zow (w:World) (t:Nat) (A:Arr) (fl:List Nat) (root:Nat) (many:Int) (F:Nat->Prop) (at_ i k nb no cap:Nat) (fv:Value) (Z:List Nz) (za zk:Nz) (h:zlv w t A fl root many F at_ i k nb no cap fv Z za zk)
 (r:Nat) (zr:Nz) (p:ByteArray × Int) (hr:za.nd.kids[i+1]? = some r) (hgr:Z[r]? = some zr) (hr5:4 < zr.nd.pairs.length) (hr9:zr.nd.pairs.length<=9) (hp:za.nd.pairs[i]? = some p) (hkat:k≠at_) (hra:r≠at_) (hkr:k≠r) (hkw:zk.nd.kids = []\/zk.nd.kids.length=zk.nd.pairs.length+1) (hrw:zr.nd.kids = []\/zr.nd.kids.length=zr.nd.pairs.length+1) (hboth:zk.nd.kids = [] ↔ zr.nd.kids = []) :
 Calls Tryz.prog 171 #[.pointer (some ⟨t,0,none⟩),.int .i64 at_,.int .i64 i] w (zgj w t F (lendR A at_ i) fl root many):=by
 have hR:=h.at0.r;have hZl:=h.few;have hatl:at_ < Z.length:=(List.getElem?_eq_some_iff.1 h.ga).1;have hkl:k < Z.length:=(List.getElem?_eq_some_iff.1 h.gk).1;have c0:=hR.obj.cell 0 rfl;obtain ⟨a1,a2,a3,a4⟩:=hR.look at_ za h.ga;obtain ⟨k1,k2,k3,k4⟩:=hR.look k zk h.gk;obtain ⟨pa,pcap,hpv,hp1,hp2,hpa⟩:=(hR.pairs at_ za h.ga).shape;obtain ⟨ka,kcap,hkv,hq1,hq2,hka⟩:=(hR.kids at_ za h.ga).shape;obtain ⟨kpa,kpcap,hkpv,hkp1,hkp2,hkpa⟩:=(hR.pairs k zk h.gk).shape;have hlen:=h.len;have hil:=(List.getElem?_eq_some_iff.1 h.kk).1;obtain ⟨kb,ko,rfl⟩:=hka (by omega);have hkk:=hR.kids at_ za h.ga;rw [hkv] at a2 hkk;rw [hkpv] at k1;have kl:=hkk.cell1 zah i h.kk rfl;have hatz:(at_:Int) < (Z.length:Int):=by omega
 have hkz:(k:Int) < (Z.length:Int):=by omega
 have hiz:(i:Int) < (za.nd.kids.length:Int):=by omega
 have hi10:(i:Int)<=9:=by have:=h.a9;omega
 have hk4z:¬ (4:Int) < (zk.nd.pairs.length:Int):=by have:=h.k4;omega
 have hkl10:za.nd.kids.length<=10:=by have:=h.a9;omega
 have H:=H_ h;have HKK:=H_ hkk;have HKV:=H_ hkv;have HPV:=H_ hpv;have HKPV:=H_ hkpv;have HPA:=H_ hpa;have HKPA:=H_ hkpa;have hirl:=(List.getElem?_eq_some_iff.1 hr).1;have hgt:(i:Int)+1 < (za.nd.kids.length:Int):=by omega
 obtain ⟨pb,po,rfl⟩:=hpa (by omega);have kr:=hkk.cell1 zah (i+1) hr rfl;obtain ⟨r1,r2,r3,r4⟩:=hR.look r zr hgr;obtain ⟨rpa,rpcap,hrpv,hrp1,hrp2,hrpa⟩:=(hR.pairs r zr hgr).shape;obtain ⟨rb,ro,rfl⟩:=hrpa (by omega);rw [hrpv] at r1;have hrz:(r:Int) < (Z.length:Int):=by have:=(List.getElem?_eq_some_iff.1 hgr).1;omega
 have hrl:r < Z.length:=(List.getElem?_eq_some_iff.1 hgr).1;have hr4z:(4:Int) < (zr.nd.pairs.length:Int):=by omega
 have hiz0:(0:Int)<=(i:Int)+1:=by omega
 have hiz1:((i:Int)+1).toNat=i+1:=by omega
 have hipz:(i:Int) < (za.nd.pairs.length:Int):=by omega
 have hi0:(0:Int)<=(i:Int):=by omega
 have hrpz:(0:Int) < (zr.nd.pairs.length:Int):=by omega
 have hrpn:0 < zr.nd.pairs.length:=by omega
 obtain ⟨x,hx⟩:∃ x,zr.nd.pairs[0]? = some x:=⟨_,List.getElem?_eq_getElem (by omega)⟩
 have hj:lendR A at_ i=((A.set k ⟨zk.nd.pairs++[p],zk.nd.kids++zr.nd.kids.take 1⟩).set at_ ⟨za.nd.pairs.set i x,za.nd.kids⟩).set r ⟨zr.nd.pairs.drop 1,zr.nd.kids.drop 1⟩:=by
  have e1:kidA A at_ i=k:=(by unfold kidA;rw [<-h.ea];simp [List.getD,h.kk]);have e2:kidA A at_ (i+1)=r:=(by unfold kidA;rw [<-h.ea];simp [List.getD,hr]);have e3:ndA A k=zk.nd:=(by rw [<-h.nds];exact zog h.gk);have e4:ndA A r=zr.nd:=(by rw [<-h.nds];exact zog hgr);unfold lendR;rw [e1,e2,e3,e4,<-h.ea];simp [List.getD,hp,hx]
 have KR:=H_ kr;have RR1:=H_ r1;have HP:=H_ hp;have HX:=H_ hx;have HGR:=H_ hgr;have HRPV:=H_ hrpv;have HJ:=H_ hj;have HPVS:=H_ hpv;clear hr hgr r1 r2 r3 r4 kr hrpv hrpa hp hx hj;clear h hkv hpv hkpv hR hkk hlen hpa hkpa a3 a4 k2 k3 k4;go_enter Tryz.func171,Tryz.ntmps171;go_upto_region 2 with fail
 go_quiet (fail)
 have hf1:=Fr.drewN No w nq;generalize w.drewN nq=W1 at hf1 ⊢
 replace c0:=hf1.cell0 c0
 replace a1:=hf1.cell0 a1
 replace a2:=hf1.cell0 a2
 replace k1:=hf1.cell0 k1
 have HF1:=H_ hf1;clear hf1 kl;go_upto_if 38 with fail
 go_cut [57] (fun _ wx=>Hid (Fr No W1 wx))
 case first =>
  rcases H.out.left with rfl | ⟨m,ll,zll,rfl,hm,hgm,h4⟩
  · first
     | (exfalso;omega)
     | (go_wp2_with fail
        go_meet
        case rel=>exact H_ (Fr.refl No W1))
  have kl:=(HKK.out.fr0 HF1.out).cell1 zah m hm rfl
  obtain ⟨l1,_,_,_⟩:=(H.out.at0.r.fr0 HF1.out).look ll zll hgm;obtain ⟨lpa,lpcap,hlpv,_,_,_⟩:=(H.out.at0.r.pairs ll zll hgm).shape;rw [hlpv] at l1;have hmz:(m:Int) < (za.nd.kids.length:Int):=(by omega);have hllz:(ll:Int) < (Z.length:Int):=(by have:=(List.getElem?_eq_some_iff.1 hgm).1;omega);have hl4z:¬ (4:Int) < (zll.nd.pairs.length:Int):=(by omega);have hm0:(0:Int) < (m:Int)+1:=(by omega);have hw1:IntKind.i64.wrap ((m:Int)+1 - 1)=(m:Int):=(by rw [IntKind.wrap_i64];omega);have hw2:IntKind.i64.wrap (m:Int)=(m:Int):=(by rw [IntKind.wrap_i64];omega);have hw3:(0:Int)<=(m:Int):=(by omega);clear hm hgm hlpv h4;go_upto_region 6 with fail
  go_quiet (fail)
  clear hw1 hw2;have hf2:=Fr.drewN No W1 nq;generalize W1.drewN nq=W2 at hf2 ⊢
  replace l1:=hf2.cell0 l1
  have HF2:=H_ hf2;clear hf2 c0 a1 a2 k1;go_wp2_with fail;go_meet
  case rel=>exact HF2
 case rest =>
  have hfc:=hcut.out;have hZc:=(H.out.at0.fr0 HF1.out).fr0 hfc
  replace c0:=hfc.cell0 c0
  replace a1:=hfc.cell0 a1
  replace a2:=hfc.cell0 a2
  replace k1:=hfc.cell0 k1
  have HZC:=H_ hZc;have HFC:=H_ hfc;clear hfc hZc hcut;have kr:=((KR.out |> HF1.out.cell0) |> HFC.out.cell0);have r1:=((RR1.out |> HF1.out.cell0) |> HFC.out.cell0)
  have HKA:=H_ hkat;have HRA:=H_ hra;have HKR:=H_ hkr;have HKW:=H_ hkw;have HRW:=H_ hrw;have HBO:=H_ hboth;clear hkat hra hkr hkw hrw hboth;go_upto_region 17 with fail;have hw1:IntKind.i64.wrap ((i:Int)+1)=(i:Int)+1:=(by rw [IntKind.wrap_i64];omega)
  go_quiet (fail)
  clear hw1;have hf2:=Fr.drewN No wc nq;generalize wc.drewN nq=W2 at hf2 ⊢
  replace r1:=hf2.cell0 r1
  have hz2:=HZC.out.fr0 hf2;have HZ2:=H_ hz2;clear hf2 c0 a1 a2 k1 kr hz2;go_upto_region 19 with fail
  go_cut [163] (fun _ wx=>∃ v2,Hid (AtZ w wx t nb no cap fv (Z.set k ⟨⟨zk.nd.pairs++[p],zk.nd.kids⟩,v2,zk.kv⟩) fl root many F))
  case first =>
   obtain ⟨i0,hi0',hz0,hz1,hz2⟩:=info_parts info127;have hR:=HZ2.out.r;obtain ⟨b1,_,b3,_⟩:=hR.look at_ za H.out.ga;obtain ⟨d1,_,d3,_⟩:=hR.look k zk H.out.gk;rw [HPVS.out] at b1;have hpp:=hR.pairs at_ za H.out.ga;rw [HPVS.out] at hpp;have x0:=hpp.cell0 zag i HP.out rfl;have x1:=hpp.cell zag i 1 HP.out rfl;have hkp:=hR.pairs k zk H.out.gk;have hpn:¬ zk.pv.ownBlock=some nb:=fun e=>(hR.a2 k _ nb H.out.gk (.inl e)).2.1 rfl;have hln:nb < W2.heap.size:=hR.nodes.lt nb rfl;have hlb:pb < W2.heap.size:=hpp.lt pb rfl;have hkb9:zk.nd.pairs.length<=4:=H.out.k4;have HKP:=H_ hkp;clear hR hpp hkp r1
   go_region_law (refine zbe rfl _ _ 119 rfl 122 i0 _ 2 24 Tryz.underlying119 hi0' hz0 hz1 hz2 rfl (by decide) zag zhe zk.pv (.slice (some ⟨W2.heap.size,0,none⟩) 1 1) zk.nd.pairs [p] rfl rfl (HKP.out.fr0 ((Fr.refl No W2).drew.alloc _)) (zqb W2.drew p _ rfl) (by unfold maxLen;simp;omega) (by simp;omega) ?_
                  intro v1 w4 hs4 hf4 hg4;obtain ⟨va,vcap,hv2,_,_,_⟩:=hs4.shape;generalize (zk.nd.pairs++[p]).length=n2 at hv2;subst hv2;have hF4:Fr (fun b=>zk.pv.ownBlock=some b) W2 w4:=((Fr.refl _ W2).drew.alloc _).trans hf4 fun _ _ e=>e;have u1:=hF4.cell d1 hpn;have u2:=hF4.free d1 d3 hpn;have HS4:=H_ hs4;have HF4:=H_ hF4;have HG4:=H_ hg4;clear hs4 hf4 hg4 hF4)
   all_goals
    have hq:=HZ2.out.setPairs (w1:=w4) (pv':=.slice va n2 vcap) (P':=zk.nd.pairs++[p]) k zk H.out.gk HF4.out HS4.out fun b e=>by
     rcases HG4.out b e with e | e
     · exact .inl e
     right;simp at e;omega
    have HQ:=H_ hq;clear hq;go_wp2_with fail;go_meet
    case rel=>exact ⟨_,HQ⟩
  case rest =>
   obtain ⟨v2,HQ⟩:=hcut;have hgr2:(Z.set k ⟨⟨zk.nd.pairs++[p],zk.nd.kids⟩,v2,zk.kv⟩)[r]? = some zr:=(by rw [List.getElem?_set_ne HKR.out];exact HGR.out);have hga2:(Z.set k ⟨⟨zk.nd.pairs++[p],zk.nd.kids⟩,v2,zk.kv⟩)[at_]? = some za:=(by rw [List.getElem?_set_ne HKA.out];exact H.out.ga);have hgk2:(Z.set k ⟨⟨zk.nd.pairs++[p],zk.nd.kids⟩,v2,zk.kv⟩)[k]? = some ⟨⟨zk.nd.pairs++[p],zk.nd.kids⟩,v2,zk.kv⟩:=List.getElem?_set_self hkl;have hnd2:ndsZ (Z.set k ⟨⟨zk.nd.pairs++[p],zk.nd.kids⟩,v2,zk.kv⟩)=A.set k ⟨zk.nd.pairs++[p],zk.nd.kids⟩:=(by rw [zav,H.out.nds]);have hzl2:(Z.set k ⟨⟨zk.nd.pairs++[p],zk.nd.kids⟩,v2,zk.kv⟩).length=Z.length:=(by simp);generalize Z.set k ⟨⟨zk.nd.pairs++[p],zk.nd.kids⟩,v2,zk.kv⟩=Z2 at HQ hgr2 hga2 hgk2 hnd2 hzl2;have hR:=HQ.out.r;obtain ⟨b1,_,b3,_⟩:=hR.look at_ za hga2
   obtain ⟨e1,_,e3,_⟩:=hR.look r zr hgr2;have hpp:=hR.pairs at_ za hga2;have hlp:=hR.pairs r zr hgr2;rw [HPVS.out] at b1 hpp;rw [HRPV.out] at e1 hlp;have y0:=hlp.cell0 zag _ HX.out rfl;have y1:=hlp.cell zag _ 1 HX.out rfl;have z0:=hpp.cell0 zag i HP.out rfl;have z1:=hpp.cell zag i 1 HP.out rfl;have zf0:=hpp.free (po+i * 2);have zf1:=hpp.free (po+i * 2+1);simp only [Nat.zero_mul,Nat.add_zero] at y0 y1;have hln:nb < wc.heap.size:=hR.nodes.lt nb rfl;have hlpb:pb < wc.heap.size:=hpp.lt pb rfl;have hllb:rb < wc.heap.size:=hlp.lt rb rfl;have hst:=HQ.out.setPair at_ za hga2 HPVS.out p x HP.out;have HST:=H_ hst;have HGR2:=H_ hgr2;have HGA2:=H_ hga2;have HGK2:=H_ hgk2;have HND2:=H_ hnd2;have HZL2:=H_ hzl2;clear hR hpp hlp hst hgr2 hga2 hgk2 hnd2 hzl2 r1;go_upto_region 20 with fail
   go_region
   have hq:=HST.out.fr0 (Fr.refl No _).drew;generalize (((wc.setCell ⟨pb,po+i * 2,none⟩ (.string x.1)).setCell ⟨pb,po+i * 2+1,none⟩ (.int .i64 x.2))).drew=W4 at hq ⊢
   have hgr4:(Z2.set at_ ⟨⟨za.nd.pairs.set i x,za.nd.kids⟩,za.pv,za.kv⟩)[r]? = some zr:=(by rw [List.getElem?_set_ne (Ne.symm HRA.out)];exact HGR2.out);have hgk4:(Z2.set at_ ⟨⟨za.nd.pairs.set i x,za.nd.kids⟩,za.pv,za.kv⟩)[k]? = some ⟨⟨zk.nd.pairs++[p],zk.nd.kids⟩,v2,zk.kv⟩:=(by rw [List.getElem?_set_ne (Ne.symm HKA.out)];exact HGK2.out);have hnd4:ndsZ (Z2.set at_ ⟨⟨za.nd.pairs.set i x,za.nd.kids⟩,za.pv,za.kv⟩)=(A.set k ⟨zk.nd.pairs++[p],zk.nd.kids⟩).set at_ ⟨za.nd.pairs.set i x,za.nd.kids⟩:=(by rw [zav,HND2.out]);have hzl4:(Z2.set at_ ⟨⟨za.nd.pairs.set i x,za.nd.kids⟩,za.pv,za.kv⟩).length=Z.length:=(by rw [List.length_set];exact HZL2.out);generalize Z2.set at_ ⟨⟨za.nd.pairs.set i x,za.nd.kids⟩,za.pv,za.kv⟩=Z4 at hq hgr4 hgk4 hnd4 hzl4;have hR:=hq.r;obtain ⟨e1,e2,e3,e4⟩:=hR.look r zr hgr4
   have hrn:¬ zr.pv.ownBlock=some nb:=fun e=>(hR.a2 r _ nb hgr4 (.inl e)).2.1 rfl;have hcutp:=zen W4 zr.pv zr.nd.pairs 0 (hR.pairs r zr hgr4) hrpn (by omega);have hln4:nb < W4.heap.size:=hR.nodes.lt nb rfl;have HQ4:=H_ hq;have HGR4:=H_ hgr4;have HGK4:=H_ hgk4;have HND4:=H_ hnd4;have HZL4:=H_ hzl4;clear hR hq hgr4 hgk4 hnd4 hzl4 y0 y1 z0 z1 zf0 zf1 b1 b3 e2 e4
   go_upto_region 22 with (first
    | (go_at_call 170;refine hcutp.mono ?_;clear hcutp;rintro e w5 ⟨g5,o5,c5,rfl,hs5,hf5,hg5⟩
       have y1:=hf5.cell e1 hrn;have y2:=hf5.free e1 e3 hrn;have HS5:=H_ hs5;have HF5:=H_ hf5;have HG5:=H_ hg5;clear hs5 hf5 hg5))
   have hq:=HQ4.out.setPairs (w1:=w5) (pv':=.slice (some ⟨g5,o5,none⟩) (zr.nd.pairs.length - 1) c5) (P':=zr.nd.pairs.drop 1) r zr HGR4.out HF5.out (by have:=HS5.out;simpa using this) fun b e=>by
    obtain rfl:g5=b:=by simpa [Value.ownBlock] using e
    exact .inl HG5.out
   generalize w5.setCell ⟨nb,no+r * 2,none⟩ (.slice (some ⟨g5,o5,none⟩) (zr.nd.pairs.length - 1) c5)=W6 at hq ⊢
   have hrl4:r < Z4.length:=(by have:=HZL4.out;omega);have hgr6:(Z4.set r ⟨⟨zr.nd.pairs.drop 1,zr.nd.kids⟩,.slice (some ⟨g5,o5,none⟩) (zr.nd.pairs.length - 1) c5,zr.kv⟩)[r]? = some ⟨⟨zr.nd.pairs.drop 1,zr.nd.kids⟩,.slice (some ⟨g5,o5,none⟩) (zr.nd.pairs.length - 1) c5,zr.kv⟩:=List.getElem?_set_self hrl4;have hgk6:(Z4.set r ⟨⟨zr.nd.pairs.drop 1,zr.nd.kids⟩,.slice (some ⟨g5,o5,none⟩) (zr.nd.pairs.length - 1) c5,zr.kv⟩)[k]? = some ⟨⟨zk.nd.pairs++[p],zk.nd.kids⟩,v2,zk.kv⟩:=(by rw [List.getElem?_set_ne (Ne.symm HKR.out)];exact HGK4.out);have hnd6:ndsZ (Z4.set r ⟨⟨zr.nd.pairs.drop 1,zr.nd.kids⟩,.slice (some ⟨g5,o5,none⟩) (zr.nd.pairs.length - 1) c5,zr.kv⟩)=((A.set k ⟨zk.nd.pairs++[p],zk.nd.kids⟩).set at_ ⟨za.nd.pairs.set i x,za.nd.kids⟩).set r ⟨zr.nd.pairs.drop 1,zr.nd.kids⟩:=(by rw [zav,HND4.out])
   generalize Z4.set r ⟨⟨zr.nd.pairs.drop 1,zr.nd.kids⟩,.slice (some ⟨g5,o5,none⟩) (zr.nd.pairs.length - 1) c5,zr.kv⟩=Z6 at hq hgr6 hgk6 hnd6;have hR:=hq.r;obtain ⟨_,e2,_,e4⟩:=hR.look r _ hgr6;have hlk:=hR.kids r _ hgr6;dsimp only at e2 e4 hlk;obtain ⟨ca,ccap,hcv,hcc1,hcc2,hcca⟩:=hlk.shape;have hkrn:¬ zr.kv.ownBlock=some nb:=fun e=>(hR.a2 r _ nb hgr6 (.inr e)).2.1 rfl;rw [hcv] at e2;have hln6:nb < W6.heap.size:=hR.nodes.lt nb rfl;have HQ6:=H_ hq;have HGR6:=H_ hgr6;have HGK6:=H_ hgk6;have HND6:=H_ hnd6;have HCV:=H_ hcv;clear hq hgr6 hgk6 hnd6 hcv e1 e3 y1 y2;rcases HRW.out with hr0 | hr1
   · have hk0:=HBO.out.2 hr0
     have hll0:zr.nd.kids.length=0:=(by rw [hr0];rfl);have hzn:¬ (0:Int) < (zr.nd.kids.length:Int):=(by omega);have HR0:=H_ hr0;have HK0:=H_ hk0;clear hr0 hk0 hll0 hR hlk;go_wp2;go_ret;refine ⟨⟨_,rfl⟩,_,⟨_,_,_,HQ6.out.r,?_,fun b=>Iff.rfl⟩,HQ6.out.fr,HQ6.out.new⟩;rw [HND6.out,HJ.out,HR0.out,HK0.out];simp
   have hzn:(0:Int) < (zr.nd.kids.length:Int):=by omega
   obtain ⟨cb,co,rfl⟩:=hcca (by omega);obtain ⟨c,hc⟩:∃ c,zr.nd.kids[0]? = some c:=⟨_,List.getElem?_eq_getElem (by omega)⟩;rw [HCV.out] at hlk;have hkc:=hlk.cell1 zah _ hc rfl;simp only [Nat.add_zero] at hkc;have hgkr:=HGK6.out;obtain ⟨_,f2,_,f4⟩:=hR.look k _ hgkr;have hkkk:=hR.kids k _ hgkr;dsimp only at f2 f4 hkkk;have hkn:¬ zk.kv.ownBlock=some nb:=fun e=>(hR.a2 k _ nb hgkr (.inr e)).2.1 rfl
   have hk10:zk.nd.kids.length<=1000:=by
    rcases HKW.out with e | e
    · rw [e];simp
    have:=H.out.k4;omega
   have hr10:zr.nd.kids.length<=1000:=(by omega);have hr0n:0 < zr.nd.kids.length:=(by omega);obtain ⟨i0,hi0',hz0,hz1,hz2⟩:=info_parts info3;have hnew:SlF (W6.drew.alloc (.cells #[.int .i64 (c:Int)] 3)) 3 1 nat1 (.slice (some ⟨W6.heap.size,0,none⟩) 1 1) [c]:=⟨rfl,.inr ⟨_,_,_,_,rfl,zad _ _ _ rfl,Nat.le_refl _,by unfold maxLen;omega,by simp,rfl⟩⟩;have HNEW:=H_ hnew;have HKKK:=H_ hkkk;have HC:=H_ hc;have hlcb:cb < W6.heap.size:=hlk.lt cb rfl;clear hR hlk hkkk hgkr hr1 hc hnew;go_upto_region 23 with fail
   go_region_law (refine zbe rfl _ _ 76 rfl 3 i0 _ 1 8 Tryz.underlying76 hi0' hz0 hz1 hz2 rfl (by decide) zah zmy zk.kv (.slice (some ⟨W6.heap.size,0,none⟩) 1 1) zk.nd.kids [c] rfl rfl (HKKK.out.fr0 ((Fr.refl No W6).drew.alloc _)) HNEW.out (by unfold maxLen;simp;omega) (by simp;omega) ?_
                  intro v1 w7 hs7 hf7 hg7;obtain ⟨va,vcap,hv2,_,_,_⟩:=hs7.shape;generalize (zk.nd.kids++[c]).length=n2 at hv2;subst hv2;have hF7:Fr (fun b=>zk.kv.ownBlock=some b) W6 w7:=((Fr.refl _ W6).drew.alloc _).trans hf7 fun _ _ e=>e;have u1:=hF7.cell f2 hkn;have u2:=hF7.free f2 f4 hkn;have HS7:=H_ hs7;have HF7:=H_ hF7;have HG7:=H_ hg7;clear hs7 hf7 hg7 hF7)
   all_goals
    have hq:=HQ6.out.setKids (w1:=w7) (kv':=.slice va n2 vcap) (K':=zk.nd.kids++[c]) k _ HGK6.out HF7.out HS7.out fun b e=>by
     rcases HG7.out b e with e | e
     · exact .inl e
     right;simp at e;omega
    generalize w7.setCell ⟨nb,no+k * 2+1,none⟩ (.slice va n2 vcap)=W8 at hq ⊢
    have hgr8:(Z6.set k ⟨⟨zk.nd.pairs++[p],zk.nd.kids++[c]⟩,v2,.slice va n2 vcap⟩)[r]? = some ⟨⟨zr.nd.pairs.drop 1,zr.nd.kids⟩,.slice (some ⟨g5,o5,none⟩) (zr.nd.pairs.length - 1) c5,zr.kv⟩:=(by rw [List.getElem?_set_ne HKR.out];exact HGR6.out);have hnd8:ndsZ (Z6.set k ⟨⟨zk.nd.pairs++[p],zk.nd.kids++[c]⟩,v2,.slice va n2 vcap⟩)=(((A.set k ⟨zk.nd.pairs++[p],zk.nd.kids⟩).set at_ ⟨za.nd.pairs.set i x,za.nd.kids⟩).set r ⟨zr.nd.pairs.drop 1,zr.nd.kids⟩).set k ⟨zk.nd.pairs++[p],zk.nd.kids++[c]⟩:=(by rw [zav,HND6.out]);generalize Z6.set k ⟨⟨zk.nd.pairs++[p],zk.nd.kids++[c]⟩,v2,.slice va n2 vcap⟩=Z8 at hq hgr8 hnd8;have hR:=hq.r;obtain ⟨_,e2',_,e4'⟩:=hR.look r _ hgr8;have hlk:=hR.kids r _ hgr8;dsimp only at e2' e4' hlk;have hcutk:=zhs W8 zr.kv zr.nd.kids 0 hlk hr0n hr10;have hln8:nb < W8.heap.size:=hR.nodes.lt nb rfl
    have HQ8:=H_ hq;have HGR8:=H_ hgr8;have HND8:=H_ hnd8;clear hR hlk hq hgr8 hnd8 u1 u2 e2 e4 f2 f4 hkc
    go_wp2_with (first
     | (go_at_call 182;refine hcutk.mono ?_;clear hcutk;rintro e w9 ⟨g9,o9,c9,rfl,hs9,hf9,hg9⟩
        have y1:=hf9.cell e2' hkrn;have y2:=hf9.free e2' e4' hkrn;have HS9:=H_ hs9;have HF9:=H_ hf9;have HG9:=H_ hg9;clear hs9 hf9 hg9))
    go_ret
    have hset:=HQ8.out.setKids (w1:=w9) (kv':=.slice (some ⟨g9,o9,none⟩) (zr.nd.kids.length - 1) c9) (K':=zr.nd.kids.drop 1) r _ HGR8.out HF9.out (by have:=HS9.out;simpa using this) fun b e=>by
     obtain rfl:g9=b:=by simpa [Value.ownBlock] using e
     exact .inl HG9.out
    refine ⟨⟨_,rfl⟩,_,⟨_,_,_,hset.r,?_,fun b=>Iff.rfl⟩,hset.fr,hset.new⟩
    have htk:zr.nd.kids.take 1 = [c]:=by
     have h1:=HC.out
     cases hz:zr.nd.kids with
     | nil=>rw [hz] at h1;simp at h1
     | cons q qs=>rw [hz] at h1;simp at h1;simp [h1]
    rw [zav,HND8.out,HJ.out,htk];dsimp only;rw [List.set_comm _ _ HKR.out,List.set_set,List.set_comm _ _ HKR.out.symm,List.set_comm _ _ HKA.out.symm,List.set_set]
theorem kid_z {Z:List Nz} {A:Arr} {fl:List Nat} {at_:Nat} (hZ:ndsZ Z=A) (hs:zbk A fl at_) {i:Nat} (hi:i < (ndA A at_).kids.length) :
 ∃ c zc,(ndA A at_).kids[i]? = some c/\kidA A at_ i=c/\Z[c]? = some zc/\zc.nd=ndA A c/\c≠at_/\zc.nd.pairs.length<=9/\(zc.nd.kids = []\/zc.nd.kids.length=zc.nd.pairs.length+1):=by
 obtain ⟨c,hc⟩:∃ c,(ndA A at_).kids[i]? = some c:=⟨_,List.getElem?_eq_getElem hi⟩;obtain ⟨h1,h2,h3,h4⟩:=hs.kid c (List.mem_of_getElem? hc);obtain ⟨zc,hz,ez⟩:=zbi hZ h1;exact ⟨c,zc,hc,by unfold kidA;simp [List.getD,hc],hz,ez,h2,by rw [ez];exact h3,by rw [ez];exact h4⟩
set_option maxHeartbeats 4000000 in
theorem zox (w:World) (t:Nat) (A:Arr) (fl:List Nat) (root:Nat) (many:Int) (F:Nat->Prop) (h:TreeZ w t A fl root many F) (at_ i:Nat) (hs:zbk A fl at_) (hA:A.length<=109951162) (hi:i < (ndA A at_).kids.length)
 (hk5:4 < (ndA A (kidA A at_ i)).pairs.length):Calls Tryz.prog 171 #[.pointer (some ⟨t,0,none⟩),.int .i64 at_,.int .i64 i] w (zgj w t F A fl root many):=by
 obtain ⟨nv,fv,Z,hR,hZ,hF⟩:=id h;obtain ⟨za,hza,eza⟩:=zbi hZ hs.lt;obtain ⟨k,zk,hk,hkA,hzk,ezk,hkat,hk9,hkw⟩:=kid_z hZ hs hi;have hatl:at_ < Z.length:=(List.getElem?_eq_some_iff.1 hza).1;have hkl:k < Z.length:=(List.getElem?_eq_some_iff.1 hzk).1;have hZl:Z.length<=109951162:=by rw [<-zas,hZ];exact hA
 obtain ⟨nb,no,cap,rfl,hcap⟩:=hR.headLen (by omega);rw [hkA,<-ezk] at hk5;rw [<-eza] at hk hi;have hlen:=hs.len;have ha9:=hs.hi;rw [<-eza] at hlen ha9;have c0:=hR.obj.cell 0 rfl;obtain ⟨a1,a2,a3,a4⟩:=hR.look at_ za hza;obtain ⟨k1,k2,k3,k4⟩:=hR.look k zk hzk;obtain ⟨ka,kcap,hkv,hq1,hq2,hka⟩:=(hR.kids at_ za hza).shape;obtain ⟨kpa,kpcap,hkpv,hkp1,hkp2,hkpa⟩:=(hR.pairs k zk hzk).shape;obtain ⟨kb,ko,rfl⟩:=hka (by omega);have hkk:=hR.kids at_ za hza;rw [hkv] at a2 hkk;rw [hkpv] at k1;have kl:=hkk.cell1 zah i hk rfl;have hatz:(at_:Int) < (Z.length:Int):=by omega
 have hkz:(k:Int) < (Z.length:Int):=by omega
 have hiz:(i:Int) < (za.nd.kids.length:Int):=by omega
 have hi10:(i:Int)<=9:=by omega
 have hk4z:(4:Int) < (zk.nd.pairs.length:Int):=by omega
 have H:=H_ h;clear h hs hkv hkpv hR hkk hlen hkpa a3 a4 k2 k3 k4 hk hkA hF hZ eza ezk hkw hza hzk;go_enter Tryz.func171,Tryz.ntmps171;go_upto_region 2 with fail
 go_quiet (fail)
 have hf1:=Fr.drewN No w nq;generalize w.drewN nq=W1 at hf1 ⊢
 replace c0:=hf1.cell0 c0
 replace a1:=hf1.cell0 a1
 replace a2:=hf1.cell0 a2
 replace k1:=hf1.cell0 k1
 have HF1:=H_ hf1;clear hf1 kl;go_wp2_with fail;go_ret;obtain ⟨nv2,fv2,Z2,hR2,hZ2,hF2⟩:=H.out;exact ⟨⟨_,rfl⟩,F,⟨nv2,fv2,Z2,hR2.fr0 HF1.out,hZ2,hF2⟩,HF1.out.mono (fun _ _ s=>s.elim),fun b hb=>.inl hb⟩
theorem zrn (w:World) (t:Nat) (A:Arr) (fl:List Nat) (root:Nat) (many:Int) (F:Nat->Prop) (h:TreeZ w t A fl root many F) (at_ i:Nat) (hs:zbk A fl at_) (hA:A.length<=109951162) (hi:i < (ndA A at_).kids.length)
 (hpos:1<=(ndA A at_).pairs.length):Calls Tryz.prog 171 #[.pointer (some ⟨t,0,none⟩),.int .i64 at_,.int .i64 i] w (zgj w t F (fillA A fl at_ i).1 (fillA A fl at_ i).2 root many):=by
 unfold fillA;have hlen:=hs.len
 split
 · exact zox w t A fl root many F h at_ i hs hA hi ‹_›
 rename_i hk4
 split
 · rename_i hl
   obtain ⟨j,rfl⟩:∃ j,i=j+1:=⟨i - 1,by omega⟩;obtain ⟨l,k,nb,no,cap,fv,Z,za,zl,zk,p,hT⟩:=two_z h at_ j hs (by omega) hA;refine zok w t A fl root many F at_ j l k nb no cap fv Z za zl zk p hT ?_ ?_
   · rw [hT.ek,<-hT.hk];omega
   rw [hT.el,<-hT.hl];exact hl.2
 rename_i hl
 obtain ⟨nv,fv,Z,hR,hZ,hF⟩:=id h;obtain ⟨za,hza,eza⟩:=zbi hZ hs.lt;obtain ⟨k,zk,hk,hkA,hzk,ezk,hkat,hk9,hkw⟩:=kid_z hZ hs hi;have hatl:at_ < Z.length:=(List.getElem?_eq_some_iff.1 hza).1;have hZl:Z.length<=109951162:=(by rw [<-zas,hZ];exact hA);obtain ⟨nb,no,cap,rfl,hcap⟩:=hR.headLen (by omega)
 have hP:zlv w t A fl root many F at_ i k nb no cap fv Z za zk:=by
  refine ⟨⟨hR,Fr.refl _ w,fun b hb=>.inl ((hF b).2 hb)⟩,hZ,hza,hzk,eza,by rw [eza];exact hk,by rw [ezk,<-hkA];omega,by rw [eza];exact hs.hi,by rw [eza];exact hlen,?_,hZl⟩
  cases i with
  | zero=>exact .inl rfl
  | succ m =>
    obtain ⟨l,zl,h1,h2,h3,h4,h5,h6,h7⟩:=kid_z hZ hs (i:=m) (by omega);refine .inr ⟨m,l,zl,rfl,by rw [eza];exact h1,h3,?_⟩;rw [h4,<-h2];have:=Nat.not_lt.1 (fun x=>hl ⟨Nat.succ_pos m,x⟩);rw [Nat.add_sub_cancel] at this;omega
 split
 · rename_i hn
   obtain ⟨r,zr,h1,h2,h3,h4,h5,h6,h7⟩:=kid_z hZ hs (i:=i+1) hn
   split
   · rename_i hr
     obtain ⟨p,hp⟩:∃ p,(ndA A at_).pairs[i]? = some p:=⟨_,List.getElem?_eq_getElem (by omega)⟩;refine zow w t A fl root many F at_ i k nb no cap fv Z za zk hP r zr p (by rw [eza];exact h1) h3 (by rw [h4,<-h2];exact hr) h6 (by rw [eza];exact hp) hkat h5 ?_ hkw h7 ?_
     · intro e
       have:=hs.apart i (i+1) k hk (by rw [e];exact h1);omega
     rw [ezk,h4];exact hs.both k (List.mem_of_getElem? hk) r (List.mem_of_getElem? h1)
   rename_i hr
   exact zov w t A fl root many F at_ i k nb no cap fv Z za zk hP r zr (by rw [eza];exact h1) h3 (by rw [h4,<-h2];omega) hs
 rename_i hn
 obtain ⟨m,rfl⟩:∃ m,i=m+1:=⟨i - 1,by omega⟩;exact zou w t A fl root many F at_ (m+1) k nb no cap fv Z za zk hP m rfl (by rw [eza];omega) hs
theorem Pt.splitSafe {A:Arr} {fr:List Nat} {d at_ i kid:Nat} (h:Pt A fr (d+1) at_) (h9:(ndA A at_).pairs.length<=9) (hi:(ndA A at_).kids[i]? = some kid) (hk:(ndA A kid).pairs.length=9):splitSafe A fr at_ i:=by
 have hl:(ndA A at_).kids.length=(ndA A at_).pairs.length+1:=h.wf.1;have hil:=(List.getElem?_eq_some_iff.1 hi).1;have hkA:kidA A at_ i=kid:=by unfold kidA;simp [List.getD,hi]
 have hkm:=List.mem_of_getElem? hi;obtain ⟨k1,k2,k3,k4⟩:=h.wf.2 kid hkm
 have hne:kid≠at_:=by
  intro e;have h1:=h.one at_;have h2:0 < (nidx A (d+1) (ndA A at_)).count at_:=List.count_pos_iff.2 (List.mem_flatMap.2 ⟨kid,hkm,by simp [e]⟩);unfold own at h1;simp only [List.count_cons,beq_self_eq_true,if_true] at h1;omega
 unfold Go.Proofs.YthljnnjpmdgkoaaGreat.splitSafe;rw [hkA];refine ⟨h.lt,h9,by omega,by omega,hi,k1,hne,hk,?_,fun f hf=>⟨(h.free f hf).1,fun e=>?_,fun e=>?_,(h.free f hf).2⟩⟩
 · rcases zoh d _ k4 with e | e
   · exact .inl e
   exact .inr (by omega)
 · have h3:=h.one f
   have h4:0 < fr.count f:=List.count_pos_iff.2 hf;have h5:0 < (own A (d+1) at_).count f:=List.count_pos_iff.2 (by rw [e];unfold own;simp);omega
 have h3:=(h.kid hkm).one f
 have h4:0 < fr.count f:=List.count_pos_iff.2 hf;have h5:0 < (own A d kid).count f:=List.count_pos_iff.2 (by rw [e];unfold own;simp);omega
theorem zqw (A:Arr) (fr:List Nat) (at_ i:Nat):A.length<=(splitA A fr at_ i).length:=by
 unfold splitA takeA
 split <;> simp
theorem zil (key:ByteArray) (n:Int):∀ (g:Nat) (A:Arr) (fr:List Nat) (at_:Nat),A.length<=(setA g A fr at_ key n).1.length
 | 0,_,_,_=>Nat.le_refl _
 | g+1,A,fr,at_=>by
   unfold setA
   split
   · simp
   split
   · simp
   split
   · exact Nat.le_trans (zqw A fr at_ _) (zil key n g _ _ _)
   exact zil key n g _ _ _
theorem TreeR.of_eq {w:World} {t:Nat} {nv fv:Value} {Z:List Nz} {fl fl':List Nat} {root:Nat} {many many':Int} (h:TreeR w t nv fv Z fl root many) (h1:fl'=fl) (h2:many'=many):TreeR w t nv fv Z fl' root many':=by
 subst h1;subst h2;exact h
def SetEnd (w:World) (t:Nat) (F:Nat->Prop) (r:Arr × List Nat × Bool) (root:Nat) (many:Int) (e:Ending) (w':World):Prop :=
 (∃ v,e = .returned v)/\∃ F',TreeZ w' t r.1 r.2.1 root (many+if r.2.2 then 1 else 0) F'/\Fr F w w'/\(∀ b,F' b->F b\/w.heap.size<=b)
structure GrownZ (w wx:World) (t:Nat) (A:Arr) (fl:List Nat) (root:Nat) (many:Int) (F F1:Nat->Prop):Prop where
 z:TreeZ wx t A fl root many F1
 fr:Fr F w wx
 new:∀ b,F1 b->F b\/w.heap.size<=b
set_option maxHeartbeats 4000000 in
theorem zsa (w:World) (t:Nat) (A:Arr) (fl:List Nat) (root:Nat) (many:Int) (F:Nat->Prop) (T:Pairs) (key:ByteArray) (n:Int) (h:TreeZ w t A fl root many F) (hg:GoodT A fl root T) (N:Nat) (hN:N<=1000000) (hA:A.length<=N+2) (_hT:T.length < N)
 (hm:0<=many/\many<=1000000) (g:Nat) (hsafe:zha g (growA A fl root).1 (growA A fl root).2.1 (growA A fl root).2.2 key) (hlen:(setA g (growA A fl root).1 (growA A fl root).2.1 (growA A fl root).2.2 key n).1.length<=N+2) :
 Calls Tryz.prog 116 #[.pointer (some ⟨t,0,none⟩),.string key,.int .i64 n] w (SetEnd w t F (setA g (growA A fl root).1 (growA A fl root).2.1 (growA A fl root).2.2 key n) (growA A fl root).2.2 many):=by
 obtain ⟨D,hD⟩:=hg;have hflA:fl.length<=A.length:=by have:=hD.cover;omega
 have hgl:(growA A fl root).2.1.length<=fl.length:=by unfold growA;split <;> simp;omega
 have hZ0:=H_ h;obtain ⟨nv,fv,Z,hR,hZ,hF⟩:=h;subst hZ;have hzl:Z.length<=N+2:=by rw [<-zas];exact hA
 obtain ⟨z,hz,hnd⟩:=zcu hD.pt.lt;have hrl:root < Z.length:=(List.getElem?_eq_some_iff.1 hz).1;obtain ⟨nb,no,cap,rfl,hcap⟩:=hR.headLen (by omega);have c0:=hR.obj.cell 0 rfl;have c2:=hR.obj.cell 2 rfl;obtain ⟨a1,a2,a3,a4⟩:=hR.look root z hz;obtain ⟨pa,pcap,hpv,hp1,hp2,hpa⟩:=(hR.pairs root z hz).shape;rw [hpv] at a1;have hlt:t < w.heap.size:=hR.obj.lt;have hlnb:nb < w.heap.size:=hR.nodes.lt nb rfl;have hrz:(root:Int) < (Z.length:Int):=by omega
 have hD':=H_ hD;have HR:=H_ hR;have HND:=H_ hnd;have HF:=H_ hF;have HSAFE:=H_ hsafe;have HLEN:=H_ hlen;have HGL:=H_ hgl;clear hR hF hz hnd hpv hpa hD hsafe hlen hgl a2 a3 a4;go_enter Tryz.func116,Tryz.ntmps116;go_upto_region 3 with fail
 go_quiet (fail)
 have hq:=Fr.drewN No w nq;have hZq:=hZ0.out.fr0 hq;generalize w.drewN nq=W at hq hZq ⊢
 have HQ:=H_ hq;have HZQ:=H_ hZq;clear hq hZq;go_upto_if 28 with fail
 go_cut [8] (fun _ wx=>∃ F1,Hid (GrownZ w wx t (growA (ndsZ Z) fl root).1 (growA (ndsZ Z) fl root).2.1 (growA (ndsZ Z) fl root).2.2 many F F1))
 case first =>
  by_cases h9:z.nd.pairs.length=9
  · have h9':(ndA (ndsZ Z) root).pairs.length=9:=by rw [HND.out];exact h9
    obtain ⟨t1,t2,t3,t4,t5,t6⟩:=top_ok hD'.out h9';have hgr:growA (ndsZ Z) fl root=(splitA (topA (ndsZ Z) fl root) fl.dropLast (takeI (ndsZ Z) fl) 0,fl.dropLast.dropLast,takeI (ndsZ Z) fl):=(by unfold growA;rw [if_pos h9']);have hss:=t1.splitSafe (i:=0) (kid:=root) (by rw [t2];simp) (by rw [t2];rfl) (by rw [t3];exact h9');have htk:=took hD'.out.pt.free;have htt:=htk.lt;have htn:=htk.new;have htl:(takeA (ndsZ Z) fl).length<=1000003:=(by unfold takeA;split <;> simp [zas] <;> omega);have h9i:((z.nd.pairs.length:Int) == 9)=true:=(by simp;omega);have HGR:=H_ hgr;have HSS:=H_ hss;have HTT:=H_ htt;have HTN:=H_ htn;have HTL:=H_ htl;have HTA:Hid (topA (ndsZ Z) fl root=(takeA (ndsZ Z) fl).set (takeI (ndsZ Z) fl) ⟨[],[root]⟩):=H_ rfl;have HT6:=H_ t6;clear t1 t2 t3 t4 t5 t6 hgr hss htk htt htn h9 h9' htl
    have hfl:fl.length<=1099511627:=(by rw [zas] at hflA;omega);generalize htop:takeI (ndsZ Z) fl=top at *;have HTOP:=H_ htop;clear htop
    go_upto_region 5 with (first
     | (go_at_call 155;refine (zke _ t (ndsZ Z) fl root many F HZQ.out (by rw [zas];omega) hfl).mono ?_;rintro e w1 ⟨rfl,F1,hz1,hf1,hn1⟩;rw [HTOP.out]))
    obtain ⟨nv1,fv1,Z1,hR1,hZ1,hF1⟩:=hz1;obtain ⟨zt,hzt,ezt⟩:=zbi hZ1 HTT.out;have htl1:top < Z1.length:=(List.getElem?_eq_some_iff.1 hzt).1;obtain ⟨nb1,no1,cap1,rfl,hcap1⟩:=hR1.headLen (by omega);obtain ⟨_,e2,_,e4⟩:=hR1.look top zt hzt;have d0:=hR1.obj.cell 0 rfl;have d2:=hR1.obj.cell 2 rfl;have hlt1:t < w1.heap.size:=hR1.obj.lt;have hlnb1:nb1 < w1.heap.size:=hR1.nodes.lt nb1 rfl;have htz:(top:Int) < (Z1.length:Int):=(by omega)
    have hset:=hR1.setKids (w1:=(w1.alloc (.cells #[.int .i64 (root:Int)] 3))) (kv':=.slice (some ⟨w1.heap.size,0,none⟩) 1 1) (K':=[root]) top zt hzt ((Fr.refl _ w1).alloc _)
     ⟨rfl,.inr ⟨_,_,_,_,rfl,zad _ _ _ rfl,by simp,by unfold maxLen;omega,by simp,rfl⟩⟩ (fun b e=>by
       obtain rfl:w1.heap.size=b:=by simpa [Value.ownBlock] using e
       exact .inr (Nat.le_refl _))
    obtain ⟨q1,q2,q3⟩:=hset
    have hzn:ndsZ (Z1.set top ⟨⟨zt.nd.pairs,[root]⟩,zt.pv,.slice (some ⟨w1.heap.size,0,none⟩) 1 1⟩)=topA (ndsZ Z) fl root:=by
     rw [zav,hZ1,HTA.out,ezt,HTN.out];rfl
    have hnew:=zbb (t:=t) (nv:=.slice (some ⟨nb1,no1,none⟩) Z1.length cap1) (fv:=fv1) hzt q3;have HQ1:=H_ q1;have HQ2:=H_ q2;have HZN:=H_ hzn;have HNEW:=H_ hnew;have HF1:=H_ hF1;have HFR1:=H_ hf1;have HN1:=H_ hn1;have HZT:=H_ hzt;clear q1 q2 q3 hzn hnew hF1 hf1 hn1 hR1 hZ1 ezt hzt c0 c2 a1
    go_region
    rw [<-World.setCell_alloc_past _ _ _ _ hlnb1];have hq2:=HQ1.out.fr0 ((Fr.refl No _).drew);have hfq:Fr (fun b=>b=nb1\/zt.kv.ownBlock=some b) w1 (((w1.alloc (.cells #[.int .i64 (root:Int)] 3)).setCell ⟨nb1,no1+top * 2+1,none⟩ (.slice (some ⟨w1.heap.size,0,none⟩) 1 1)).drew):=HQ2.out.drew;generalize (((w1.alloc (.cells #[.int .i64 (root:Int)] 3)).setCell ⟨nb1,no1+top * 2+1,none⟩ (.slice (some ⟨w1.heap.size,0,none⟩) 1 1)).drew)=W2 at hq2 hfq ⊢
    have r2:=hq2.obj.cell 2 rfl;have r2f:=hq2.obj.free 2;have hW2t:t < W2.heap.size:=hq2.obj.lt;have ho:=hq2.obj.set 2 (.int .i64 (top:Int));have hq3:=hq2.setObj ((Fr.refl (fun b=>b=t) W2).setAt 2 (.int .i64 (top:Int))) top many ho;have hfs:Fr (fun b=>b=t) W2 (W2.setCell ⟨t,2,none⟩ (.int .i64 (top:Int))):=(Fr.refl _ W2).setAt 2 _;have HQ3:=H_ hq3;have HFQ:=H_ hfq;have HFS:=H_ hfs;clear hq2 hfq ho hq3 hfs d0 d2 e2 e4;go_wp2_with fail;generalize W2.setCell ⟨t,2,none⟩ (.int .i64 (top:Int))=W3 at HQ3 HFS ⊢
    have hz3:TreeZ W3 t (topA (ndsZ Z) fl root) fl.dropLast top many (treeF t (.slice (some ⟨nb1,no1,none⟩) Z1.length cap1) fv1 (Z1.set top ⟨⟨zt.nd.pairs,[root]⟩,zt.pv,.slice (some ⟨w1.heap.size,0,none⟩) 1 1⟩)):=⟨_,_,_,HQ3.out,HZN.out,fun b=>Iff.rfl⟩;have HZ3:=H_ hz3;clear hz3;have hfl2:fl.dropLast.length<=1099511627:=(by simp;omega)
    go_wp2_with (first
     | (go_at_call 156;refine (zik _ t (topA (ndsZ Z) fl root) fl.dropLast top many _ HZ3.out top 0 HSS.out (by rw [HT6.out];have:=HTL.out;omega) hfl2).mono ?_;rintro e w4 ⟨rfl,F4,hz4,hf4,hn4⟩))
    have HZ4:=H_ hz4;have HF4:=H_ hf4;have HN4:=H_ hn4;clear hz4 hf4 hn4;go_meet
    case rel =>
     have hsz1:=HFR1.out.size;have hszq:=HQ.out.size;have hszq2:=HFQ.out.size;have hszs:=HFS.out.size
     have key1:∀ b,treeF t (.slice (some ⟨nb1,no1,none⟩) Z1.length cap1) fv1 Z1 b->F b\/w.heap.size<=b:=by
      intro b hb;rcases HN1.out b ((HF1.out b).2 hb) with e | e
      · exact .inl e
      exact .inr (by omega)
     have key2:∀ b,treeF t (.slice (some ⟨nb1,no1,none⟩) Z1.length cap1) fv1 (Z1.set top ⟨⟨zt.nd.pairs,[root]⟩,zt.pv,.slice (some ⟨w1.heap.size,0,none⟩) 1 1⟩) b->F b\/w.heap.size<=b:=by
      intro b hb;rcases HNEW.out b hb with e | e
      · exact key1 b e
      exact .inr (by omega)
     refine ⟨F4,H_ ⟨?_,?_,fun b hb=>?_⟩⟩
     · rw [HGR.out];exact HZ4.out
     · have f1:Fr F w w1:=(HQ.out.mono fun _ _ s=>s.elim).trans HFR1.out fun _ _ e=>e
       have f2:=f1.trans HFQ.out fun b hb e=>by
        rcases key1 b (by
         rcases e with rfl | e
         · exact .inr (.inl rfl)
         exact .inr (.inr (.inr ⟨top,zt,HZT.out,.inr e⟩))) with e | e
        · exact e
        omega
       have f3:=f2.trans HFS.out fun b hb e=>by
        rcases key1 b (.inl e) with e | e
        · exact e
        omega
       exact f3.trans HF4.out fun b hb e=>by
        rcases key2 b e with e | e
        · exact e
        omega
     rcases HN4.out b hb with e | e
     · exact key2 b e
     exact .inr (by omega)
  have h9i:((z.nd.pairs.length:Int) == 9)=false:=by simp;omega
  have hgr:growA (ndsZ Z) fl root=(ndsZ Z,fl,root):=(by unfold growA;rw [if_neg (by rw [HND.out];exact h9)]);have HGR:=H_ hgr;clear hgr h9;go_wp2_with fail;go_meet
  case rel=>exact ⟨F,H_ ⟨by rw [HGR.out];exact HZQ.out,HQ.out.mono fun _ _ s=>s.elim,fun b hb=>.inl hb⟩⟩
 case rest =>
  obtain ⟨F1,HG1⟩:=hcut;have HGL2:Hid ((growA (ndsZ Z) fl root).2.1.length<=1099511627):=H_ (by have:=HGL.out;rw [zas] at hflA;omega);have HGL3:Hid (many<=1000000/\0<=many):=H_ ⟨hm.2,hm.1⟩;generalize growA (ndsZ Z) fl root=G at *;obtain ⟨A1,fl1,root1⟩:=G;dsimp only at HG1 HSAFE HLEN HGL2 ⊢
  generalize hres:setA g A1 fl1 root1 key n=res at *;have HRES:=H_ hres
  have c2w:wc.cell? ⟨t,2,none⟩=some (.int .i64 (root1:Int)):=by
   obtain ⟨_,_,_,h1,_⟩:=HG1.out.z;exact h1.obj.cell 2 rfl
  clear hres HQ HZQ hZ0 HR HND HF c0 c2 a1 HGL hD' hflA;go_wp2_with fail
  go_loopg [9] g (fun gg s9 wr=>∃ (A2:Arr) (fl2:List Nat) (at2:Nat) (F2:Nat->Prop),s9 = .int .i64 at2/\Hid (GrownZ w wr t A2 fl2 root1 many F F2)/\Hid (zha gg A2 fl2 at2 key)/\Hid (setA gg A2 fl2 at2 key n=res)/\Hid (fl2.length<=1099511627))
  case atStart=>exact ⟨A1,fl1,root1,F1,rfl,HG1,HSAFE,HRES,HGL2⟩
  case round =>
   obtain ⟨A2,fl2,at2,F2,rfl,HGZ,HS,HR2,HL2⟩:=hrel
   cases gk with
   | zero=>exact absurd HS.out id
   | succ q =>
     obtain ⟨s1,s2,s3⟩:=HS.out
     have hA2:A2.length<=N+2:=by
      have h1:=zil key n (q+1) A2 fl2 at2;rw [HR2.out] at h1;exact Nat.le_trans h1 HLEN.out
     have hHZ:=H_ HGZ.out.z;obtain ⟨nv2,fv2,Z2,hRr,hZ2,hF2⟩:=HGZ.out.z;obtain ⟨z2,hz2,hnd2⟩:=zbi hZ2 s1;have hzl2:Z2.length<=N+2:=(by rw [<-zas,hZ2];exact hA2);have hatl:at2 < Z2.length:=(List.getElem?_eq_some_iff.1 hz2).1;obtain ⟨nb2,no2,cap2,rfl,hcap2⟩:=hRr.headLen (by omega);have hsp:=spotZ hRr at2 z2 hz2 (by rw [hnd2];exact s2) (by omega) key;unfold zbs at hsp;obtain ⟨b1,b2,b3,b4⟩:=hRr.look at2 z2 hz2;have d0:=hRr.obj.cell 0 rfl;have d3:=hRr.obj.cell 3 rfl;have d3f:=hRr.obj.free 3;have hP:=hRr.pairs at2 z2 hz2;have hK:=hRr.kids at2 z2 hz2;obtain ⟨pa2,pcap2,hpv2,hp21,hp22,hpa2⟩:=hP.shape;obtain ⟨ka2,kcap2,hkv2,hk21,hk22,hka2⟩:=hK.shape;have hiz:(at2:Int) < (Z2.length:Int):=(by omega);have hR2':setA (q+1) A2 fl2 at2 key n=res:=HR2.out;unfold setA at hR2';rw [<-hnd2] at hR2' s2 s3
     have hlnb2:nb2 < wr.heap.size:=hRr.nodes.lt nb2 rfl;have hlt2:t < wr.heap.size:=hRr.obj.lt;have hpn:¬ z2.pv.ownBlock=some nb2:=fun e=>(hRr.a2 at2 _ nb2 hz2 (.inl e)).2.1 rfl;have hpt:¬ z2.pv.ownBlock=some t:=fun e=>(hRr.a2 at2 _ t hz2 (.inl e)).1 rfl;have htn:t≠nb2:=fun e=>hRr.a1.1 (by rw [e];rfl)
     cases hh:hitOf z2.nd.pairs key with
     | true =>
       obtain ⟨m,hm⟩:=hit_at hh;have hil:=(List.getElem?_eq_some_iff.1 hm).1;obtain ⟨pb,po,rfl⟩:=hpa2 (by omega);rw [hpv2] at b1 hP;have hc:=hP.cell zag _ 1 hm rfl;have hcf:=hP.free (po+spotOf z2.nd.pairs key * 2+1);rw [hh,if_pos rfl] at hR2';rw [hh] at hsp;have hpst:=hP.set zag (spotOf z2.nd.pairs key) 1 (by omega) (key,m) (key,n) (.int .i64 n) hm rfl;have HPS:=H_ hpst;have HRR:=H_ hR2';have hilz:(spotOf z2.nd.pairs key:Int) < (z2.nd.pairs.length:Int):=(by omega);have hlpb:pb < wr.heap.size:=hP.lt pb rfl;have HRz:=H_ hRr;have HZ2:=H_ hZ2;have HF2:=H_ hF2;have Hz2:=H_ hz2;have HPV2:=H_ hpv2;clear hR2' hh hm hpv2 hkv2 hP hK hRr hz2 hnd2 hpa2 hka2 hpst hZ2 hF2 b2 b3 b4 d3 d3f s1 s2 s3 HS;generalize spotOf z2.nd.pairs key=i at *;go_wp2_with (go_at_call 157;refine hsp.mono ?_;clear hsp;rintro e w' ⟨rfl,rfl⟩)
       go_ret2
       have hfs:Fr (fun b=>b=pb) wr (wr.setCell ⟨pb,po+i * 2+1,none⟩ (.int .i64 n)):=(Fr.refl _ wr).setAt _ _
       have hq:=HRz.out.setPair (w1:=wr.setCell ⟨pb,po+i * 2+1,none⟩ (.int .i64 n)) (P':=z2.nd.pairs.set i (key,n)) at2 z2 Hz2.out HPV2.out hfs (by
        rw [HPV2.out];have:=HPS.out;unfold SlF at this ⊢
        rw [List.length_set] at this ⊢
        exact this)
       have hzo:zown z2 pb:=.inl (by rw [HPV2.out];rfl);have hb:res.2.1=fl2/\(many+if res.2.2 then 1 else 0)=many:=(by rw [<-HRR.out];simp);refine ⟨⟨_,rfl⟩,_,⟨_,_,_,hq.of_eq hb.1 hb.2,?_,fun b=>Iff.rfl⟩,?_,?_⟩
       · rw [<-HRR.out,zav,HZ2.out]
       · exact HGZ.out.fr.trans hfs fun b hb e=>by
          have e':b=pb:=e;rcases HGZ.out.new b ((HF2.out b).2 (.inr (.inr (.inr ⟨at2,z2,Hz2.out,e' ▸ hzo⟩)))) with e | e
          · exact e
          omega
       intro b hb
       rcases zbb (z':=⟨⟨z2.nd.pairs.set i (key,n),z2.nd.kids⟩,z2.pv,z2.kv⟩) Hz2.out (B:=w.heap.size) (fun b e=>.inl e) b hb with e | e
       · exact HGZ.out.new b ((HF2.out b).2 e)
       exact .inr e
     | false =>
       rw [hh] at hsp hR2';simp only [Bool.false_eq_true,if_false] at hR2';by_cases hk0:z2.nd.kids = []
       · rw [if_pos hk0] at hR2'
         have hkl:z2.nd.kids.length=0:=(by rw [hk0];rfl);rw [hkv2,hkl] at b2;have hput:=zed wr z2.pv z2.nd.pairs (spotOf z2.nd.pairs key) (key,n) hP (zbm _ _) (by omega);have HRR:=H_ hR2';have HRz:=H_ hRr;have HZ2:=H_ hZ2;have HF2:=H_ hF2;have Hz2:=H_ hz2;have HK0:=H_ hk0;clear hR2' hh hpv2 hkv2 hP hK hRr hz2 hnd2 hpa2 hka2 hZ2 hF2 b4 s1 s3 HS hk0 hkl;have hm1:=HGL3.out.1;have hm2:=HGL3.out.2;generalize spotOf z2.nd.pairs key=i at *
         go_wp2_with (first
          | (go_at_call 157;refine hsp.mono ?_;clear hsp;rintro e w' ⟨rfl,rfl⟩)
          | (go_at_call 158;refine hput.mono ?_;clear hput;rintro e w1 ⟨g1,o1,c1,rfl,hs1,hf1,hg1⟩
             have y1:=hf1.cell b1 hpn;have y2:=hf1.free b1 b3 hpn;have y3:=hf1.cell d3 hpt;have y4:=hf1.free d3 d3f hpt;have HS1:=H_ hs1;have HG1':=H_ hg1;have HF1':=H_ hf1;clear hs1 hg1 hf1))
         go_ret2
         have hgo:∀ b,(Value.slice (some ⟨g1,o1,none⟩) (z2.nd.pairs.length+1) c1).ownBlock=some b->z2.pv.ownBlock=some b\/wr.heap.size<=b:=fun b e=>by
          obtain rfl:g1=b:=by simpa [Value.ownBlock] using e
          exact HG1'.out
         obtain ⟨q1,q2,q3⟩:=HRz.out.setPairs (w1:=w1) (pv':=.slice (some ⟨g1,o1,none⟩) (z2.nd.pairs.length+1) c1) (P':=z2.nd.pairs.take i++(key,n) :: z2.nd.pairs.drop i) at2 z2 Hz2.out HF1'.out HS1.out hgo;have hfs:Fr (fun b=>b=t) (w1.setCell ⟨nb2,no2+at2 * 2,none⟩ (.slice (some ⟨g1,o1,none⟩) (z2.nd.pairs.length+1) c1)) ((w1.setCell ⟨nb2,no2+at2 * 2,none⟩ (.slice (some ⟨g1,o1,none⟩) (z2.nd.pairs.length+1) c1)).setCell ⟨t,3,none⟩ (.int .i64 (many+1))):=(Fr.refl _ _).setAt _ _;have ho:=q1.obj.set 3 (.int .i64 (many+1));have q4:=q1.setObj hfs root1 (many+1) ho;have hszr:=HGZ.out.fr.size;have key1:∀ b,treeF t (.slice (some ⟨nb2,no2,none⟩) Z2.length cap2) fv2 Z2 b->F b\/w.heap.size<=b:=fun b hb=>HGZ.out.new b ((HF2.out b).2 hb)
         have hb:res.2.1=fl2/\(many+if res.2.2 then 1 else 0)=many+1:=(by rw [<-HRR.out];simp);refine ⟨⟨_,rfl⟩,_,⟨_,_,_,q4.of_eq hb.1 hb.2,?_,fun b=>Iff.rfl⟩,?_,?_⟩
         · rw [<-HRR.out,zav,HZ2.out,HK0.out]
         · refine (HGZ.out.fr.trans q2 fun b hb e=>?_).trans hfs fun b hb e=>?_
           · rcases key1 b (by
              rcases e with rfl | e
              · exact .inr (.inl rfl)
              exact .inr (.inr (.inr ⟨at2,z2,Hz2.out,.inl e⟩))) with e | e
             · exact e
             omega
           rcases key1 b (.inl e) with e | e
           · exact e
           omega
         intro b hb
         rcases zbb Hz2.out q3 b hb with e | e
         · exact key1 b e
         exact .inr (by omega)
       rw [if_neg hk0] at hR2'
       obtain ⟨k1,k2,k3,k4,k5⟩:=s3 hh hk0;obtain ⟨z3,hz3,hnd3⟩:=zbi hZ2 k2;have hkatl:kidA A2 at2 (spotOf z2.nd.pairs key) < Z2.length:=(List.getElem?_eq_some_iff.1 hz3).1;obtain ⟨e1,_,_,_⟩:=hRr.look _ z3 hz3;obtain ⟨pa3,pcap3,hpv3,_,_,_⟩:=(hRr.pairs _ z3 hz3).shape;rw [hpv3] at e1;have hil:=(List.getElem?_eq_some_iff.1 k1).1;obtain ⟨kb,ko,rfl⟩:=hka2 (by omega);rw [hkv2] at b2 hK;have hkc:=hK.cell1 zah _ k1 rfl;have hiz2:(spotOf z2.nd.pairs key:Int) < (z2.nd.kids.length:Int):=(by omega);have hkz2:((z2.nd.kids.length:Int) == 0)=false:=(by simp;omega);have hlkb:kb < wr.heap.size:=hK.lt kb rfl;have hsL:=zbm z2.nd.pairs key;rw [<-hnd3] at hR2' k4 k5;have HK4:=H_ k4;have HK5:=H_ k5;have HRR:=H_ hR2'
       clear hR2' hh hpv2 hkv2 hP hK hRr hz2 hnd2 hpa2 hZ2 hF2 b1 b3 b4 s1 s3 HS hk0 k1 k2 k3 k4 k5 hz3 hnd3 hpv3 hil d3 d3f;generalize hki:kidA A2 at2 (spotOf z2.nd.pairs key)=kid at *;have HKI:=H_ hki;have hkz:(kid:Int) < (Z2.length:Int):=(by omega);clear hki;by_cases h9:z3.nd.pairs.length=9
       · have h9i:((z3.nd.pairs.length:Int) == 9)=true:=by simp;omega
         have HR3:=HRR.out;rw [if_pos h9] at HR3;obtain ⟨ks1,ks2⟩:=HK4.out h9;have HR3':=H_ HR3;have HKS1:=H_ ks1;have HKS2:=H_ ks2;clear HR3 ks1 ks2 HRR HK4 HK5 h9;generalize spotOf z2.nd.pairs key=i at *
         go_upto_region 19 with (first
          | (go_at_call 157;refine hsp.mono ?_;clear hsp;rintro e w' ⟨rfl,rfl⟩))
         go_quiet (fail)
         have hq:=Fr.drewN No wr nq;have hZq:=hHZ.out.fr0 hq;generalize wr.drewN nq=W at hq hZq ⊢
         have HQ:=H_ hq;have HZQ:=H_ hZq;clear hq hZq;have hl2:=HL2.out
         go_wp2_with (first
          | (go_at_call 156;refine (zik _ t A2 fl2 root1 many F2 HZQ.out at2 i HKS1.out (by omega) hl2).mono ?_;rintro e w4 ⟨rfl,F4,hz4,hf4,hn4⟩))
         have HZ4:=H_ hz4;have HF4:=H_ hf4;have HN4:=H_ hn4;clear hz4 hf4 hn4;go_roundg q
         case rel =>
          have hszq:=HQ.out.size;have hszr:=HGZ.out.fr.size;refine ⟨splitA A2 fl2 at2 i,fl2.dropLast,at2,F4,rfl,H_ ⟨HZ4.out,(HGZ.out.fr.trans0 HQ.out).trans HF4.out fun b hb e=>?_,fun b hb=>?_⟩,HKS2,HR3',H_ (by simp;omega)⟩
          · rcases HGZ.out.new b e with e | e
            · exact e
            omega
          rcases HN4.out b hb with e | e
          · exact HGZ.out.new b e
          exact .inr (by omega)
         case measure=>omega
       have h9i:((z3.nd.pairs.length:Int) == 9)=false:=by simp;omega
       have HR3:=HRR.out;rw [if_neg h9] at HR3;have ks:=HK5.out h9;have HR3':=H_ HR3;have HKS:=H_ ks;clear HR3 ks HRR HK4 HK5 h9;generalize spotOf z2.nd.pairs key=i at *
       go_upto_region 19 with (first
        | (go_at_call 157;refine hsp.mono ?_;clear hsp;rintro e w' ⟨rfl,rfl⟩))
       go_quiet (fail)
       have hq:=Fr.drewN No wr nq;have hZq:=hHZ.out.fr0 hq;have b2q:=hq.cell0 b2;have hkcq:=hq.cell0 hkc;generalize wr.drewN nq=W at hq hZq b2q hkcq ⊢
       have HQ:=H_ hq;have HZQ:=H_ hZq;clear hq hZq;go_wp2_with fail;go_roundg q
       case rel =>
        exact ⟨A2,fl2,kid,F2,rfl,H_ ⟨HZQ.out,HGZ.out.fr.trans0 HQ.out,HGZ.out.new⟩,HKS,HR3',HL2⟩
       case measure=>omega
end Go.Proofs.YthljnnjpmdgkoaaGreat