/- Own lemmas and contracts that the claim's proof needs, laid together. The conditions stand in each. -/
import Derived.Test.YthljnnjpmdgkoaaGreatB08
import Derived.Test.YthljnnjpmdgkoaaGreatB00
import Derived.Maps.OwnOps
import Derived.Maps.OwnSet
namespace Go.Proofs.YthljnnjpmdgkoaaGreat
open Go Go.Proofs Go.RowKit
set_option maxRecDepth 100000
set_option maxHeartbeats 8000000 in
theorem znz (w:World) (t:Nat) (A:Arr) (fl:List Nat) (root:Nat) (many:Int) (F:Nat->Prop) (at_ i k nb no cap:Nat) (fv:Value) (Z:List Nz) (za zk:Nz) (h:zku w t A fl root many F at_ i k nb no cap fv Z za zk)
 (r:Nat) (zr:Nz) (p:ByteArray × Int) (hr:za.nd.kids[i+1]? = some r) (hgr:Z[r]? = some zr) (hr5:4 < zr.nd.pairs.length) (hr9:zr.nd.pairs.length<=9) (hp:za.nd.pairs[i]? = some p) (hkat:k≠at_) (hra:r≠at_) (hkr:k≠r) (hkw:zk.nd.kids = []\/zk.nd.kids.length=zk.nd.pairs.length+1) (hrw:zr.nd.kids = []\/zr.nd.kids.length=zr.nd.pairs.length+1) (hboth:zk.nd.kids = [] ↔ zr.nd.kids = []) :
 Calls Tryz.prog 171 #[.pointer (some ⟨t,0,none⟩),.int .i64 at_,.int .i64 i] w (zfu w t F (lendR A at_ i) fl root many):=by
 have hR:=h.at0.r;have hZl:=h.few;have hatl:at_ < Z.length:=(List.getElem?_eq_some_iff.1 h.ga).1;have hkl:k < Z.length:=(List.getElem?_eq_some_iff.1 h.gk).1;have c0:=hR.obj.cell 0 rfl;obtain ⟨a1,a2,a3,a4⟩:=hR.look at_ za h.ga;obtain ⟨k1,k2,k3,k4⟩:=hR.look k zk h.gk;obtain ⟨pa,pcap,hpv,hp1,hp2,hpa⟩:=(hR.pairs at_ za h.ga).shape;obtain ⟨ka,kcap,hkv,hq1,hq2,hka⟩:=(hR.kids at_ za h.ga).shape;obtain ⟨kpa,kpcap,hkpv,hkp1,hkp2,hkpa⟩:=(hR.pairs k zk h.gk).shape;have hlen:=h.len;have hil:=(List.getElem?_eq_some_iff.1 h.kk).1;obtain ⟨kb,ko,rfl⟩:=hka (by omega);have hkk:=hR.kids at_ za h.ga;rw [hkv] at a2 hkk;rw [hkpv] at k1;have kl:=hkk.cell1 zag i h.kk rfl;have hatz:(at_:Int) < (Z.length:Int):=by omega
 have hkz:(k:Int) < (Z.length:Int):=by omega
 have hiz:(i:Int) < (za.nd.kids.length:Int):=by omega
 have hi10:(i:Int)<=9:=by have:=h.a9;omega
 have hk4z:¬ (4:Int) < (zk.nd.pairs.length:Int):=by have:=h.k4;omega
 have hkl10:za.nd.kids.length<=10:=by have:=h.a9;omega
 have H:=H_ h;have HKK:=H_ hkk;have HKV:=H_ hkv;have HPV:=H_ hpv;have HKPV:=H_ hkpv;have HPA:=H_ hpa;have HKPA:=H_ hkpa;have hirl:=(List.getElem?_eq_some_iff.1 hr).1;have hgt:(i:Int)+1 < (za.nd.kids.length:Int):=by omega
 obtain ⟨pb,po,rfl⟩:=hpa (by omega);have kr:=hkk.cell1 zag (i+1) hr rfl;obtain ⟨r1,r2,r3,r4⟩:=hR.look r zr hgr;obtain ⟨rpa,rpcap,hrpv,hrp1,hrp2,hrpa⟩:=(hR.pairs r zr hgr).shape;obtain ⟨rb,ro,rfl⟩:=hrpa (by omega);rw [hrpv] at r1;have hrz:(r:Int) < (Z.length:Int):=by have:=(List.getElem?_eq_some_iff.1 hgr).1;omega
 have hrl:r < Z.length:=(List.getElem?_eq_some_iff.1 hgr).1;have hr4z:(4:Int) < (zr.nd.pairs.length:Int):=by omega
 have hiz0:(0:Int)<=(i:Int)+1:=by omega
 have hiz1:((i:Int)+1).toNat=i+1:=by omega
 have hipz:(i:Int) < (za.nd.pairs.length:Int):=by omega
 have hi0:(0:Int)<=(i:Int):=by omega
 have hrpz:(0:Int) < (zr.nd.pairs.length:Int):=by omega
 have hrpn:0 < zr.nd.pairs.length:=by omega
 obtain ⟨x,hx⟩:∃ x,zr.nd.pairs[0]? = some x:=⟨_,List.getElem?_eq_getElem (by omega)⟩
 have hj:lendR A at_ i=((A.set k ⟨zk.nd.pairs++[p],zk.nd.kids++zr.nd.kids.take 1⟩).set at_ ⟨za.nd.pairs.set i x,za.nd.kids⟩).set r ⟨zr.nd.pairs.drop 1,zr.nd.kids.drop 1⟩:=by
  have e1:kidA A at_ i=k:=(by unfold kidA;rw [<-h.ea];simp [List.getD,h.kk]);have e2:kidA A at_ (i+1)=r:=(by unfold kidA;rw [<-h.ea];simp [List.getD,hr]);have e3:ndA A k=zk.nd:=(by rw [<-h.nds];exact zng h.gk);have e4:ndA A r=zr.nd:=(by rw [<-h.nds];exact zng hgr);unfold lendR;rw [e1,e2,e3,e4,<-h.ea];simp [List.getD,hp,hx]
 have KR:=H_ kr;have RR1:=H_ r1;have HP:=H_ hp;have HX:=H_ hx;have HGR:=H_ hgr;have HRPV:=H_ hrpv;have HJ:=H_ hj;have HPVS:=H_ hpv;clear hr hgr r1 r2 r3 r4 kr hrpv hrpa hp hx hj;clear h hkv hpv hkpv hR hkk hlen hpa hkpa a3 a4 k2 k3 k4;go_enter Tryz.func171,Tryz.ntmps171;go_upto_region 2 with fail
 go_quiet (fail)
 have hf1:=Fr.drewN No w nq;generalize w.drewN nq=W1 at hf1 ⊢
 replace c0:=hf1.cell0 c0
 replace a1:=hf1.cell0 a1
 replace a2:=hf1.cell0 a2
 replace k1:=hf1.cell0 k1
 have HF1:=H_ hf1;clear hf1 kl;go_upto_if 38 with fail
 go_cut [57] (fun _ wx=>Hid (Fr No W1 wx))
 case first =>
  rcases H.out.left with rfl | ⟨m,ll,zll,rfl,hm,hgm,h4⟩
  · first
     | (exfalso;omega)
     | (go_wp2_with fail
        go_meet
        case rel=>exact H_ (Fr.refl No W1))
  have kl:=(HKK.out.fr0 HF1.out).cell1 zag m hm rfl
  obtain ⟨l1,_,_,_⟩:=(H.out.at0.r.fr0 HF1.out).look ll zll hgm;obtain ⟨lpa,lpcap,hlpv,_,_,_⟩:=(H.out.at0.r.pairs ll zll hgm).shape;rw [hlpv] at l1;have hmz:(m:Int) < (za.nd.kids.length:Int):=(by omega);have hllz:(ll:Int) < (Z.length:Int):=(by have:=(List.getElem?_eq_some_iff.1 hgm).1;omega);have hl4z:¬ (4:Int) < (zll.nd.pairs.length:Int):=(by omega);have hm0:(0:Int) < (m:Int)+1:=(by omega);have hw1:IntKind.i64.wrap ((m:Int)+1 - 1)=(m:Int):=(by rw [IntKind.wrap_i64];omega);have hw2:IntKind.i64.wrap (m:Int)=(m:Int):=(by rw [IntKind.wrap_i64];omega);have hw3:(0:Int)<=(m:Int):=(by omega);clear hm hgm hlpv h4;go_upto_region 6 with fail
  go_quiet (fail)
  clear hw1 hw2;have hf2:=Fr.drewN No W1 nq;generalize W1.drewN nq=W2 at hf2 ⊢
  replace l1:=hf2.cell0 l1
  have HF2:=H_ hf2;clear hf2 c0 a1 a2 k1;go_wp2_with fail;go_meet
  case rel=>exact HF2
 case rest =>
  have hfc:=hcut.out;have hZc:=(H.out.at0.fr0 HF1.out).fr0 hfc
  replace c0:=hfc.cell0 c0
  replace a1:=hfc.cell0 a1
  replace a2:=hfc.cell0 a2
  replace k1:=hfc.cell0 k1
  have HZC:=H_ hZc;have HFC:=H_ hfc;clear hfc hZc hcut;have kr:=((KR.out |> HF1.out.cell0) |> HFC.out.cell0);have r1:=((RR1.out |> HF1.out.cell0) |> HFC.out.cell0)
  have HKA:=H_ hkat;have HRA:=H_ hra;have HKR:=H_ hkr;have HKW:=H_ hkw;have HRW:=H_ hrw;have HBO:=H_ hboth;clear hkat hra hkr hkw hrw hboth;go_upto_region 17 with fail;have hw1:IntKind.i64.wrap ((i:Int)+1)=(i:Int)+1:=(by rw [IntKind.wrap_i64];omega)
  go_quiet (fail)
  clear hw1;have hf2:=Fr.drewN No wc nq;generalize wc.drewN nq=W2 at hf2 ⊢
  replace r1:=hf2.cell0 r1
  have hz2:=HZC.out.fr0 hf2;have HZ2:=H_ hz2;clear hf2 c0 a1 a2 k1 kr hz2;go_upto_region 19 with fail
  go_cut [163] (fun _ wx=>∃ v2,Hid (AtZ w wx t nb no cap fv (Z.set k ⟨⟨zk.nd.pairs++[p],zk.nd.kids⟩,v2,zk.kv⟩) fl root many F))
  case first =>
   obtain ⟨i0,hi0',hz0,hz1,hz2⟩:=info_parts info127;have hR:=HZ2.out.r;obtain ⟨b1,_,b3,_⟩:=hR.look at_ za H.out.ga;obtain ⟨d1,_,d3,_⟩:=hR.look k zk H.out.gk;rw [HPVS.out] at b1;have hpp:=hR.pairs at_ za H.out.ga;rw [HPVS.out] at hpp;have x0:=hpp.cell0 zae i HP.out rfl;have x1:=hpp.cell zae i 1 HP.out rfl;have hkp:=hR.pairs k zk H.out.gk;have hpn:¬ zk.pv.ownBlock=some nb:=fun e=>(hR.a2 k _ nb H.out.gk (.inl e)).2.1 rfl;have hln:nb < W2.heap.size:=hR.nodes.lt nb rfl;have hlb:pb < W2.heap.size:=hpp.lt pb rfl;have hkb9:zk.nd.pairs.length<=4:=H.out.k4;have HKP:=H_ hkp;clear hR hpp hkp r1
   go_region_law (refine zbh rfl _ _ 119 rfl 122 i0 _ 2 24 Tryz.underlying119 hi0' hz0 hz1 hz2 rfl (by decide) zae zgq zk.pv (.slice (some ⟨W2.heap.size,0,none⟩) 1 1) zk.nd.pairs [p] rfl rfl (HKP.out.fr0 ((Fr.refl No W2).drew.alloc _)) (zpd W2.drew p _ rfl) (by unfold maxLen;simp;omega) (by simp;omega) ?_
                  intro v1 w4 hs4 hf4 hg4;obtain ⟨va,vcap,hv2,_,_,_⟩:=hs4.shape;generalize (zk.nd.pairs++[p]).length=n2 at hv2;subst hv2;have hF4:Fr (fun b=>zk.pv.ownBlock=some b) W2 w4:=((Fr.refl _ W2).drew.alloc _).trans hf4 fun _ _ e=>e;have u1:=hF4.cell d1 hpn;have u2:=hF4.free d1 d3 hpn;have HS4:=H_ hs4;have HF4:=H_ hF4;have HG4:=H_ hg4;clear hs4 hf4 hg4 hF4)
   all_goals
    have hq:=HZ2.out.setPairs (w1:=w4) (pv':=.slice va n2 vcap) (P':=zk.nd.pairs++[p]) k zk H.out.gk HF4.out HS4.out fun b e=>by
     rcases HG4.out b e with e | e
     · exact .inl e
     right;simp at e;omega
    have HQ:=H_ hq;clear hq;go_wp2_with fail;go_meet
    case rel=>exact ⟨_,HQ⟩
  case rest =>
   obtain ⟨v2,HQ⟩:=hcut;have hgr2:(Z.set k ⟨⟨zk.nd.pairs++[p],zk.nd.kids⟩,v2,zk.kv⟩)[r]? = some zr:=(by rw [List.getElem?_set_ne HKR.out];exact HGR.out);have hga2:(Z.set k ⟨⟨zk.nd.pairs++[p],zk.nd.kids⟩,v2,zk.kv⟩)[at_]? = some za:=(by rw [List.getElem?_set_ne HKA.out];exact H.out.ga);have hgk2:(Z.set k ⟨⟨zk.nd.pairs++[p],zk.nd.kids⟩,v2,zk.kv⟩)[k]? = some ⟨⟨zk.nd.pairs++[p],zk.nd.kids⟩,v2,zk.kv⟩:=List.getElem?_set_self hkl;have hnd2:ndsZ (Z.set k ⟨⟨zk.nd.pairs++[p],zk.nd.kids⟩,v2,zk.kv⟩)=A.set k ⟨zk.nd.pairs++[p],zk.nd.kids⟩:=(by rw [zax,H.out.nds]);have hzl2:(Z.set k ⟨⟨zk.nd.pairs++[p],zk.nd.kids⟩,v2,zk.kv⟩).length=Z.length:=(by simp);generalize Z.set k ⟨⟨zk.nd.pairs++[p],zk.nd.kids⟩,v2,zk.kv⟩=Z2 at HQ hgr2 hga2 hgk2 hnd2 hzl2;have hR:=HQ.out.r;obtain ⟨b1,_,b3,_⟩:=hR.look at_ za hga2
   obtain ⟨e1,_,e3,_⟩:=hR.look r zr hgr2;have hpp:=hR.pairs at_ za hga2;have hlp:=hR.pairs r zr hgr2;rw [HPVS.out] at b1 hpp;rw [HRPV.out] at e1 hlp;have y0:=hlp.cell0 zae _ HX.out rfl;have y1:=hlp.cell zae _ 1 HX.out rfl;have z0:=hpp.cell0 zae i HP.out rfl;have z1:=hpp.cell zae i 1 HP.out rfl;have zf0:=hpp.free (po+i * 2);have zf1:=hpp.free (po+i * 2+1);simp only [Nat.zero_mul,Nat.add_zero] at y0 y1;have hln:nb < wc.heap.size:=hR.nodes.lt nb rfl;have hlpb:pb < wc.heap.size:=hpp.lt pb rfl;have hllb:rb < wc.heap.size:=hlp.lt rb rfl;have hst:=HQ.out.setPair at_ za hga2 HPVS.out p x HP.out;have HST:=H_ hst;have HGR2:=H_ hgr2;have HGA2:=H_ hga2;have HGK2:=H_ hgk2;have HND2:=H_ hnd2;have HZL2:=H_ hzl2;clear hR hpp hlp hst hgr2 hga2 hgk2 hnd2 hzl2 r1;go_upto_region 20 with fail
   go_region
   have hq:=HST.out.fr0 (Fr.refl No _).drew;generalize (((wc.setCell ⟨pb,po+i * 2,none⟩ (.string x.1)).setCell ⟨pb,po+i * 2+1,none⟩ (.int .i64 x.2))).drew=W4 at hq ⊢
   have hgr4:(Z2.set at_ ⟨⟨za.nd.pairs.set i x,za.nd.kids⟩,za.pv,za.kv⟩)[r]? = some zr:=(by rw [List.getElem?_set_ne (Ne.symm HRA.out)];exact HGR2.out);have hgk4:(Z2.set at_ ⟨⟨za.nd.pairs.set i x,za.nd.kids⟩,za.pv,za.kv⟩)[k]? = some ⟨⟨zk.nd.pairs++[p],zk.nd.kids⟩,v2,zk.kv⟩:=(by rw [List.getElem?_set_ne (Ne.symm HKA.out)];exact HGK2.out);have hnd4:ndsZ (Z2.set at_ ⟨⟨za.nd.pairs.set i x,za.nd.kids⟩,za.pv,za.kv⟩)=(A.set k ⟨zk.nd.pairs++[p],zk.nd.kids⟩).set at_ ⟨za.nd.pairs.set i x,za.nd.kids⟩:=(by rw [zax,HND2.out]);have hzl4:(Z2.set at_ ⟨⟨za.nd.pairs.set i x,za.nd.kids⟩,za.pv,za.kv⟩).length=Z.length:=(by rw [List.length_set];exact HZL2.out);generalize Z2.set at_ ⟨⟨za.nd.pairs.set i x,za.nd.kids⟩,za.pv,za.kv⟩=Z4 at hq hgr4 hgk4 hnd4 hzl4;have hR:=hq.r;obtain ⟨e1,e2,e3,e4⟩:=hR.look r zr hgr4
   have hrn:¬ zr.pv.ownBlock=some nb:=fun e=>(hR.a2 r _ nb hgr4 (.inl e)).2.1 rfl;have hcutp:=zee W4 zr.pv zr.nd.pairs 0 (hR.pairs r zr hgr4) hrpn (by omega);have hln4:nb < W4.heap.size:=hR.nodes.lt nb rfl;have HQ4:=H_ hq;have HGR4:=H_ hgr4;have HGK4:=H_ hgk4;have HND4:=H_ hnd4;have HZL4:=H_ hzl4;clear hR hq hgr4 hgk4 hnd4 hzl4 y0 y1 z0 z1 zf0 zf1 b1 b3 e2 e4
   go_upto_region 22 with (first
    | (go_at_call 170;refine hcutp.mono ?_;clear hcutp;rintro e w5 ⟨g5,o5,c5,rfl,hs5,hf5,hg5⟩
       have y1:=hf5.cell e1 hrn;have y2:=hf5.free e1 e3 hrn;have HS5:=H_ hs5;have HF5:=H_ hf5;have HG5:=H_ hg5;clear hs5 hf5 hg5))
   have hq:=HQ4.out.setPairs (w1:=w5) (pv':=.slice (some ⟨g5,o5,none⟩) (zr.nd.pairs.length - 1) c5) (P':=zr.nd.pairs.drop 1) r zr HGR4.out HF5.out (by have:=HS5.out;simpa using this) fun b e=>by
    obtain rfl:g5=b:=by simpa [Value.ownBlock] using e
    exact .inl HG5.out
   generalize w5.setCell ⟨nb,no+r * 2,none⟩ (.slice (some ⟨g5,o5,none⟩) (zr.nd.pairs.length - 1) c5)=W6 at hq ⊢
   have hrl4:r < Z4.length:=(by have:=HZL4.out;omega);have hgr6:(Z4.set r ⟨⟨zr.nd.pairs.drop 1,zr.nd.kids⟩,.slice (some ⟨g5,o5,none⟩) (zr.nd.pairs.length - 1) c5,zr.kv⟩)[r]? = some ⟨⟨zr.nd.pairs.drop 1,zr.nd.kids⟩,.slice (some ⟨g5,o5,none⟩) (zr.nd.pairs.length - 1) c5,zr.kv⟩:=List.getElem?_set_self hrl4;have hgk6:(Z4.set r ⟨⟨zr.nd.pairs.drop 1,zr.nd.kids⟩,.slice (some ⟨g5,o5,none⟩) (zr.nd.pairs.length - 1) c5,zr.kv⟩)[k]? = some ⟨⟨zk.nd.pairs++[p],zk.nd.kids⟩,v2,zk.kv⟩:=(by rw [List.getElem?_set_ne (Ne.symm HKR.out)];exact HGK4.out);have hnd6:ndsZ (Z4.set r ⟨⟨zr.nd.pairs.drop 1,zr.nd.kids⟩,.slice (some ⟨g5,o5,none⟩) (zr.nd.pairs.length - 1) c5,zr.kv⟩)=((A.set k ⟨zk.nd.pairs++[p],zk.nd.kids⟩).set at_ ⟨za.nd.pairs.set i x,za.nd.kids⟩).set r ⟨zr.nd.pairs.drop 1,zr.nd.kids⟩:=(by rw [zax,HND4.out])
   generalize Z4.set r ⟨⟨zr.nd.pairs.drop 1,zr.nd.kids⟩,.slice (some ⟨g5,o5,none⟩) (zr.nd.pairs.length - 1) c5,zr.kv⟩=Z6 at hq hgr6 hgk6 hnd6;have hR:=hq.r;obtain ⟨_,e2,_,e4⟩:=hR.look r _ hgr6;have hlk:=hR.kids r _ hgr6;dsimp only at e2 e4 hlk;obtain ⟨ca,ccap,hcv,hcc1,hcc2,hcca⟩:=hlk.shape;have hkrn:¬ zr.kv.ownBlock=some nb:=fun e=>(hR.a2 r _ nb hgr6 (.inr e)).2.1 rfl;rw [hcv] at e2;have hln6:nb < W6.heap.size:=hR.nodes.lt nb rfl;have HQ6:=H_ hq;have HGR6:=H_ hgr6;have HGK6:=H_ hgk6;have HND6:=H_ hnd6;have HCV:=H_ hcv;clear hq hgr6 hgk6 hnd6 hcv e1 e3 y1 y2;rcases HRW.out with hr0 | hr1
   · have hk0:=HBO.out.2 hr0
     have hll0:zr.nd.kids.length=0:=(by rw [hr0];rfl);have hzn:¬ (0:Int) < (zr.nd.kids.length:Int):=(by omega);have HR0:=H_ hr0;have HK0:=H_ hk0;clear hr0 hk0 hll0 hR hlk;go_wp2;go_ret;refine ⟨⟨_,rfl⟩,_,⟨_,_,_,HQ6.out.r,?_,fun b=>Iff.rfl⟩,HQ6.out.fr,HQ6.out.new⟩;rw [HND6.out,HJ.out,HR0.out,HK0.out];simp
   have hzn:(0:Int) < (zr.nd.kids.length:Int):=by omega
   obtain ⟨cb,co,rfl⟩:=hcca (by omega);obtain ⟨c,hc⟩:∃ c,zr.nd.kids[0]? = some c:=⟨_,List.getElem?_eq_getElem (by omega)⟩;rw [HCV.out] at hlk;have hkc:=hlk.cell1 zag _ hc rfl;simp only [Nat.add_zero] at hkc;have hgkr:=HGK6.out;obtain ⟨_,f2,_,f4⟩:=hR.look k _ hgkr;have hkkk:=hR.kids k _ hgkr;dsimp only at f2 f4 hkkk;have hkn:¬ zk.kv.ownBlock=some nb:=fun e=>(hR.a2 k _ nb hgkr (.inr e)).2.1 rfl
   have hk10:zk.nd.kids.length<=1000:=by
    rcases HKW.out with e | e
    · rw [e];simp
    have:=H.out.k4;omega
   have hr10:zr.nd.kids.length<=1000:=(by omega);have hr0n:0 < zr.nd.kids.length:=(by omega);obtain ⟨i0,hi0',hz0,hz1,hz2⟩:=info_parts info3;have hnew:SlF (W6.drew.alloc (.cells #[.int .i64 (c:Int)] 3)) 3 1 nat1 (.slice (some ⟨W6.heap.size,0,none⟩) 1 1) [c]:=⟨rfl,.inr ⟨_,_,_,_,rfl,zad _ _ _ rfl,Nat.le_refl _,by unfold maxLen;omega,by simp,rfl⟩⟩;have HNEW:=H_ hnew;have HKKK:=H_ hkkk;have HC:=H_ hc;have hlcb:cb < W6.heap.size:=hlk.lt cb rfl;clear hR hlk hkkk hgkr hr1 hc hnew;go_upto_region 23 with fail
   go_region_law (refine zbh rfl _ _ 76 rfl 3 i0 _ 1 8 Tryz.underlying76 hi0' hz0 hz1 hz2 rfl (by decide) zag zlx zk.kv (.slice (some ⟨W6.heap.size,0,none⟩) 1 1) zk.nd.kids [c] rfl rfl (HKKK.out.fr0 ((Fr.refl No W6).drew.alloc _)) HNEW.out (by unfold maxLen;simp;omega) (by simp;omega) ?_
                  intro v1 w7 hs7 hf7 hg7;obtain ⟨va,vcap,hv2,_,_,_⟩:=hs7.shape;generalize (zk.nd.kids++[c]).length=n2 at hv2;subst hv2;have hF7:Fr (fun b=>zk.kv.ownBlock=some b) W6 w7:=((Fr.refl _ W6).drew.alloc _).trans hf7 fun _ _ e=>e;have u1:=hF7.cell f2 hkn;have u2:=hF7.free f2 f4 hkn;have HS7:=H_ hs7;have HF7:=H_ hF7;have HG7:=H_ hg7;clear hs7 hf7 hg7 hF7)
   all_goals
    have hq:=HQ6.out.setKids (w1:=w7) (kv':=.slice va n2 vcap) (K':=zk.nd.kids++[c]) k _ HGK6.out HF7.out HS7.out fun b e=>by
     rcases HG7.out b e with e | e
     · exact .inl e
     right;simp at e;omega
    generalize w7.setCell ⟨nb,no+k * 2+1,none⟩ (.slice va n2 vcap)=W8 at hq ⊢
    have hgr8:(Z6.set k ⟨⟨zk.nd.pairs++[p],zk.nd.kids++[c]⟩,v2,.slice va n2 vcap⟩)[r]? = some ⟨⟨zr.nd.pairs.drop 1,zr.nd.kids⟩,.slice (some ⟨g5,o5,none⟩) (zr.nd.pairs.length - 1) c5,zr.kv⟩:=(by rw [List.getElem?_set_ne HKR.out];exact HGR6.out);have hnd8:ndsZ (Z6.set k ⟨⟨zk.nd.pairs++[p],zk.nd.kids++[c]⟩,v2,.slice va n2 vcap⟩)=(((A.set k ⟨zk.nd.pairs++[p],zk.nd.kids⟩).set at_ ⟨za.nd.pairs.set i x,za.nd.kids⟩).set r ⟨zr.nd.pairs.drop 1,zr.nd.kids⟩).set k ⟨zk.nd.pairs++[p],zk.nd.kids++[c]⟩:=(by rw [zax,HND6.out]);generalize Z6.set k ⟨⟨zk.nd.pairs++[p],zk.nd.kids++[c]⟩,v2,.slice va n2 vcap⟩=Z8 at hq hgr8 hnd8;have hR:=hq.r;obtain ⟨_,e2',_,e4'⟩:=hR.look r _ hgr8;have hlk:=hR.kids r _ hgr8;dsimp only at e2' e4' hlk;have hcutk:=zhb W8 zr.kv zr.nd.kids 0 hlk hr0n hr10;have hln8:nb < W8.heap.size:=hR.nodes.lt nb rfl
    have HQ8:=H_ hq;have HGR8:=H_ hgr8;have HND8:=H_ hnd8;clear hR hlk hq hgr8 hnd8 u1 u2 e2 e4 f2 f4 hkc
    go_wp2_with (first
     | (go_at_call 182;refine hcutk.mono ?_;clear hcutk;rintro e w9 ⟨g9,o9,c9,rfl,hs9,hf9,hg9⟩
        have y1:=hf9.cell e2' hkrn;have y2:=hf9.free e2' e4' hkrn;have HS9:=H_ hs9;have HF9:=H_ hf9;have HG9:=H_ hg9;clear hs9 hf9 hg9))
    go_ret
    have hset:=HQ8.out.setKids (w1:=w9) (kv':=.slice (some ⟨g9,o9,none⟩) (zr.nd.kids.length - 1) c9) (K':=zr.nd.kids.drop 1) r _ HGR8.out HF9.out (by have:=HS9.out;simpa using this) fun b e=>by
     obtain rfl:g9=b:=by simpa [Value.ownBlock] using e
     exact .inl HG9.out
    refine ⟨⟨_,rfl⟩,_,⟨_,_,_,hset.r,?_,fun b=>Iff.rfl⟩,hset.fr,hset.new⟩
    have htk:zr.nd.kids.take 1 = [c]:=by
     have h1:=HC.out
     cases hz:zr.nd.kids with
     | nil=>rw [hz] at h1;simp at h1
     | cons q qs=>rw [hz] at h1;simp at h1;simp [h1]
    rw [zax,HND8.out,HJ.out,htk];dsimp only;rw [List.set_comm _ _ HKR.out,List.set_set,List.set_comm _ _ HKR.out.symm,List.set_comm _ _ HKA.out.symm,List.set_set]
theorem kid_z {Z:List Nz} {A:Arr} {fl:List Nat} {at_:Nat} (hZ:ndsZ Z=A) (hs:zbm A fl at_) {i:Nat} (hi:i < (ndA A at_).kids.length) :
 ∃ c zc,(ndA A at_).kids[i]? = some c/\kidA A at_ i=c/\Z[c]? = some zc/\zc.nd=ndA A c/\c≠at_/\zc.nd.pairs.length<=9/\(zc.nd.kids = []\/zc.nd.kids.length=zc.nd.pairs.length+1):=by
 obtain ⟨c,hc⟩:∃ c,(ndA A at_).kids[i]? = some c:=⟨_,List.getElem?_eq_getElem hi⟩;obtain ⟨h1,h2,h3,h4⟩:=hs.kid c (List.mem_of_getElem? hc);obtain ⟨zc,hz,ez⟩:=zbj hZ h1;exact ⟨c,zc,hc,by unfold kidA;simp [List.getD,hc],hz,ez,h2,by rw [ez];exact h3,by rw [ez];exact h4⟩
set_option maxHeartbeats 4000000 in
theorem zoa (w:World) (t:Nat) (A:Arr) (fl:List Nat) (root:Nat) (many:Int) (F:Nat->Prop) (h:TreeZ w t A fl root many F) (at_ i:Nat) (hs:zbm A fl at_) (hA:A.length<=109951162) (hi:i < (ndA A at_).kids.length)
 (hk5:4 < (ndA A (kidA A at_ i)).pairs.length):Calls Tryz.prog 171 #[.pointer (some ⟨t,0,none⟩),.int .i64 at_,.int .i64 i] w (zfu w t F A fl root many):=by
 obtain ⟨nv,fv,Z,hR,hZ,hF⟩:=id h;obtain ⟨za,hza,eza⟩:=zbj hZ hs.lt;obtain ⟨k,zk,hk,hkA,hzk,ezk,hkat,hk9,hkw⟩:=kid_z hZ hs hi;have hatl:at_ < Z.length:=(List.getElem?_eq_some_iff.1 hza).1;have hkl:k < Z.length:=(List.getElem?_eq_some_iff.1 hzk).1;have hZl:Z.length<=109951162:=by rw [<-zav,hZ];exact hA
 obtain ⟨nb,no,cap,rfl,hcap⟩:=hR.headLen (by omega);rw [hkA,<-ezk] at hk5;rw [<-eza] at hk hi;have hlen:=hs.len;have ha9:=hs.hi;rw [<-eza] at hlen ha9;have c0:=hR.obj.cell 0 rfl;obtain ⟨a1,a2,a3,a4⟩:=hR.look at_ za hza;obtain ⟨k1,k2,k3,k4⟩:=hR.look k zk hzk;obtain ⟨ka,kcap,hkv,hq1,hq2,hka⟩:=(hR.kids at_ za hza).shape;obtain ⟨kpa,kpcap,hkpv,hkp1,hkp2,hkpa⟩:=(hR.pairs k zk hzk).shape;obtain ⟨kb,ko,rfl⟩:=hka (by omega);have hkk:=hR.kids at_ za hza;rw [hkv] at a2 hkk;rw [hkpv] at k1;have kl:=hkk.cell1 zag i hk rfl;have hatz:(at_:Int) < (Z.length:Int):=by omega
 have hkz:(k:Int) < (Z.length:Int):=by omega
 have hiz:(i:Int) < (za.nd.kids.length:Int):=by omega
 have hi10:(i:Int)<=9:=by omega
 have hk4z:(4:Int) < (zk.nd.pairs.length:Int):=by omega
 have H:=H_ h;clear h hs hkv hkpv hR hkk hlen hkpa a3 a4 k2 k3 k4 hk hkA hF hZ eza ezk hkw hza hzk;go_enter Tryz.func171,Tryz.ntmps171;go_upto_region 2 with fail
 go_quiet (fail)
 have hf1:=Fr.drewN No w nq;generalize w.drewN nq=W1 at hf1 ⊢
 replace c0:=hf1.cell0 c0
 replace a1:=hf1.cell0 a1
 replace a2:=hf1.cell0 a2
 replace k1:=hf1.cell0 k1
 have HF1:=H_ hf1;clear hf1 kl;go_wp2_with fail;go_ret;obtain ⟨nv2,fv2,Z2,hR2,hZ2,hF2⟩:=H.out;exact ⟨⟨_,rfl⟩,F,⟨nv2,fv2,Z2,hR2.fr0 HF1.out,hZ2,hF2⟩,HF1.out.mono (fun _ _ s=>s.elim),fun b hb=>.inl hb⟩
theorem zqu (w:World) (t:Nat) (A:Arr) (fl:List Nat) (root:Nat) (many:Int) (F:Nat->Prop) (h:TreeZ w t A fl root many F) (at_ i:Nat) (hs:zbm A fl at_) (hA:A.length<=109951162) (hi:i < (ndA A at_).kids.length)
 (hpos:1<=(ndA A at_).pairs.length):Calls Tryz.prog 171 #[.pointer (some ⟨t,0,none⟩),.int .i64 at_,.int .i64 i] w (zfu w t F (fillA A fl at_ i).1 (fillA A fl at_ i).2 root many):=by
 unfold fillA;have hlen:=hs.len
 split
 · exact zoa w t A fl root many F h at_ i hs hA hi ‹_›
 rename_i hk4
 split
 · rename_i hl
   obtain ⟨j,rfl⟩:∃ j,i=j+1:=⟨i - 1,by omega⟩;obtain ⟨l,k,nb,no,cap,fv,Z,za,zl,zk,p,hT⟩:=two_z h at_ j hs (by omega) hA;refine znk w t A fl root many F at_ j l k nb no cap fv Z za zl zk p hT ?_ ?_
   · rw [hT.ek,<-hT.hk];omega
   rw [hT.el,<-hT.hl];exact hl.2
 rename_i hl
 obtain ⟨nv,fv,Z,hR,hZ,hF⟩:=id h;obtain ⟨za,hza,eza⟩:=zbj hZ hs.lt;obtain ⟨k,zk,hk,hkA,hzk,ezk,hkat,hk9,hkw⟩:=kid_z hZ hs hi;have hatl:at_ < Z.length:=(List.getElem?_eq_some_iff.1 hza).1;have hZl:Z.length<=109951162:=(by rw [<-zav,hZ];exact hA);obtain ⟨nb,no,cap,rfl,hcap⟩:=hR.headLen (by omega)
 have hP:zku w t A fl root many F at_ i k nb no cap fv Z za zk:=by
  refine ⟨⟨hR,Fr.refl _ w,fun b hb=>.inl ((hF b).2 hb)⟩,hZ,hza,hzk,eza,by rw [eza];exact hk,by rw [ezk,<-hkA];omega,by rw [eza];exact hs.hi,by rw [eza];exact hlen,?_,hZl⟩
  cases i with
  | zero=>exact .inl rfl
  | succ m =>
    obtain ⟨l,zl,h1,h2,h3,h4,h5,h6,h7⟩:=kid_z hZ hs (i:=m) (by omega);refine .inr ⟨m,l,zl,rfl,by rw [eza];exact h1,h3,?_⟩;rw [h4,<-h2];have:=Nat.not_lt.1 (fun x=>hl ⟨Nat.succ_pos m,x⟩);rw [Nat.add_sub_cancel] at this;omega
 split
 · rename_i hn
   obtain ⟨r,zr,h1,h2,h3,h4,h5,h6,h7⟩:=kid_z hZ hs (i:=i+1) hn
   split
   · rename_i hr
     obtain ⟨p,hp⟩:∃ p,(ndA A at_).pairs[i]? = some p:=⟨_,List.getElem?_eq_getElem (by omega)⟩;refine znz w t A fl root many F at_ i k nb no cap fv Z za zk hP r zr p (by rw [eza];exact h1) h3 (by rw [h4,<-h2];exact hr) h6 (by rw [eza];exact hp) hkat h5 ?_ hkw h7 ?_
     · intro e
       have:=hs.apart i (i+1) k hk (by rw [e];exact h1);omega
     rw [ezk,h4];exact hs.both k (List.mem_of_getElem? hk) r (List.mem_of_getElem? h1)
   rename_i hr
   exact zny w t A fl root many F at_ i k nb no cap fv Z za zk hP r zr (by rw [eza];exact h1) h3 (by rw [h4,<-h2];omega) hs
 rename_i hn
 obtain ⟨m,rfl⟩:∃ m,i=m+1:=⟨i - 1,by omega⟩;exact znx w t A fl root many F at_ (m+1) k nb no cap fv Z za zk hP m rfl (by rw [eza];omega) hs
open Go Go.RowKit Go.WideElems Go.ChangeMaps
def MapAt (w:World) (b:Nat) (f:Int->Option Value):Prop :=
 ∃ es clock,w.heap[b]? = some (.map es clock)/\MapKept.Stamped es clock/\(∀ e∈es.toList,∃ n,e.key = .int .i64 n/\(Lit.int .i64 n).wf=true/\f n=some e.val) ∧
  ∀ n v,f n=some v->∃ e∈es.toList,e.key = .int .i64 n/\e.val=v
theorem Fr.setAt {b:Nat} {a w:World} (h:Fr (fun x=>x=b) a w) (i:Nat) (u:Value):Fr (fun x=>x=b) a (w.setCell ⟨b,i,none⟩ u):=h.setCell (p:=⟨b,i,none⟩) (.inl rfl) u
theorem MapAt.lt {w:World} {b:Nat} {f:Int->Option Value} (h:MapAt w b f):b < w.heap.size:=by
 obtain ⟨es,clock,hb,_⟩:=h;exact zac hb
theorem MapAt.keep {w w':World} {b:Nat} {f:Int->Option Value} (h:MapAt w b f) (hk:w'.heap[b]? = w.heap[b]?):MapAt w' b f:=by
 obtain ⟨es,clock,hb,h⟩:=h;exact ⟨es,clock,hk.trans hb,h⟩
theorem MapAt.fr {w w':World} {b:Nat} {f:Int->Option Value} {S:Nat->Prop} (h:MapAt w b f) (hf:Fr S w w') (hn:¬ S b):MapAt w' b f:=h.keep (hf.block b h.lt hn)
theorem MapAt.alloc {w:World} {b:Nat} {f:Int->Option Value} (h:MapAt w b f) (o:Obj):MapAt (w.alloc o) b f:=h.keep (Below.heap_alloc w o b h.lt)
theorem MapAt.made (w:World):MapAt (w.alloc (.map #[] 0)) w.heap.size fun _=>none :=
 ⟨#[],0,heap_alloc_new w _,MapKept.stamped_empty 0,by simp,by simp⟩
theorem MapAt.apart {w:World} {b:Nat} {f:Int->Option Value} (h:MapAt w b f) {cs:List Value} {c:Nat} (hc:Has w c cs):b≠c:=by
 rintro rfl;obtain ⟨es,clock,hb,_⟩:=h;obtain ⟨e,hc⟩:=hc;rw [hb] at hc;cases hc
section
variable {P:Program} {w:World} {b:Nat} {f:Int->Option Value} {t k e:TypeId}
theorem zno (hk:P.underlying k=some (.int .i64)) {es:List MapEntry} (h:∀ e∈es,∃ n,e.key = .int .i64 n/\(Lit.int .i64 n).wf=true/\f n=some e.val):∀ e∈es,∃ l,keyOf P k e.key=some l:=by
 intro e he;obtain ⟨n,h1,h2,_⟩:=h e he;exact ⟨_,by rw [h1];exact Maps.keyOf_int_mk hk h2⟩
theorem MapAt.look (h:MapAt w b f) (ht:P.underlying t=some (.map k e)) (hk:P.underlying k=some (.int .i64)) {n:Int} (hn:(Lit.int .i64 n).wf=true) {z:Value} (hz:(zeroValue e).run P w = .ok z w) :
 (Instr.lookup t (.map (some b)) (.int .i64 n) false).run P w = .ok ((f n).getD z) w:=by
 obtain ⟨es,clock,hb,hst,h1,h2⟩:=h;have K:=Maps.int_keyed hk;have hkey:=Maps.keyOf_int_mk hk hn;rcases K.find w hkey es.toList (zno hk h1) with ⟨g1,g2⟩ | ⟨j,e0,g1,g2,g3⟩
 · have:f n=none:=by
    cases hf:f n with
    | none=>rfl
    | some v =>
      obtain ⟨e1,he1,hek,_⟩:=h2 n v hf;exact absurd hek (g2 e1 he1)
   simp [Instr.lookup,run_underlying ht,MapKept.run_getObj_map hb,K.check w _ hkey,g1,hz,Result.andThen,this]
 obtain ⟨m,hm,_,hfm⟩:=h1 e0 (List.mem_of_getElem? g2)
 rw [g3] at hm;cases hm;simp [Instr.lookup,run_underlying ht,MapKept.run_getObj_map hb,K.check w _ hkey,g1,Result.andThen,hfm]
theorem MapAt.store (h:MapAt w b f) (ht:P.underlying t=some (.map k e)) (hk:P.underlying k=some (.int .i64)) {n:Int} (hn:(Lit.int .i64 n).wf=true) (v:Value) :
 ∃ w',(Instr.mapUpdate t (.map (some b)) (.int .i64 n) v).run P w = .ok () w'/\MapAt w' b (fun m=>if m=n then some v else f m)/\Fr (fun x=>x=b) w w'/\w'.heap.size=w.heap.size:=by
 obtain ⟨es,clock,hb,hst,h1,h2⟩:=h;have K:=Maps.int_keyed hk;have hkey:=Maps.keyOf_int_mk hk hn;have hfr:∀ o,Fr (fun x=>x=b) w (setBlock w b o):=fun o=>⟨rfl,rfl,rfl,by simp [setBlock],fun i _ hi=>heap_setBlock_other hb _ hi⟩;rcases K.find w hkey es.toList (zno hk h1) with ⟨g1,g2⟩ | ⟨j,e0,g1,g2,g3⟩
 · refine ⟨setBlock w b (.map (es.push ⟨.int .i64 n,v,clock⟩) (clock+1)),?_,⟨_,_,heap_setBlock_same hb _,MapKept.stamped_push hst g2,?_,?_⟩,hfr _,by simp [setBlock]⟩
   · simp [Instr.mapUpdate,run_underlying ht,MapKept.run_getObj_map hb,K.check w false hkey,g1,MapKept.run_setObj_map _ hb,Result.andThen,setBlock]
   · intro x hx
     simp only [Array.toList_push,List.mem_append,List.mem_singleton] at hx;rcases hx with hx | rfl
     · obtain ⟨m,e1,e2,e3⟩:=h1 x hx
       refine ⟨m,e1,e2,?_⟩;dsimp only;rw [if_neg (fun e=>g2 x hx (by rw [e1,e]))];exact e3
     exact ⟨n,rfl,hn,by simp⟩
   intro m u hu
   simp only [Array.toList_push,List.mem_append,List.mem_singleton];by_cases hmn:m=n
   · subst hmn
     simp at hu;subst hu;exact ⟨_,.inr rfl,rfl,rfl⟩
   dsimp only at hu
   rw [if_neg hmn] at hu;obtain ⟨x,hx,hx'⟩:=h2 m u hu;exact ⟨x,.inl hx,hx'⟩
 have hj:es[j]? = some e0:=by simpa using g2
 have hjl:j < es.size:=(Array.getElem?_eq_some_iff.1 hj).1;have hkeyf:∀ e',es[j]? = some e'->({ e' with key:=.int .i64 n,val:=v }:MapEntry).key=e'.key:=fun e' he'=>by rw [hj] at he';cases he';exact g3.symm
 have hnd:es.toList.Pairwise (fun x y=>x.key≠y.key):=((MapKept.stamped_iff _ _).1 hst).2.2
 have hother:∀ i x,es[i]? = some x->i≠j->x.key ≠ .int .i64 n:=by
  intro i x hx hij e1;have hil:=(Array.getElem?_eq_some_iff.1 hx).1;rw [List.pairwise_iff_getElem] at hnd;have ex:es[i] = x:=(Array.getElem?_eq_some_iff.1 hx).2;have e0':es[j] = e0:=(Array.getElem?_eq_some_iff.1 hj).2;rcases Nat.lt_or_gt_of_ne hij with h | h
  · exact hnd i j (by simpa using hil) (by simpa using hjl) h (by simp [ex,e0',e1,g3])
  exact hnd j i (by simpa using hjl) (by simpa using hil) h (by simp [ex,e0',e1,g3])
 refine ⟨setBlock w b (.map (es.modify j (fun e'=>{ e' with key:=.int .i64 n,val:=v })) clock),?_,
  ⟨_,_,heap_setBlock_same hb _,MapKept.stamped_modify hst _ _ (fun _ _=>rfl) (fun e' _ he'=>hkeyf e' he'),?_,?_⟩,hfr _,by simp [setBlock]⟩
 · simp [Instr.mapUpdate,run_underlying ht,MapKept.run_getObj_map hb,K.check w false hkey,g1,hj,g3,K.stays w hkey,MapKept.run_setObj_map _ hb,Result.andThen,setBlock]
 · intro x hx
   obtain ⟨i,hi⟩:=List.getElem?_of_mem hx;have hi':(es.modify j (fun e'=>{ e' with key:=.int .i64 n,val:=v }))[i]? = some x:=(by rw [Array.getElem?_toList] at hi;exact hi);rw [Array.getElem?_modify] at hi';by_cases hji:j=i
   · rw [if_pos hji] at hi'
     obtain ⟨y,hy,rfl⟩:=Option.map_eq_some_iff.1 hi';exact ⟨n,rfl,hn,by simp⟩
   rw [if_neg hji] at hi'
   obtain ⟨m,e1,e2,e3⟩:=h1 x (List.mem_of_getElem? (by simpa using hi'));refine ⟨m,e1,e2,?_⟩;dsimp only;rw [if_neg (fun e=>hother i x hi' (fun e'=>hji e'.symm) (by rw [e1,e]))];exact e3
 intro m u hu
 by_cases hmn:m=n
 · subst hmn
   simp at hu;subst hu;refine ⟨{ e0 with key:=.int .i64 m,val:=v },?_,rfl,rfl⟩;refine List.mem_of_getElem? (i:=j) ?_;have:(es.modify j (fun e'=>{ e' with key:=.int .i64 m,val:=v }))[j]? = some { e0 with key:=.int .i64 m,val:=v }:=(by rw [Array.getElem?_modify,if_pos rfl,hj];rfl);rw [Array.getElem?_toList];exact this
 dsimp only at hu
 rw [if_neg hmn] at hu;obtain ⟨x,hx,hx1,hx2⟩:=h2 m u hu;obtain ⟨i,hi⟩:=List.getElem?_of_mem hx;have hi':es[i]? = some x:=(by simpa using hi)
 have hij:j≠i:=by
  rintro rfl;rw [hj] at hi';cases hi';rw [g3] at hx1;cases hx1;exact hmn rfl
 refine ⟨x,List.mem_of_getElem? (i:=i) ?_,hx1,hx2⟩;have:(es.modify j (fun e'=>{ e' with key:=.int .i64 n,val:=v }))[i]? = some x:=(by rw [Array.getElem?_modify,if_neg hij];exact hi');rw [Array.getElem?_toList];exact this
theorem MapAt.drop (h:MapAt w b f) (ht:P.underlying t=some (.map k e)) (hk:P.underlying k=some (.int .i64)) {n:Int} (hn:(Lit.int .i64 n).wf=true) (ty:TypeId) :
 ∃ w',(Builtin.delete_ #[t,k] ty #[.map (some b),.int .i64 n]).run P w = .ok (.tuple #[]) w'/\MapAt w' b (fun m=>if m=n then none else f m)/\Fr (fun x=>x=b) w w'/\w'.heap.size=w.heap.size:=by
 obtain ⟨es,clock,hb,hst,h1,h2⟩:=h;have K:=Maps.int_keyed hk;have hkey:=Maps.keyOf_int_mk hk hn;have hfr:∀ o,Fr (fun x=>x=b) w (setBlock w b o):=fun o=>⟨rfl,rfl,rfl,by simp [setBlock],fun i _ hi=>heap_setBlock_other hb _ hi⟩;rcases K.find w hkey es.toList (zno hk h1) with ⟨g1,g2⟩ | ⟨j,e0,g1,g2,g3⟩
 · refine ⟨setBlock w b (.map es clock),?_,⟨_,_,heap_setBlock_same hb _,hst,?_,?_⟩,hfr _,by simp [setBlock]⟩
   · simp [Builtin.delete_,run_underlying ht,MapKept.run_getObj_map hb,K.check w _ hkey,g1,MapKept.run_setObj_map _ hb,Result.andThen,setBlock]
   · intro x hx
     obtain ⟨m,e1,e2,e3⟩:=h1 x hx;refine ⟨m,e1,e2,?_⟩;dsimp only;rw [if_neg (fun e=>g2 x hx (by rw [e1,e]))];exact e3
   intro m u hu
   dsimp only at hu
   split at hu
   · cases hu
   exact h2 m u hu
 have hj:es[j]? = some e0:=by simpa using g2
 have hjl:j < es.size:=(Array.getElem?_eq_some_iff.1 hj).1
 have hsub:(es.eraseIdxIfInBounds j).toList=es.toList.eraseIdx j:=by
  unfold Array.eraseIdxIfInBounds;rw [dif_pos hjl];simp
 have hnd:es.toList.Pairwise (fun x y=>x.key≠y.key):=((MapKept.stamped_iff _ _).1 hst).2.2;refine ⟨setBlock w b (.map (es.eraseIdxIfInBounds j) clock),?_,⟨_,_,heap_setBlock_same hb _,MapKept.stamped_erase hst j,?_,?_⟩,hfr _,by simp [setBlock]⟩
 · simp [Builtin.delete_,run_underlying ht,MapKept.run_getObj_map hb,K.check w _ hkey,g1,MapKept.run_setObj_map _ hb,Result.andThen,setBlock]
 · intro x hx
   rw [hsub] at hx;obtain ⟨m,e1,e2,e3⟩:=h1 x ((List.eraseIdx_sublist _ _).subset hx);refine ⟨m,e1,e2,?_⟩;dsimp only;rw [if_neg ?_];exact e3;rintro rfl;obtain ⟨i,hi⟩:=List.mem_iff_getElem?.1 hx;rw [List.pairwise_iff_getElem] at hnd;rw [List.getElem?_eraseIdx] at hi;have e0':es[j] = e0:=(Array.getElem?_eq_some_iff.1 hj).2
   split at hi
   · rename_i hlt
     obtain ⟨hil,hx'⟩:=List.getElem?_eq_some_iff.1 hi;exact hnd i j hil (by simpa using hjl) hlt (by rw [hx',e1];simp [e0',g3])
   rename_i hge
   obtain ⟨hil,hx'⟩:=List.getElem?_eq_some_iff.1 hi;exact hnd j (i+1) (by simpa using hjl) hil (by omega) (by rw [hx',e1];simp [e0',g3])
 intro m u hu
 dsimp only at hu
 split at hu
 · cases hu
 rename_i hmn
 obtain ⟨x,hx,hx1,hx2⟩:=h2 m u hu;refine ⟨x,?_,hx1,hx2⟩;rw [hsub];obtain ⟨i,hi⟩:=List.mem_iff_getElem?.1 hx;refine List.mem_iff_getElem?.2 ?_
 have hij:i≠j:=by
  rintro rfl;have:es.toList[i]? = some e0:=g2;rw [hi] at this;cases this;rw [g3] at hx1;cases hx1;exact hmn rfl
 by_cases hlt:i < j
 · exact ⟨i,by rw [List.getElem?_eraseIdx,if_pos hlt];exact hi⟩
 exact ⟨i - 1,by rw [List.getElem?_eraseIdx,if_neg (by omega),show i - 1+1=i from by omega];exact hi⟩
def mapUpW (P:Program) (t:TypeId) (b:Nat) (n:Int) (v:Value) (w:World):World:=match (Instr.mapUpdate t (.map (some b)) (.int .i64 n) v).run P w with
 | .ok _ w'=>w'
 | .halt _ w'=>w'
theorem MapAt.up (h:MapAt w b f) (ht:P.underlying t=some (.map k e)) (hk:P.underlying k=some (.int .i64)) {n:Int} (hn:(Lit.int .i64 n).wf=true) (v:Value) :
 (Instr.mapUpdate t (.map (some b)) (.int .i64 n) v).run P w = .ok () (mapUpW P t b n v w)/\MapAt (mapUpW P t b n v w) b (fun m=>if m=n then some v else f m)/\Fr (fun x=>x=b) w (mapUpW P t b n v w)/\(mapUpW P t b n v w).heap.size=w.heap.size:=by
 obtain ⟨w',hrun,h1,h2,h3⟩:=h.store ht hk hn v;have e1:mapUpW P t b n v w=w':=by unfold mapUpW;rw [hrun]
 rw [e1];exact ⟨hrun,h1,h2,h3⟩
end
theorem zfn {P:Program} {w:World} {ops:Array Oper} {rest:List Oper} {o:Oper} {a:Act} {Q:Exit->Act->World->Prop} (hg:o.guard=none) (m x:Operand) (t:TypeId) (hop:o.op=Op.lookup t m x false)
 (k e:TypeId) (ht:P.underlying t=some (.map k e)) (hk:P.underlying k=some (.int .i64)) (b:Nat) (f:Int->Option Value) (hm:a.eval m = .map (some b)) (h:MapAt w b f) (n:Int) (hx:a.eval x = .int .i64 n)
 (hn:(Lit.int .i64 n).wf=true) (z:Value) (hz:(zeroValue e).run P w = .ok z w) (v:Value) (hv:(f n).getD z=v) (hK:wpList P ops Q rest (a.put o.dst v) w):wpList P ops Q (o :: rest) a w:=by
 refine wpList_plain hg fun K' hK'=>?_;have hrun:=h.look ht hk hn hz;rw [hv] at hrun;unfold Oper.wp;simp [execOp,hop,hm,hx,hrun,Result.andThen];exact hK' _ _ hK
theorem zej {P:Program} {w:World} {ops:Array Oper} {rest:List Oper} {o:Oper} {a:Act} {Q:Exit->Act->World->Prop} (hg:o.guard=none) (m x v:Operand) (t:TypeId) (hop:o.op=Op.mapUpdate t m x v)
 (k e:TypeId) (ht:P.underlying t=some (.map k e)) (hk:P.underlying k=some (.int .i64)) (b:Nat) (f:Int->Option Value) (hm:a.eval m = .map (some b)) (h:MapAt w b f) (n:Int) (hx:a.eval x = .int .i64 n)
 (hn:(Lit.int .i64 n).wf=true) (u:Value) (hv:a.eval v=u)
 (hK:∀ w',MapAt w' b (fun m=>if m=n then some u else f m)->Fr (fun x=>x=b) w w'->w'.heap.size=w.heap.size->wpList P ops Q rest (a.put o.dst undef) w'):wpList P ops Q (o :: rest) a w:=by
 refine wpList_plain hg fun K' hK'=>?_;obtain ⟨w',hrun,r1,r2,r3⟩:=h.store ht hk hn u;unfold Oper.wp;simp [execOp,hop,hm,hx,hv,hrun,Result.andThen];exact hK' _ _ (hK w' r1 r2 r3)
end Go.Proofs.YthljnnjpmdgkoaaGreat