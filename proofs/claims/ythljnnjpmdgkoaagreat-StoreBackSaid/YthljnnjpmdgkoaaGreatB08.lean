/- Own lemmas and contracts that the claim's proof needs, laid together. The conditions stand in each. -/
import Derived.Test.YthljnnjpmdgkoaaGreatB07
import Derived.BigRegion
namespace Go.Proofs.YthljnnjpmdgkoaaGreat
open Go Go.Proofs Go.RowKit
set_option maxRecDepth 100000
def zfu (w:World) (t:Nat) (F:Nat->Prop) (A:Arr) (fl:List Nat) (root:Nat) (many:Int) (e:Ending) (w':World):Prop :=
 (∃ v,e = .returned v)/\∃ F',TreeZ w' t A fl root many F'/\Fr F w w'/\(∀ b,F' b->F b\/w.heap.size<=b)
structure TwoZ (w:World) (t:Nat) (A:Arr) (fl:List Nat) (root:Nat) (many:Int) (F:Nat->Prop) (at_ j l k nb no cap:Nat) (fv:Value) (Z:List Nz) (za zl zk:Nz) (p:ByteArray × Int):Prop where
 at0:AtZ w w t nb no cap fv Z fl root many F
 nds:ndsZ Z=A
 ga:Z[at_]? = some za
 gl:Z[l]? = some zl
 gk:Z[k]? = some zk
 ea:za.nd=ndA A at_
 el:zl.nd=ndA A l
 ek:zk.nd=ndA A k
 la:l≠at_
 ka:k≠at_
 lk:l≠k
 gp:za.nd.pairs[j]? = some p
 kl:za.nd.kids[j]? = some l
 kk:za.nd.kids[j+1]? = some k
 len:za.nd.kids.length=za.nd.pairs.length+1
 a9:za.nd.pairs.length<=9
 l9:zl.nd.pairs.length<=9
 k9:zk.nd.pairs.length<=9
 lw:zl.nd.kids = []\/zl.nd.kids.length=zl.nd.pairs.length+1
 kw:zk.nd.kids = []\/zk.nd.kids.length=zk.nd.pairs.length+1
 both:zl.nd.kids = [] ↔ zk.nd.kids = []
 hl:kidA A at_ j=l
 hk:kidA A at_ (j+1)=k
 few:Z.length<=109951162
theorem two_z {w:World} {t:Nat} {A:Arr} {fl:List Nat} {root:Nat} {many:Int} {F:Nat->Prop} (h:TreeZ w t A fl root many F) (at_ j:Nat) (hs:zbm A fl at_) (hi:j < (ndA A at_).pairs.length) (hA:A.length<=109951162) :
 ∃ l k nb no cap fv Z za zl zk p,TwoZ w t A fl root many F at_ j l k nb no cap fv Z za zl zk p:=by
 obtain ⟨l,hl⟩:∃ l,(ndA A at_).kids[j]? = some l:=⟨_,List.getElem?_eq_getElem (by have:=hs.len;omega)⟩;obtain ⟨k,hk⟩:∃ k,(ndA A at_).kids[j+1]? = some k:=⟨_,List.getElem?_eq_getElem (by have:=hs.len;omega)⟩;obtain ⟨p,hp⟩:∃ p,(ndA A at_).pairs[j]? = some p:=⟨_,List.getElem?_eq_getElem hi⟩;have hkl:kidA A at_ j=l:=by unfold kidA;simp [List.getD,hl]
 have hkr:kidA A at_ (j+1)=k:=by unfold kidA;simp [List.getD,hk]
 obtain ⟨l1,l2,l3,l4⟩:=hs.kid l (List.mem_of_getElem? hl);obtain ⟨r1,r2,r3,r4⟩:=hs.kid k (List.mem_of_getElem? hk);have hlr:l≠k:=fun e=>by have:=hs.apart j (j+1) l hl (by rw [e];exact hk);omega
 obtain ⟨nv,fv,Z,hR,hZ,hF⟩:=h;obtain ⟨za,hza,eza⟩:=zbj hZ hs.lt;obtain ⟨zl,hzl,ezl⟩:=zbj hZ l1;obtain ⟨zk,hzk,ezk⟩:=zbj hZ r1;have hatl:at_ < Z.length:=(List.getElem?_eq_some_iff.1 hza).1;obtain ⟨nb,no,cap,rfl,hcap⟩:=hR.headLen (by omega)
 exact ⟨l,k,nb,no,cap,fv,Z,za,zl,zk,p,⟨hR,Fr.refl _ w,fun b hb=>.inl ((hF b).2 hb)⟩,hZ,hza,hzl,hzk,eza,ezl,ezk,l2,r2,hlr,by rw [eza];exact hp,by rw [eza];exact hl,by rw [eza];exact hk,
  by rw [eza];exact hs.len,by rw [eza];exact hs.hi,by rw [ezl];exact l3,by rw [ezk];exact r3,by rw [ezl];exact l4,by rw [ezk];exact r4,
  by rw [ezl,ezk];exact hs.both l (List.mem_of_getElem? hl) k (List.mem_of_getElem? hk),hkl,hkr,by rw [<-zav,hZ];exact hA⟩
set_option maxHeartbeats 8000000 in
theorem znk (w:World) (t:Nat) (A:Arr) (fl:List Nat) (root:Nat) (many:Int) (F:Nat->Prop) (at_ j l k nb no cap:Nat) (fv:Value) (Z:List Nz) (za zl zk:Nz) (p:ByteArray × Int) (h:TwoZ w t A fl root many F at_ j l k nb no cap fv Z za zl zk p)
 (hk4:zk.nd.pairs.length<=4) (hl5:4 < zl.nd.pairs.length) :
 Calls Tryz.prog 171 #[.pointer (some ⟨t,0,none⟩),.int .i64 at_,.int .i64 ((j+1:Nat):Int)] w (zfu w t F (lendL A at_ (j+1)) fl root many):=by
 obtain ⟨x,hx⟩:∃ x,zl.nd.pairs[zl.nd.pairs.length - 1]? = some x:=⟨_,List.getElem?_eq_getElem (by omega)⟩
 have hj:lendL A at_ (j+1)=((A.set k ⟨p :: zk.nd.pairs,zl.nd.kids.drop zl.nd.pairs.length++zk.nd.kids⟩).set at_ ⟨za.nd.pairs.set j x,za.nd.kids⟩).set l ⟨zl.nd.pairs.take (zl.nd.pairs.length - 1),zl.nd.kids.take zl.nd.pairs.length⟩:=by
  unfold lendL;rw [Nat.add_sub_cancel,h.hl,h.hk,<-h.ea,<-h.el,<-h.ek];simp [List.getD,h.gp,hx]
 have hR:=h.at0.r;have hZl:=h.few;have hatl:at_ < Z.length:=(List.getElem?_eq_some_iff.1 h.ga).1;have hll:l < Z.length:=(List.getElem?_eq_some_iff.1 h.gl).1;have hkl:k < Z.length:=(List.getElem?_eq_some_iff.1 h.gk).1;have c0:=hR.obj.cell 0 rfl;obtain ⟨a1,a2,a3,a4⟩:=hR.look at_ za h.ga;obtain ⟨l1,l2,l3,l4⟩:=hR.look l zl h.gl;obtain ⟨k1,k2,k3,k4⟩:=hR.look k zk h.gk;obtain ⟨pa,pcap,hpv,hp1,hp2,hpa⟩:=(hR.pairs at_ za h.ga).shape;obtain ⟨ka,kcap,hkv,hq1,hq2,hka⟩:=(hR.kids at_ za h.ga).shape;obtain ⟨la,lcap,hlv,hlc1,hlc2,hlaa⟩:=(hR.pairs l zl h.gl).shape;obtain ⟨kpa,kpcap,hkpv,_,_,_⟩:=(hR.pairs k zk h.gk).shape;have hlen:=h.len;have hjl:=(List.getElem?_eq_some_iff.1 h.gp).1;obtain ⟨pb,po,rfl⟩:=hpa (by omega);obtain ⟨kb,ko,rfl⟩:=hka (by omega);obtain ⟨lb,lo,rfl⟩:=hlaa (by omega)
 have hkk:=hR.kids at_ za h.ga;rw [hkv] at a2 hkk;rw [hkpv] at k1;rw [hlv] at l1;have kl:=hkk.cell1 zag j h.kl rfl;have kr:=hkk.cell1 zag (j+1) h.kk rfl;have hatz:(at_:Int) < (Z.length:Int):=by omega
 have hlz:(l:Int) < (Z.length:Int):=by omega
 have hrz:(k:Int) < (Z.length:Int):=by omega
 have hiz:(j:Int) < (za.nd.kids.length:Int):=by omega
 have hiz1:(j:Int)+1 < (za.nd.kids.length:Int):=by omega
 have hiz2:(0:Int)<=(j:Int)+1:=by omega
 have hiz3:((j:Int)+1).toNat=j+1:=by omega
 have hiz4:(j:Int) < (za.nd.pairs.length:Int):=by omega
 have hk4z:¬ (4:Int) < (zk.nd.pairs.length:Int):=by omega
 have hl5z:(4:Int) < (zl.nd.pairs.length:Int):=by omega
 have hpz:(0:Int) < (j:Int)+1:=by omega
 have hl9z:(zl.nd.pairs.length:Int)<=9:=by have:=h.l9;omega
 have hj9:(j:Int)<=9:=by have:=h.a9;omega
 have H:=H_ h;have HX:=H_ hx;have HJ:=H_ hj;have HPV:=H_ hpv;have HLV:=H_ hlv;have HKPV:=H_ hkpv;have hjA:j+1 < za.nd.kids.length:=by omega
 clear h hx hj hpv hlv hkv hkpv hR hkk hlen hpa hka hlaa a3 a4 l2 l3 l4 k2 k3 k4;go_enter Tryz.func171,Tryz.ntmps171;go_upto_region 2 with fail
 go_quiet (fail)
 have hf1:=Fr.drewN No w nq;generalize w.drewN nq=W1 at hf1 ⊢
 replace c0:=hf1.cell0 c0
 replace a1:=hf1.cell0 a1
 replace a2:=hf1.cell0 a2
 replace l1:=hf1.cell0 l1
 replace k1:=hf1.cell0 k1
 replace kl:=hf1.cell0 kl
 have HF1:=H_ hf1;clear hf1 kr;go_upto_region 6 with fail;have hw1:IntKind.i64.wrap ((j:Int)+1 - 1)=(j:Int):=by rw [IntKind.wrap_i64];omega
 have hw2:IntKind.i64.wrap (j:Int)=(j:Int):=by rw [IntKind.wrap_i64];omega
 go_quiet (fail)
 clear hw1 hw2;have hf2:=Fr.drewN No W1 nq;generalize W1.drewN nq=W2 at hf2 ⊢
 replace c0:=hf2.cell0 c0
 replace l1:=hf2.cell0 l1
 have hZ2:=(H.out.at0.fr0 HF1.out).fr0 hf2;have HZ2:=H_ hZ2;clear hf2 hZ2 a1 a2 k1 kl;go_upto_region 9 with fail
 go_cut [64] (fun _ wx=>∃ v2,Hid (AtZ w wx t nb no cap fv (Z.set k ⟨⟨p :: zk.nd.pairs,zk.nd.kids⟩,v2,zk.kv⟩) fl root many F))
 case first =>
  have hR:=HZ2.out.r;obtain ⟨b1,_,b3,_⟩:=hR.look at_ za H.out.ga;obtain ⟨d1,_,d3,_⟩:=hR.look k zk H.out.gk;rw [HPV.out] at b1;have hpp:=hR.pairs at_ za H.out.ga;rw [HPV.out] at hpp;have x0:=hpp.cell0 zae j H.out.gp rfl;have x1:=hpp.cell zae j 1 H.out.gp rfl;have hkp:=hR.pairs k zk H.out.gk;have hpn:¬ zk.pv.ownBlock=some nb:=fun e=>(hR.a2 k _ nb H.out.gk (.inl e)).2.1 rfl;rw [HKPV.out] at d1 hkp hpn;have hln:nb < W2.heap.size:=hR.nodes.lt nb rfl;have HKP:=H_ hkp;have hkb9:zk.nd.pairs.length<=1099511627:=(by omega);have hw1:IntKind.i64.wrap ((j:Int)+1 - 1)=(j:Int):=(by rw [IntKind.wrap_i64];omega);have hw2:IntKind.i64.wrap (j:Int)=(j:Int):=(by rw [IntKind.wrap_i64];omega);have hj0:(0:Int)<=(j:Int):=(by omega);clear hR hpp hkp c0 l1
  go_region_law (go_simp;go_at_call 158;refine (zds _ _ zk.nd.pairs 0 p (HKP.out.drew) (Nat.zero_le _) hkb9).mono ?_;rintro e w3 ⟨g3,o3,c3,rfl,hs3,hf3,hg3⟩
                 have y1:=hf3.cell d1 hpn;have y2:=hf3.free d1 d3 hpn;have HS3:=H_ hs3;have HG3:=H_ hg3;have HF3:=H_ hf3;clear hs3 hg3 hf3)
  all_goals
   have hF:Fr (fun b=>zk.pv.ownBlock=some b) W2 w3:=(Fr.refl _ W2).drew.trans HF3.out fun b _ e=>by rw [HKPV.out];exact e
   have hq:=HZ2.out.setPairs (w1:=w3) (pv':=.slice (some ⟨g3,o3,none⟩) (zk.nd.pairs.length+1) c3) (P':=p :: zk.nd.pairs) k zk H.out.gk hF (by have:=HS3.out;simpa using this) fun b e=>by
    obtain rfl:g3=b:=by simpa [Value.ownBlock] using e
    rcases HG3.out with e | e
    · left;rw [HKPV.out];exact e
    exact .inr e
   have HQ:=H_ hq;clear hq hF;go_wp2_with fail;go_meet
   case rel=>exact ⟨_,HQ⟩
 case rest =>
  obtain ⟨v2,HQ⟩:=hcut;have hgl2:(Z.set k ⟨⟨p :: zk.nd.pairs,zk.nd.kids⟩,v2,zk.kv⟩)[l]? = some zl:=(by rw [List.getElem?_set_ne (Ne.symm H.out.lk)];exact H.out.gl);have hga2:(Z.set k ⟨⟨p :: zk.nd.pairs,zk.nd.kids⟩,v2,zk.kv⟩)[at_]? = some za:=(by rw [List.getElem?_set_ne H.out.ka];exact H.out.ga);have hgk2:(Z.set k ⟨⟨p :: zk.nd.pairs,zk.nd.kids⟩,v2,zk.kv⟩)[k]? = some ⟨⟨p :: zk.nd.pairs,zk.nd.kids⟩,v2,zk.kv⟩:=List.getElem?_set_self hkl;have hnd2:ndsZ (Z.set k ⟨⟨p :: zk.nd.pairs,zk.nd.kids⟩,v2,zk.kv⟩)=A.set k ⟨p :: zk.nd.pairs,zk.nd.kids⟩:=(by rw [zax,H.out.nds]);have hzl2:(Z.set k ⟨⟨p :: zk.nd.pairs,zk.nd.kids⟩,v2,zk.kv⟩).length=Z.length:=(by simp);generalize Z.set k ⟨⟨p :: zk.nd.pairs,zk.nd.kids⟩,v2,zk.kv⟩=Z2 at HQ hgl2 hga2 hgk2 hnd2 hzl2;have hR:=HQ.out.r;obtain ⟨b1,_,b3,_⟩:=hR.look at_ za hga2
  obtain ⟨e1,_,e3,_⟩:=hR.look l zl hgl2;have hpp:=hR.pairs at_ za hga2;have hlp:=hR.pairs l zl hgl2;rw [HPV.out] at b1 hpp;rw [HLV.out] at e1 hlp;have y0:=hlp.cell0 zae _ HX.out rfl;have y1:=hlp.cell zae _ 1 HX.out rfl;have z0:=hpp.cell0 zae j H.out.gp rfl;have z1:=hpp.cell zae j 1 H.out.gp rfl;have zf0:=hpp.free (po+j * 2);have zf1:=hpp.free (po+j * 2+1);have hln:nb < wc.heap.size:=hR.nodes.lt nb rfl;have hlpb:pb < wc.heap.size:=hpp.lt pb rfl;have hllb:lb < wc.heap.size:=hlp.lt lb rfl;have hst:=HQ.out.setPair at_ za hga2 HPV.out p x H.out.gp;have hn1:(0:Int)<=(zl.nd.pairs.length:Int) - 1:=(by omega);have hn2:(zl.nd.pairs.length:Int) - 1 < (zl.nd.pairs.length:Int):=(by omega);have hn3:((zl.nd.pairs.length:Int) - 1).toNat=zl.nd.pairs.length - 1:=(by omega);have HST:=H_ hst;have HGL2:=H_ hgl2
  have HGA2:=H_ hga2;have HGK2:=H_ hgk2;have HND2:=H_ hnd2;have HZL2:=H_ hzl2;clear hR hpp hlp hst hgl2 hga2 hgk2 hnd2 hzl2 c0 l1;go_upto_region 10 with fail;have hw1:IntKind.i64.wrap ((j:Int)+1 - 1)=(j:Int):=(by rw [IntKind.wrap_i64];omega);have hw2:IntKind.i64.wrap (j:Int)=(j:Int):=(by rw [IntKind.wrap_i64];omega);have hj0:(0:Int)<=(j:Int):=(by omega)
  go_region
  clear hw1 hw2;have hq:=HST.out.fr0 (Fr.refl No _).drew;generalize (((wc.setCell ⟨pb,po+j * 2,none⟩ (.string x.1)).setCell ⟨pb,po+j * 2+1,none⟩ (.int .i64 x.2))).drew=W4 at hq ⊢
  have hatl2:at_ < Z2.length:=(by have:=HZL2.out;omega);have hgl4:(Z2.set at_ ⟨⟨za.nd.pairs.set j x,za.nd.kids⟩,za.pv,za.kv⟩)[l]? = some zl:=(by rw [List.getElem?_set_ne (Ne.symm H.out.la)];exact HGL2.out);have hgk4:(Z2.set at_ ⟨⟨za.nd.pairs.set j x,za.nd.kids⟩,za.pv,za.kv⟩)[k]? = some ⟨⟨p :: zk.nd.pairs,zk.nd.kids⟩,v2,zk.kv⟩:=(by rw [List.getElem?_set_ne (Ne.symm H.out.ka)];exact HGK2.out);have hnd4:ndsZ (Z2.set at_ ⟨⟨za.nd.pairs.set j x,za.nd.kids⟩,za.pv,za.kv⟩)=(A.set k ⟨p :: zk.nd.pairs,zk.nd.kids⟩).set at_ ⟨za.nd.pairs.set j x,za.nd.kids⟩:=(by rw [zax,HND2.out]);have hzl4:(Z2.set at_ ⟨⟨za.nd.pairs.set j x,za.nd.kids⟩,za.pv,za.kv⟩).length=Z.length:=(by rw [List.length_set];exact HZL2.out);generalize Z2.set at_ ⟨⟨za.nd.pairs.set j x,za.nd.kids⟩,za.pv,za.kv⟩=Z4 at hq hgl4 hgk4 hnd4 hzl4;have hR:=hq.r
  obtain ⟨e1,e2,e3,e4⟩:=hR.look l zl hgl4;have hlp:=hR.pairs l zl hgl4;rw [HLV.out] at e1 hlp;have hn4:(zl.nd.pairs.length:Int) - 1<=(lcap:Int):=(by omega);have hln4:nb < W4.heap.size:=hR.nodes.lt nb rfl;have htk:=SlF.take zae hlp (zl.nd.pairs.length - 1) (by omega);have hset:=hq.setPairs (w1:=W4) (pv':=.slice (some ⟨lb,lo,none⟩) (zl.nd.pairs.length - 1) lcap) (P':=zl.nd.pairs.take (zl.nd.pairs.length - 1)) l zl hgl4 (Fr.refl _ W4) htk fun b e=>.inl (by rw [HLV.out];exact e);have HSET:=H_ hset;have HGL4:=H_ hgl4;have HGK4:=H_ hgk4;have HND4:=H_ hnd4;have HZL4:=H_ hzl4;clear hR hlp htk hset hq hgl4 hgk4 hnd4 hzl4 y0 y1 z0 z1 zf0 zf1 b1 b3 e2 e4;go_upto_region 12 with fail;generalize W4.setCell ⟨nb,no+l * 2,none⟩ (.slice (some ⟨lb,lo,none⟩) (zl.nd.pairs.length - 1) lcap)=W5 at HSET ⊢
  have hll4:l < Z4.length:=(by have:=HZL4.out;omega);have hgl5:(Z4.set l ⟨⟨zl.nd.pairs.take (zl.nd.pairs.length - 1),zl.nd.kids⟩,.slice (some ⟨lb,lo,none⟩) (zl.nd.pairs.length - 1) lcap,zl.kv⟩)[l]? = some ⟨⟨zl.nd.pairs.take (zl.nd.pairs.length - 1),zl.nd.kids⟩,.slice (some ⟨lb,lo,none⟩) (zl.nd.pairs.length - 1) lcap,zl.kv⟩:=List.getElem?_set_self hll4;have hgk5:(Z4.set l ⟨⟨zl.nd.pairs.take (zl.nd.pairs.length - 1),zl.nd.kids⟩,.slice (some ⟨lb,lo,none⟩) (zl.nd.pairs.length - 1) lcap,zl.kv⟩)[k]? = some ⟨⟨p :: zk.nd.pairs,zk.nd.kids⟩,v2,zk.kv⟩:=(by rw [List.getElem?_set_ne H.out.lk];exact HGK4.out)
  have hnd5:ndsZ (Z4.set l ⟨⟨zl.nd.pairs.take (zl.nd.pairs.length - 1),zl.nd.kids⟩,.slice (some ⟨lb,lo,none⟩) (zl.nd.pairs.length - 1) lcap,zl.kv⟩)=((A.set k ⟨p :: zk.nd.pairs,zk.nd.kids⟩).set at_ ⟨za.nd.pairs.set j x,za.nd.kids⟩).set l ⟨zl.nd.pairs.take (zl.nd.pairs.length - 1),zl.nd.kids⟩:=(by rw [zax,HND4.out]);have hzl5:(Z4.set l ⟨⟨zl.nd.pairs.take (zl.nd.pairs.length - 1),zl.nd.kids⟩,.slice (some ⟨lb,lo,none⟩) (zl.nd.pairs.length - 1) lcap,zl.kv⟩).length=Z.length:=(by rw [List.length_set];exact HZL4.out);have hq5:=HSET.out;generalize Z4.set l ⟨⟨zl.nd.pairs.take (zl.nd.pairs.length - 1),zl.nd.kids⟩,.slice (some ⟨lb,lo,none⟩) (zl.nd.pairs.length - 1) lcap,zl.kv⟩=Z5 at hq5 hgl5 hgk5 hnd5 hzl5;have hR:=hq5.r;obtain ⟨_,e2,_,e4⟩:=hR.look l _ hgl5;have hlk:=hR.kids l _ hgl5;dsimp only at e2 e4 hlk
  obtain ⟨ca,ccap,hcv,hcc1,hcc2,hcca⟩:=hlk.shape;rw [hcv] at e2 hlk;have hln5:nb < W5.heap.size:=hR.nodes.lt nb rfl;have HQ5:=H_ hq5;have HGL5:=H_ hgl5;have HGK5:=H_ hgk5;have HND5:=H_ hnd5;have HZL5:=H_ hzl5;have HCV:=H_ hcv;clear hq5 hgl5 hgk5 hnd5 hzl5 hcv HSET HGL4 HGK4 HND4 HZL4 HGL2 HGA2 HGK2 HND2 HZL2 HST HQ HZ2 HF1 e1 e3;rcases H.out.lw with hl0 | hl1
  · have hk0:=H.out.both.1 hl0
    have hll0:zl.nd.kids.length=0:=(by rw [hl0];rfl);have hzn:¬ (0:Int) < (zl.nd.kids.length:Int):=(by omega);have HL0:=H_ hl0;have HK0:=H_ hk0;clear hl0 hk0 hll0 hR hlk;go_wp2;go_ret;refine ⟨⟨_,rfl⟩,_,⟨_,_,_,HQ5.out.r,?_,fun b=>Iff.rfl⟩,HQ5.out.fr,HQ5.out.new⟩;rw [HND5.out,HJ.out,HL0.out,HK0.out];simp
  have hzn:(0:Int) < (zl.nd.kids.length:Int):=by omega
  obtain ⟨cb,co,rfl⟩:=hcca (by omega);obtain ⟨c,hc⟩:∃ c,zl.nd.kids[zl.nd.pairs.length]? = some c:=⟨_,List.getElem?_eq_getElem (by omega)⟩;have hkc:=hlk.cell1 zag _ hc rfl;have hkl10:(zl.nd.kids.length:Int)=(zl.nd.pairs.length:Int)+1:=(by omega);have HKL10:=H_ hkl10;have hm1:(zl.nd.pairs.length:Int) < (zl.nd.kids.length:Int):=(by omega);have hm2:(zl.nd.pairs.length:Int)<=(ccap:Int):=(by omega);have hgkr:=HGK5.out;obtain ⟨_,f2,_,f4⟩:=hR.look k _ hgkr;have hkkk:=hR.kids k _ hgkr;dsimp only at f2 f4 hkkk;have hkn:¬ zk.kv.ownBlock=some nb:=fun e=>(hR.a2 k _ nb hgkr (.inr e)).2.1 rfl
  have hk10:zk.nd.kids.length<=1000:=by
   rcases H.out.kw with e | e
   · rw [e];simp
   have:=H.out.k9;omega
  have HKKK:=H_ hkkk;have HC:=H_ hc;have HLK:=H_ hlk;have hlcb:cb < W5.heap.size:=hlk.lt cb rfl;clear hR hlk hkkk hgkr hkl10 hl1 hc;go_upto_region 13 with fail;have hw1:IntKind.i64.wrap ((zl.nd.pairs.length:Int) - 1+1)=(zl.nd.pairs.length:Int):=(by rw [IntKind.wrap_i64];omega);have hw2:IntKind.i64.wrap (zl.nd.pairs.length:Int)=(zl.nd.pairs.length:Int):=(by rw [IntKind.wrap_i64];omega);have hw3:(0:Int)<=(zl.nd.pairs.length:Int):=(by omega)
  go_region_law (go_simp;go_at_call 177;refine (zgw _ _ zk.nd.kids 0 c (HKKK.out.drew) (Nat.zero_le _) hk10).mono ?_;rintro e w7 ⟨g7,o7,c7,rfl,hs7,hf7,hg7⟩
                 have y1:=hf7.cell f2 hkn;have y2:=hf7.free f2 f4 hkn;have HS7:=H_ hs7;have HG7:=H_ hg7;have HF7:=H_ hf7;clear hs7 hg7 hf7)
  all_goals
   clear hw1 hw2;have hF:Fr (fun b=>zk.kv.ownBlock=some b) W5 w7:=(Fr.refl _ W5).drew.trans HF7.out fun b _ e=>e
   have hq:=HQ5.out.setKids (w1:=w7) (kv':=.slice (some ⟨g7,o7,none⟩) (zk.nd.kids.length+1) c7) (K':=c :: zk.nd.kids) k _ HGK5.out hF (by have:=HS7.out;simpa using this) fun b e=>by
    obtain rfl:g7=b:=by simpa [Value.ownBlock] using e
    exact HG7.out
   generalize w7.setCell ⟨nb,no+k * 2+1,none⟩ (.slice (some ⟨g7,o7,none⟩) (zk.nd.kids.length+1) c7)=W8 at hq ⊢
   have hgl8:(Z5.set k ⟨⟨p :: zk.nd.pairs,c :: zk.nd.kids⟩,v2,.slice (some ⟨g7,o7,none⟩) (zk.nd.kids.length+1) c7⟩)[l]? = some ⟨⟨zl.nd.pairs.take (zl.nd.pairs.length - 1),zl.nd.kids⟩,.slice (some ⟨lb,lo,none⟩) (zl.nd.pairs.length - 1) lcap,zl.kv⟩:=(by rw [List.getElem?_set_ne (Ne.symm H.out.lk)];exact HGL5.out);have hnd8:ndsZ (Z5.set k ⟨⟨p :: zk.nd.pairs,c :: zk.nd.kids⟩,v2,.slice (some ⟨g7,o7,none⟩) (zk.nd.kids.length+1) c7⟩)=((((A.set k ⟨p :: zk.nd.pairs,zk.nd.kids⟩).set at_ ⟨za.nd.pairs.set j x,za.nd.kids⟩).set l ⟨zl.nd.pairs.take (zl.nd.pairs.length - 1),zl.nd.kids⟩).set k ⟨p :: zk.nd.pairs,c :: zk.nd.kids⟩):=(by rw [zax,HND5.out]);generalize Z5.set k ⟨⟨p :: zk.nd.pairs,c :: zk.nd.kids⟩,v2,.slice (some ⟨g7,o7,none⟩) (zk.nd.kids.length+1) c7⟩=Z8 at hq hgl8 hnd8;have hR:=hq.r;obtain ⟨_,e2',_,e4'⟩:=hR.look l _ hgl8
   have hlk:=hR.kids l _ hgl8;dsimp only at e2' e4' hlk;rw [HCV.out] at e2' hlk;have htk:=SlF.take zag hlk zl.nd.pairs.length (by have:=HKL10.out;omega);have hset:=hq.setKids (w1:=W8) (kv':=.slice (some ⟨cb,co,none⟩) zl.nd.pairs.length ccap) (K':=zl.nd.kids.take zl.nd.pairs.length) l _ hgl8 (Fr.refl _ W8) htk fun b e=>.inl (by dsimp only;rw [HCV.out];exact e);have hln8:nb < W8.heap.size:=hR.nodes.lt nb rfl;have HSET:=H_ hset;have HND8:=H_ hnd8;clear hset hnd8 hq hgl8 hR hlk htk y1 y2 e2 e4 f2 f4 hkc;go_wp2;go_ret;refine ⟨⟨_,rfl⟩,_,⟨_,_,_,HSET.out.r,?_,fun b=>Iff.rfl⟩,HSET.out.fr,HSET.out.new⟩
   have hdr:zl.nd.kids.drop zl.nd.pairs.length = [c]:=by
    have h1:=HKL10.out;rw [List.drop_eq_getElem_cons (by omega),(List.getElem?_eq_some_iff.1 HC.out).2,List.drop_eq_nil_of_le (by omega)]
   rw [zax,HND8.out,HJ.out,hdr];simp only [List.singleton_append];rw [List.set_comm _ _ H.out.lk,List.set_set,List.set_comm _ _ H.out.ka.symm,List.set_set]
structure zku (w:World) (t:Nat) (A:Arr) (fl:List Nat) (root:Nat) (many:Int) (F:Nat->Prop) (at_ i k nb no cap:Nat) (fv:Value) (Z:List Nz) (za zk:Nz):Prop where
 at0:AtZ w w t nb no cap fv Z fl root many F
 nds:ndsZ Z=A
 ga:Z[at_]? = some za
 gk:Z[k]? = some zk
 ea:za.nd=ndA A at_
 kk:za.nd.kids[i]? = some k
 k4:zk.nd.pairs.length<=4
 a9:za.nd.pairs.length<=9
 len:za.nd.kids.length=za.nd.pairs.length+1
 left:i=0\/∃ m ll zll,i=m+1/\za.nd.kids[m]? = some ll/\Z[ll]? = some zll/\zll.nd.pairs.length<=4
 few:Z.length<=109951162
set_option maxHeartbeats 8000000 in
theorem znx (w:World) (t:Nat) (A:Arr) (fl:List Nat) (root:Nat) (many:Int) (F:Nat->Prop) (at_ i k nb no cap:Nat) (fv:Value) (Z:List Nz) (za zk:Nz) (h:zku w t A fl root many F at_ i k nb no cap fv Z za zk)
 (m:Nat) (hm:i=m+1) (hlast:i+1=za.nd.kids.length) (hs:zbm A fl at_) :
 Calls Tryz.prog 171 #[.pointer (some ⟨t,0,none⟩),.int .i64 at_,.int .i64 i] w (zfu w t F (joinA A at_ m) (fl++[kidA A at_ (m+1)]) root many):=by
 have hR:=h.at0.r;have hZl:=h.few;have hatl:at_ < Z.length:=(List.getElem?_eq_some_iff.1 h.ga).1;have hkl:k < Z.length:=(List.getElem?_eq_some_iff.1 h.gk).1;have c0:=hR.obj.cell 0 rfl;obtain ⟨a1,a2,a3,a4⟩:=hR.look at_ za h.ga;obtain ⟨k1,k2,k3,k4⟩:=hR.look k zk h.gk;obtain ⟨pa,pcap,hpv,hp1,hp2,hpa⟩:=(hR.pairs at_ za h.ga).shape;obtain ⟨ka,kcap,hkv,hq1,hq2,hka⟩:=(hR.kids at_ za h.ga).shape;obtain ⟨kpa,kpcap,hkpv,hkp1,hkp2,hkpa⟩:=(hR.pairs k zk h.gk).shape;have hlen:=h.len;have hil:=(List.getElem?_eq_some_iff.1 h.kk).1;obtain ⟨kb,ko,rfl⟩:=hka (by omega);have hkk:=hR.kids at_ za h.ga;rw [hkv] at a2 hkk;rw [hkpv] at k1;have kl:=hkk.cell1 zag i h.kk rfl;have hatz:(at_:Int) < (Z.length:Int):=by omega
 have hkz:(k:Int) < (Z.length:Int):=by omega
 have hiz:(i:Int) < (za.nd.kids.length:Int):=by omega
 have hi10:(i:Int)<=9:=by have:=h.a9;omega
 have hk4z:¬ (4:Int) < (zk.nd.pairs.length:Int):=by have:=h.k4;omega
 have hkl10:za.nd.kids.length<=10:=by have:=h.a9;omega
 have H:=H_ h;have HKK:=H_ hkk;have HKV:=H_ hkv;have HPV:=H_ hpv;have HKPV:=H_ hkpv;have HPA:=H_ hpa;have HKPA:=H_ hkpa;have hgt:¬ (i:Int)+1 < (za.nd.kids.length:Int):=by omega
 have hsub:(i:Int) - 1=(m:Int):=by omega
 have HSUB:=H_ hsub;have hmp:m < (ndA A at_).pairs.length:=by rw [<-h.ea];omega
 have hAl:A.length<=109951162:=by rw [<-h.nds,zav];exact h.few
 have hi1:(1:Int)<=(i:Int):=by omega
 clear hm hsub hlast;clear h hkv hpv hkpv hR hkk hlen hpa hkpa a3 a4 k2 k3 k4;go_enter Tryz.func171,Tryz.ntmps171;go_upto_region 2 with fail
 go_quiet (fail)
 have hf1:=Fr.drewN No w nq;generalize w.drewN nq=W1 at hf1 ⊢
 replace c0:=hf1.cell0 c0
 replace a1:=hf1.cell0 a1
 replace a2:=hf1.cell0 a2
 replace k1:=hf1.cell0 k1
 have HF1:=H_ hf1;clear hf1 kl;go_upto_if 38 with fail
 go_cut [57] (fun _ wx=>Hid (Fr No W1 wx))
 case first =>
  rcases H.out.left with rfl | ⟨m,ll,zll,rfl,hm,hgm,h4⟩
  · first
     | (exfalso;omega)
     | (go_wp2_with fail
        go_meet
        case rel=>exact H_ (Fr.refl No W1))
  have kl:=(HKK.out.fr0 HF1.out).cell1 zag m hm rfl
  obtain ⟨l1,_,_,_⟩:=(H.out.at0.r.fr0 HF1.out).look ll zll hgm;obtain ⟨lpa,lpcap,hlpv,_,_,_⟩:=(H.out.at0.r.pairs ll zll hgm).shape;rw [hlpv] at l1;have hmz:(m:Int) < (za.nd.kids.length:Int):=(by omega);have hllz:(ll:Int) < (Z.length:Int):=(by have:=(List.getElem?_eq_some_iff.1 hgm).1;omega);have hl4z:¬ (4:Int) < (zll.nd.pairs.length:Int):=(by omega);have hm0:(0:Int) < (m:Int)+1:=(by omega);have hw1:IntKind.i64.wrap ((m:Int)+1 - 1)=(m:Int):=(by rw [IntKind.wrap_i64];omega);have hw2:IntKind.i64.wrap (m:Int)=(m:Int):=(by rw [IntKind.wrap_i64];omega);have hw3:(0:Int)<=(m:Int):=(by omega);clear hm hgm hlpv h4;go_upto_region 6 with fail
  go_quiet (fail)
  clear hw1 hw2;have hf2:=Fr.drewN No W1 nq;generalize W1.drewN nq=W2 at hf2 ⊢
  replace l1:=hf2.cell0 l1
  have HF2:=H_ hf2;clear hf2 c0 a1 a2 k1;go_wp2_with fail;go_meet
  case rel=>exact HF2
 case rest =>
  have hfc:=hcut.out;have hZc:=(H.out.at0.fr0 HF1.out).fr0 hfc
  replace c0:=hfc.cell0 c0
  replace a1:=hfc.cell0 a1
  replace a2:=hfc.cell0 a2
  replace k1:=hfc.cell0 k1
  have HZC:=H_ hZc;clear hfc hZc hcut;have hz:TreeZ wc t A fl root many (treeF t (.slice (some ⟨nb,no,none⟩) Z.length cap) fv Z):=⟨_,_,_,HZC.out.r,H.out.nds,fun b=>Iff.rfl⟩;have HZ:=H_ hz;have HS:=H_ hs;clear hz hs;go_wp2_with (go_at_call 173;rw [HSUB.out];refine (zgt _ t A fl root many _ HZ.out at_ m HS.out hmp hAl).mono ?_;rintro e w4 ⟨rfl,F4,hz4,hf4,hn4⟩);go_ret;have hsz:=HZC.out.fr.size;refine ⟨⟨_,rfl⟩,F4,hz4,HZC.out.fr.trans hf4 fun b hb e=>?_,fun b hb=>?_⟩
  · rcases HZC.out.new b e with e | e
    · exact e
    omega
  rcases hn4 b hb with e | e
  · exact HZC.out.new b e
  exact .inr (by omega)
set_option maxHeartbeats 8000000 in
theorem zny (w:World) (t:Nat) (A:Arr) (fl:List Nat) (root:Nat) (many:Int) (F:Nat->Prop) (at_ i k nb no cap:Nat) (fv:Value) (Z:List Nz) (za zk:Nz) (h:zku w t A fl root many F at_ i k nb no cap fv Z za zk)
 (r:Nat) (zr:Nz) (hr:za.nd.kids[i+1]? = some r) (hgr:Z[r]? = some zr) (hr4:zr.nd.pairs.length<=4) (hs:zbm A fl at_) :
 Calls Tryz.prog 171 #[.pointer (some ⟨t,0,none⟩),.int .i64 at_,.int .i64 i] w (zfu w t F (joinA A at_ i) (fl++[kidA A at_ (i+1)]) root many):=by
 have hR:=h.at0.r;have hZl:=h.few;have hatl:at_ < Z.length:=(List.getElem?_eq_some_iff.1 h.ga).1;have hkl:k < Z.length:=(List.getElem?_eq_some_iff.1 h.gk).1;have c0:=hR.obj.cell 0 rfl;obtain ⟨a1,a2,a3,a4⟩:=hR.look at_ za h.ga;obtain ⟨k1,k2,k3,k4⟩:=hR.look k zk h.gk;obtain ⟨pa,pcap,hpv,hp1,hp2,hpa⟩:=(hR.pairs at_ za h.ga).shape;obtain ⟨ka,kcap,hkv,hq1,hq2,hka⟩:=(hR.kids at_ za h.ga).shape;obtain ⟨kpa,kpcap,hkpv,hkp1,hkp2,hkpa⟩:=(hR.pairs k zk h.gk).shape;have hlen:=h.len;have hil:=(List.getElem?_eq_some_iff.1 h.kk).1;obtain ⟨kb,ko,rfl⟩:=hka (by omega);have hkk:=hR.kids at_ za h.ga;rw [hkv] at a2 hkk;rw [hkpv] at k1;have kl:=hkk.cell1 zag i h.kk rfl;have hatz:(at_:Int) < (Z.length:Int):=by omega
 have hkz:(k:Int) < (Z.length:Int):=by omega
 have hiz:(i:Int) < (za.nd.kids.length:Int):=by omega
 have hi10:(i:Int)<=9:=by have:=h.a9;omega
 have hk4z:¬ (4:Int) < (zk.nd.pairs.length:Int):=by have:=h.k4;omega
 have hkl10:za.nd.kids.length<=10:=by have:=h.a9;omega
 have H:=H_ h;have HKK:=H_ hkk;have HKV:=H_ hkv;have HPV:=H_ hpv;have HKPV:=H_ hkpv;have HPA:=H_ hpa;have HKPA:=H_ hkpa;have hirl:=(List.getElem?_eq_some_iff.1 hr).1;have hgt:(i:Int)+1 < (za.nd.kids.length:Int):=by omega
 have hip:i < (ndA A at_).pairs.length:=by rw [<-h.ea];omega
 have hAl:A.length<=109951162:=by rw [<-h.nds,zav];exact h.few
 have kr:=hkk.cell1 zag (i+1) hr rfl;obtain ⟨r1,r2,r3,r4⟩:=hR.look r zr hgr;obtain ⟨rpa,rpcap,hrpv,hrp1,hrp2,hrpa⟩:=(hR.pairs r zr hgr).shape;rw [hrpv] at r1;have hrz:(r:Int) < (Z.length:Int):=by have:=(List.getElem?_eq_some_iff.1 hgr).1;omega
 have hr4z:¬ (4:Int) < (zr.nd.pairs.length:Int):=by omega
 have hiz0:(0:Int)<=(i:Int)+1:=by omega
 have hiz1:((i:Int)+1).toNat=i+1:=by omega
 have KR:=H_ kr;have RR1:=H_ r1;clear hr hgr r1 r2 r3 r4 kr hrpv hrpa;clear h hkv hpv hkpv hR hkk hlen hpa hkpa a3 a4 k2 k3 k4;go_enter Tryz.func171,Tryz.ntmps171;go_upto_region 2 with fail
 go_quiet (fail)
 have hf1:=Fr.drewN No w nq;generalize w.drewN nq=W1 at hf1 ⊢
 replace c0:=hf1.cell0 c0
 replace a1:=hf1.cell0 a1
 replace a2:=hf1.cell0 a2
 replace k1:=hf1.cell0 k1
 have HF1:=H_ hf1;clear hf1 kl;go_upto_if 38 with fail
 go_cut [57] (fun _ wx=>Hid (Fr No W1 wx))
 case first =>
  rcases H.out.left with rfl | ⟨m,ll,zll,rfl,hm,hgm,h4⟩
  · first
     | (exfalso;omega)
     | (go_wp2_with fail
        go_meet
        case rel=>exact H_ (Fr.refl No W1))
  have kl:=(HKK.out.fr0 HF1.out).cell1 zag m hm rfl
  obtain ⟨l1,_,_,_⟩:=(H.out.at0.r.fr0 HF1.out).look ll zll hgm;obtain ⟨lpa,lpcap,hlpv,_,_,_⟩:=(H.out.at0.r.pairs ll zll hgm).shape;rw [hlpv] at l1;have hmz:(m:Int) < (za.nd.kids.length:Int):=(by omega);have hllz:(ll:Int) < (Z.length:Int):=(by have:=(List.getElem?_eq_some_iff.1 hgm).1;omega);have hl4z:¬ (4:Int) < (zll.nd.pairs.length:Int):=(by omega);have hm0:(0:Int) < (m:Int)+1:=(by omega);have hw1:IntKind.i64.wrap ((m:Int)+1 - 1)=(m:Int):=(by rw [IntKind.wrap_i64];omega);have hw2:IntKind.i64.wrap (m:Int)=(m:Int):=(by rw [IntKind.wrap_i64];omega);have hw3:(0:Int)<=(m:Int):=(by omega);clear hm hgm hlpv h4;go_upto_region 6 with fail
  go_quiet (fail)
  clear hw1 hw2;have hf2:=Fr.drewN No W1 nq;generalize W1.drewN nq=W2 at hf2 ⊢
  replace l1:=hf2.cell0 l1
  have HF2:=H_ hf2;clear hf2 c0 a1 a2 k1;go_wp2_with fail;go_meet
  case rel=>exact HF2
 case rest =>
  have hfc:=hcut.out;have hZc:=(H.out.at0.fr0 HF1.out).fr0 hfc
  replace c0:=hfc.cell0 c0
  replace a1:=hfc.cell0 a1
  replace a2:=hfc.cell0 a2
  replace k1:=hfc.cell0 k1
  have HZC:=H_ hZc;have HFC:=H_ hfc;clear hfc hZc hcut;have kr:=((KR.out |> HF1.out.cell0) |> HFC.out.cell0);have r1:=((RR1.out |> HF1.out.cell0) |> HFC.out.cell0);have hz:TreeZ wc t A fl root many (treeF t (.slice (some ⟨nb,no,none⟩) Z.length cap) fv Z):=⟨_,_,_,HZC.out.r,H.out.nds,fun b=>Iff.rfl⟩;have HZ:=H_ hz;have HS:=H_ hs;clear hz hs;go_upto_region 17 with fail;have hw1:IntKind.i64.wrap ((i:Int)+1)=(i:Int)+1:=(by rw [IntKind.wrap_i64];omega)
  go_quiet (fail)
  clear hw1;have hf2:=Fr.drewN No wc nq;generalize wc.drewN nq=W2 at hf2 ⊢
  replace r1:=hf2.cell0 r1
  have HF2:=H_ hf2;clear hf2 c0 a1 a2 k1 kr;go_wp2_with (go_at_call 173;refine (zgt _ t A fl root many _ (HZ.out.fr0 HF2.out) at_ i HS.out hip hAl).mono ?_;rintro e w4 ⟨rfl,F4,hz4,hf4,hn4⟩);go_ret;have hsz:=HZC.out.fr.size;have hsz2:=HF2.out.size;refine ⟨⟨_,rfl⟩,F4,hz4,(HZC.out.fr.trans0 HF2.out).trans hf4 fun b hb e=>?_,fun b hb=>?_⟩
  · rcases HZC.out.new b e with e | e
    · exact e
    omega
  rcases hn4 b hb with e | e
  · exact HZC.out.new b e
  exact .inr (by omega)
end Go.Proofs.YthljnnjpmdgkoaaGreat