/- Own lemmas. -/
import Derived.Test.YthljnnjpmdgkoaaGreatK07
import Derived.BigRegion
namespace Go.Proofs.YthljnnjpmdgkoaaGreat
open Go Go.Proofs Go.RowKit
set_option maxRecDepth 100000
def zgu (w:World) (t:Nat) (F:Nat->Prop) (A:Arr) (fl:List Nat) (root:Nat) (many:Int) (e:Ending) (w':World):Prop :=
 (∃ v,e=.returned v)/\∃ F',TreeZ w' t A fl root many F'/\Fr F w w'/\(∀ b,F' b->F b\/w.heap.size<=b)
structure TwoZ (w:World) (t:Nat) (A:Arr) (fl:List Nat) (root:Nat) (many:Int) (F:Nat->Prop) (at_ j l k nb no cap:Nat) (fv:Value) (Z:List Nz) (za zl zk:Nz) (p:ByteArray×Int):Prop where
 at0:AtZ w w t nb no cap fv Z fl root many F
 nds:ndsZ Z=A
 ga:Z[at_]?=some za
 gl:Z[l]?=some zl
 gk:Z[k]?=some zk
 ea:za.nd=ndA A at_
 el:zl.nd=ndA A l
 ek:zk.nd=ndA A k
 la:l≠at_
 ka:k≠at_
 lk:l≠k
 gp:za.nd.pairs[j]?=some p
 kl:za.nd.kids[j]?=some l
 kk:za.nd.kids[j+1]?=some k
 len:za.nd.kids.length=za.nd.pairs.length+1
 a9:za.nd.pairs.length<=9
 l9:zl.nd.pairs.length<=9
 k9:zk.nd.pairs.length<=9
 lw:zl.nd.kids = []\/zl.nd.kids.length=zl.nd.pairs.length+1
 kw:zk.nd.kids = []\/zk.nd.kids.length=zk.nd.pairs.length+1
 both:zl.nd.kids = []↔zk.nd.kids = []
 hl:kidA A at_ j=l
 hk:kidA A at_ (j+1)=k
 few:Z.length<=109951162
theorem two_z {w:World} {t:Nat} {A:Arr} {fl:List Nat} {root:Nat} {many:Int} {F:Nat->Prop} (h:TreeZ w t A fl root many F) (at_ j:Nat) (hs:zbo A fl at_) (hi:j<(ndA A at_).pairs.length) (hA:A.length<=109951162) :
 ∃ l k nb no cap fv Z za zl zk p,TwoZ w t A fl root many F at_ j l k nb no cap fv Z za zl zk p:=by
 obtain ⟨l,m⟩:∃ l,(ndA A at_).kids[j]?=some l:=⟨_,List.getElem?_eq_getElem (by have:=hs.len;omega)⟩;obtain ⟨k,i⟩:∃ k,(ndA A at_).kids[j+1]?=some k:=⟨_,List.getElem?_eq_getElem (by have:=hs.len;omega)⟩;obtain ⟨p,I⟩:∃ p,(ndA A at_).pairs[j]?=some p:=⟨_,List.getElem?_eq_getElem hi⟩;have r:kidA A at_ j=l:=by unfold kidA;simp [List.getD,m]
 have s:kidA A at_ (j+1)=k:=by unfold kidA;simp [List.getD,i]
 obtain ⟨E,H,G,z⟩:=hs.kid l (List.mem_of_getElem? m);obtain ⟨y,D,B,C⟩:=hs.kid k (List.mem_of_getElem? i);have n:l≠k:=fun e=>by have:=hs.apart j (j+1) l m (by rw [e];exact i);omega
 obtain ⟨nv,fv,Z,x,f,hF⟩:=h;obtain ⟨za,g,a⟩:=zbk f hs.lt;obtain ⟨zl,o,d⟩:=zbk f E;obtain ⟨zk,q,c⟩:=zbk f y;have u:at_<Z.length:=(List.getElem?_eq_some_iff.1 g).1;obtain ⟨nb,no,cap,rfl,v⟩:=x.headLen (by omega)
 exact ⟨l,k,nb,no,cap,fv,Z,za,zl,zk,p,⟨x,Fr.refl _ w,fun b hb=>.inl ((hF b).2 hb)⟩,f,g,o,q,a,d,c,H,D,n,by rw [a];exact I,by rw [a];exact m,by rw [a];exact i,
  by rw [a];exact hs.len,by rw [a];exact hs.hi,by rw [d];exact G,by rw [c];exact B,by rw [d];exact z,by rw [c];exact C,
  by rw [d,c];exact hs.both l (List.mem_of_getElem? m) k (List.mem_of_getElem? i),r,s,by rw [<-zaw,f];exact hA⟩
set_option maxHeartbeats 8000000 in
theorem zph (w:World) (t:Nat) (A:Arr) (fl:List Nat) (root:Nat) (many:Int) (F:Nat->Prop) (at_ j l k nb no cap:Nat) (fv:Value) (Z:List Nz) (za zl zk:Nz) (p:ByteArray×Int) (h:TwoZ w t A fl root many F at_ j l k nb no cap fv Z za zl zk p)
 (hk4:zk.nd.pairs.length<=4) (hl5:4<zl.nd.pairs.length) :
 Calls Tryz.prog 171 #[.pointer (some ⟨t,0,none⟩),.int .i64 at_,.int .i64 ((j+1:Nat):Int)] w (zgu w t F (lendL A at_ (j+1)) fl root many):=by
 obtain ⟨x,hx⟩:∃ x,zl.nd.pairs[zl.nd.pairs.length-1]?=some x:=⟨_,List.getElem?_eq_getElem (by omega)⟩
 have hj:lendL A at_ (j+1)=((A.set k ⟨p :: zk.nd.pairs,zl.nd.kids.drop zl.nd.pairs.length++zk.nd.kids⟩).set at_ ⟨za.nd.pairs.set j x,za.nd.kids⟩).set l ⟨zl.nd.pairs.take (zl.nd.pairs.length-1),zl.nd.kids.take zl.nd.pairs.length⟩:=by
  unfold lendL;rw [Nat.add_sub_cancel,h.hl,h.hk,<-h.ea,<-h.el,<-h.ek];simp [List.getD,h.gp,hx]
 have a:=h.at0.r;have cG:=h.few;have cj:at_<Z.length:=(List.getElem?_eq_some_iff.1 h.ga).1;have cC:l<Z.length:=(List.getElem?_eq_some_iff.1 h.gl).1;have bO:k<Z.length:=(List.getElem?_eq_some_iff.1 h.gk).1;have c0:=a.obj.cell 0 rfl;obtain ⟨a1,a2,a3,a4⟩:=a.look at_ za h.ga;obtain ⟨l1,l2,l3,l4⟩:=a.look l zl h.gl;obtain ⟨k1,k2,k3,k4⟩:=a.look k zk h.gk;obtain ⟨pa,cf,aK,cI,cF,aO⟩:=(a.pairs at_ za h.ga).shape;obtain ⟨ka,c8,aG,cB,cT,b4⟩:=(a.kids at_ za h.ga).shape;obtain ⟨la,d,aw,bX,cg,ak⟩:=(a.pairs l zl h.gl).shape;obtain ⟨cM,bp,R,_,_,_⟩:=(a.pairs k zk h.gk).shape;have aL:=h.len;have d2:=(List.getElem?_eq_some_iff.1 h.gp).1;obtain ⟨pb,po,rfl⟩:=aO (by omega);obtain ⟨kb,ko,rfl⟩:=b4 (by omega);obtain ⟨lb,lo,rfl⟩:=ak (by omega)
 have a8:=a.kids at_ za h.ga;rw [aG] at a2 a8;rw [R] at k1;rw [aw] at l1;have kl:=a8.cell1 zah j h.kl rfl;have kr:=a8.cell1 zah (j+1) h.kk rfl;have bV:(at_:Int)<(Z.length:Int):=by omega
 have cL:(l:Int)<(Z.length:Int):=by omega
 have cN:(k:Int)<(Z.length:Int):=by omega
 have cV:(j:Int)<(za.nd.kids.length:Int):=by omega
 have c6:(j:Int)+1<(za.nd.kids.length:Int):=by omega
 have bW:(0:Int)<=(j:Int)+1:=by omega
 have bS:((j:Int)+1).toNat=j+1:=by omega
 have ce:(j:Int)<(za.nd.pairs.length:Int):=by omega
 have bT:¬ (4:Int)<(zk.nd.pairs.length:Int):=by omega
 have c2:(4:Int)<(zl.nd.pairs.length:Int):=by omega
 have cO:(0:Int)<(j:Int)+1:=by omega
 have ch:(zl.nd.pairs.length:Int)<=9:=by have:=h.l9;omega
 have cW:(j:Int)<=9:=by have:=h.a9;omega
 have H:=H_ h;have HX:=H_ hx;have HJ:=H_ hj;have ae:=H_ aK;have ar:=H_ aw;have W:=H_ R;have cv:j+1<za.nd.kids.length:=by omega
 clear h hx hj aK aw aG R a a8 aL aO b4 ak a3 a4 l2 l3 l4 k2 k3 k4;go_enter Tryz.func171,Tryz.ntmps171;go_upto_region 2 with fail
 go_quiet (fail)
 have o:=Fr.drewN No w nq;generalize w.drewN nq=W1 at o ⊢
 replace c0:=o.cell0 c0
 replace a1:=o.cell0 a1
 replace a2:=o.cell0 a2
 replace l1:=o.cell0 l1
 replace k1:=o.cell0 k1
 replace kl:=o.cell0 kl
 have aS:=H_ o;clear o kr;go_upto_region 6 with fail;have E:IntKind.i64.wrap ((j:Int)+1-1)=(j:Int):=by rw [IntKind.wrap_i64];omega
 have D:IntKind.i64.wrap (j:Int)=(j:Int):=by rw [IntKind.wrap_i64];omega
 go_quiet (fail)
 clear E D;have K:=Fr.drewN No W1 nq;generalize W1.drewN nq=W2 at K ⊢
 replace c0:=K.cell0 c0
 replace l1:=K.cell0 l1
 have aQ:=(H.out.at0.fr0 aS.out).fr0 K;have ap:=H_ aQ;clear K aQ a1 a2 k1 kl;go_upto_region 9 with fail
 go_cut [64] (fun _ wx=>∃ z,Hid (AtZ w wx t nb no cap fv (Z.set k ⟨⟨p :: zk.nd.pairs,zk.nd.kids⟩,z,zk.kv⟩) fl root many F))
 case first =>
  have a:=ap.out.r;obtain ⟨b1,_,b3,_⟩:=a.look at_ za H.out.ga;obtain ⟨d1,_,d3,_⟩:=a.look k zk H.out.gk;rw [ae.out] at b1;have g:=a.pairs at_ za H.out.ga;rw [ae.out] at g;have x0:=g.cell0 zag j H.out.gp rfl;have x1:=g.cell zag j 1 H.out.gp rfl;have av:=a.pairs k zk H.out.gk;have ao:¬ zk.pv.ownBlock=some nb:=fun e=>(a.a2 k _ nb H.out.gk (.inl e)).2.1 rfl;rw [W.out] at d1 av ao;have bN:nb<W2.heap.size:=a.nodes.lt nb rfl;have bH:=H_ av;have b8:zk.nd.pairs.length<=1099511627:=(by omega);have E:IntKind.i64.wrap ((j:Int)+1-1)=(j:Int):=(by rw [IntKind.wrap_i64];omega);have D:IntKind.i64.wrap (j:Int)=(j:Int):=(by rw [IntKind.wrap_i64];omega);have bL:(0:Int)<=(j:Int):=(by omega);clear a g av c0 l1
  go_region_law (go_simp;go_at_call 158;refine (zel _ _ zk.nd.pairs 0 p (bH.out.drew) (Nat.zero_le _) b8).mono ?_;rintro e w3 ⟨g3,o3,c3,rfl,aM,aa,b5⟩
                 have y1:=aa.cell d1 ao;have y2:=aa.free d1 d3 ao;have bt:=H_ aM;have bM:=H_ b5;have bK:=H_ aa;clear aM b5 aa)
  all_goals
   have hF:Fr (fun b=>zk.pv.ownBlock=some b) W2 w3:=(Fr.refl _ W2).drew.trans bK.out fun b _ e=>by rw [W.out];exact e
   have C:=ap.out.setPairs (w1:=w3) (pv':=.slice (some ⟨g3,o3,none⟩) (zk.nd.pairs.length+1) c3) (P':=p :: zk.nd.pairs) k zk H.out.gk hF (by have:=bt.out;simpa using this) fun b e=>by
    obtain rfl:g3=b:=by simpa [Value.ownBlock] using e
    rcases bM.out with e | e
    · left;rw [W.out];exact e
    exact .inr e
   have HQ:=H_ C;clear C hF;go_wp2_with fail;go_meet
   case rel=>exact ⟨_,HQ⟩
 case rest =>
  obtain ⟨z,HQ⟩:=hcut;have y:(Z.set k ⟨⟨p :: zk.nd.pairs,zk.nd.kids⟩,z,zk.kv⟩)[l]?=some zl:=(by rw [List.getElem?_set_ne (Ne.symm H.out.lk)];exact H.out.gl);have m:(Z.set k ⟨⟨p :: zk.nd.pairs,zk.nd.kids⟩,z,zk.kv⟩)[at_]?=some za:=(by rw [List.getElem?_set_ne H.out.ka];exact H.out.ga);have Q:(Z.set k ⟨⟨p :: zk.nd.pairs,zk.nd.kids⟩,z,zk.kv⟩)[k]?=some ⟨⟨p :: zk.nd.pairs,zk.nd.kids⟩,z,zk.kv⟩:=List.getElem?_set_self bO;have L:ndsZ (Z.set k ⟨⟨p :: zk.nd.pairs,zk.nd.kids⟩,z,zk.kv⟩)=A.set k ⟨p :: zk.nd.pairs,zk.nd.kids⟩:=(by rw [zay,H.out.nds]);have V:(Z.set k ⟨⟨p :: zk.nd.pairs,zk.nd.kids⟩,z,zk.kv⟩).length=Z.length:=(by simp);generalize Z.set k ⟨⟨p :: zk.nd.pairs,zk.nd.kids⟩,z,zk.kv⟩=Z2 at HQ y m Q L V;have a:=HQ.out.r;obtain ⟨b1,_,b3,_⟩:=a.look at_ za m
  obtain ⟨e1,_,e3,_⟩:=a.look l zl y;have g:=a.pairs at_ za m;have q:=a.pairs l zl y;rw [ae.out] at b1 g;rw [ar.out] at e1 q;have y0:=q.cell0 zag _ HX.out rfl;have y1:=q.cell zag _ 1 HX.out rfl;have z0:=g.cell0 zag j H.out.gp rfl;have z1:=g.cell zag j 1 H.out.gp rfl;have bo:=g.free (po+j * 2);have bl:=g.free (po+j * 2+1);have bN:nb<wc.heap.size:=a.nodes.lt nb rfl;have cp:pb<wc.heap.size:=g.lt pb rfl;have cq:lb<wc.heap.size:=q.lt lb rfl;have aD:=HQ.out.setPair at_ za m ae.out p x H.out.gp;have cH:(0:Int)<=(zl.nd.pairs.length:Int)-1:=(by omega);have d4:(zl.nd.pairs.length:Int)-1<(zl.nd.pairs.length:Int):=(by omega);have cK:((zl.nd.pairs.length:Int)-1).toNat=zl.nd.pairs.length-1:=(by omega);have aN:=H_ aD;have an:=H_ y
  have aC:=H_ m;have am:=H_ Q;have al:=H_ L;have a0:=H_ V;clear a g q aD y m Q L V c0 l1;go_upto_region 10 with fail;have E:IntKind.i64.wrap ((j:Int)+1-1)=(j:Int):=(by rw [IntKind.wrap_i64];omega);have D:IntKind.i64.wrap (j:Int)=(j:Int):=(by rw [IntKind.wrap_i64];omega);have bL:(0:Int)<=(j:Int):=(by omega)
  go_region
  clear E D;have C:=aN.out.fr0 (Fr.refl No _).drew;generalize (((wc.setCell ⟨pb,po+j * 2,none⟩ (.string x.1)).setCell ⟨pb,po+j * 2+1,none⟩ (.int .i64 x.2))).drew=W4 at C ⊢
  have bG:at_<Z2.length:=(by have:=a0.out;omega);have n:(Z2.set at_ ⟨⟨za.nd.pairs.set j x,za.nd.kids⟩,za.pv,za.kv⟩)[l]?=some zl:=(by rw [List.getElem?_set_ne (Ne.symm H.out.la)];exact an.out);have O:(Z2.set at_ ⟨⟨za.nd.pairs.set j x,za.nd.kids⟩,za.pv,za.kv⟩)[k]?=some ⟨⟨p :: zk.nd.pairs,zk.nd.kids⟩,z,zk.kv⟩:=(by rw [List.getElem?_set_ne (Ne.symm H.out.ka)];exact am.out);have G:ndsZ (Z2.set at_ ⟨⟨za.nd.pairs.set j x,za.nd.kids⟩,za.pv,za.kv⟩)=(A.set k ⟨p :: zk.nd.pairs,zk.nd.kids⟩).set at_ ⟨za.nd.pairs.set j x,za.nd.kids⟩:=(by rw [zay,al.out]);have X:(Z2.set at_ ⟨⟨za.nd.pairs.set j x,za.nd.kids⟩,za.pv,za.kv⟩).length=Z.length:=(by rw [List.length_set];exact a0.out);generalize Z2.set at_ ⟨⟨za.nd.pairs.set j x,za.nd.kids⟩,za.pv,za.kv⟩=Z4 at C n O G X;have a:=C.r
  obtain ⟨e1,e2,e3,e4⟩:=a.look l zl n;have q:=a.pairs l zl n;rw [ar.out] at e1 q;have cQ:(zl.nd.pairs.length:Int)-1<=(d:Int):=(by omega);have ck:nb<W4.heap.size:=a.nodes.lt nb rfl;have P:=SlF.take zag q (zl.nd.pairs.length-1) (by omega);have v:=C.setPairs (w1:=W4) (pv':=.slice (some ⟨lb,lo,none⟩) (zl.nd.pairs.length-1) d) (P':=zl.nd.pairs.take (zl.nd.pairs.length-1)) l zl n (Fr.refl _ W4) P fun b e=>.inl (by rw [ar.out];exact e);have i:=H_ v;have aZ:=H_ n;have af:=H_ O;have ag:=H_ G;have M:=H_ X;clear a q P v C n O G X y0 y1 z0 z1 bo bl b1 b3 e2 e4;go_upto_region 12 with fail;generalize W4.setCell ⟨nb,no+l * 2,none⟩ (.slice (some ⟨lb,lo,none⟩) (zl.nd.pairs.length-1) d)=W5 at i ⊢
  have aU:l<Z4.length:=(by have:=M.out;omega);have u:(Z4.set l ⟨⟨zl.nd.pairs.take (zl.nd.pairs.length-1),zl.nd.kids⟩,.slice (some ⟨lb,lo,none⟩) (zl.nd.pairs.length-1) d,zl.kv⟩)[l]?=some ⟨⟨zl.nd.pairs.take (zl.nd.pairs.length-1),zl.nd.kids⟩,.slice (some ⟨lb,lo,none⟩) (zl.nd.pairs.length-1) d,zl.kv⟩:=List.getElem?_set_self aU;have I:(Z4.set l ⟨⟨zl.nd.pairs.take (zl.nd.pairs.length-1),zl.nd.kids⟩,.slice (some ⟨lb,lo,none⟩) (zl.nd.pairs.length-1) d,zl.kv⟩)[k]?=some ⟨⟨p :: zk.nd.pairs,zk.nd.kids⟩,z,zk.kv⟩:=(by rw [List.getElem?_set_ne H.out.lk];exact af.out)
  have Y:ndsZ (Z4.set l ⟨⟨zl.nd.pairs.take (zl.nd.pairs.length-1),zl.nd.kids⟩,.slice (some ⟨lb,lo,none⟩) (zl.nd.pairs.length-1) d,zl.kv⟩)=((A.set k ⟨p :: zk.nd.pairs,zk.nd.kids⟩).set at_ ⟨za.nd.pairs.set j x,za.nd.kids⟩).set l ⟨zl.nd.pairs.take (zl.nd.pairs.length-1),zl.nd.kids⟩:=(by rw [zay,ag.out]);have U:(Z4.set l ⟨⟨zl.nd.pairs.take (zl.nd.pairs.length-1),zl.nd.kids⟩,.slice (some ⟨lb,lo,none⟩) (zl.nd.pairs.length-1) d,zl.kv⟩).length=Z.length:=(by rw [List.length_set];exact M.out);have ab:=i.out;generalize Z4.set l ⟨⟨zl.nd.pairs.take (zl.nd.pairs.length-1),zl.nd.kids⟩,.slice (some ⟨lb,lo,none⟩) (zl.nd.pairs.length-1) d,zl.kv⟩=Z5 at ab u I Y U;have a:=ab.r;obtain ⟨_,e2,_,e4⟩:=a.look l _ u;have f:=a.kids l _ u;dsimp only at e2 e4 f
  obtain ⟨ca,ai,au,bZ,bY,aF⟩:=f.shape;rw [au] at e2 f;have bQ:nb<W5.heap.size:=a.nodes.lt nb rfl;have a7:=H_ ab;have aE:=H_ u;have ah:=H_ I;have aj:=H_ Y;have cl:=H_ U;have aJ:=H_ au;clear ab u I Y U au i aZ af ag M an aC am al a0 aN HQ ap aS e1 e3;rcases H.out.lw with a6 | bv
  · have b6:=H.out.both.1 a6
    have aT:zl.nd.kids.length=0:=(by rw [a6];rfl);have bs:¬ (0:Int)<(zl.nd.kids.length:Int):=(by omega);have bD:=H_ a6;have bE:=H_ b6;clear a6 b6 aT a f;go_wp2;go_ret;refine ⟨⟨_,rfl⟩,_,⟨_,_,_,a7.out.r,?_,fun b=>Iff.rfl⟩,a7.out.fr,a7.out.new⟩;rw [aj.out,HJ.out,bD.out,bE.out];simp
  have bs:(0:Int)<(zl.nd.kids.length:Int):=by omega
  obtain ⟨cb,co,rfl⟩:=aF (by omega);obtain ⟨c,hc⟩:∃ c,zl.nd.kids[zl.nd.pairs.length]?=some c:=⟨_,List.getElem?_eq_getElem (by omega)⟩;have bk:=f.cell1 zah _ hc rfl;have J:(zl.nd.kids.length:Int)=(zl.nd.pairs.length:Int)+1:=(by omega);have T:=H_ J;have cz:(zl.nd.pairs.length:Int)<(zl.nd.kids.length:Int):=(by omega);have cw:(zl.nd.pairs.length:Int)<=(ai:Int):=(by omega);have B:=ah.out;obtain ⟨_,f2,_,f4⟩:=a.look k _ B;have S:=a.kids k _ B;dsimp only at f2 f4 S;have aY:¬ zk.kv.ownBlock=some nb:=fun e=>(a.a2 k _ nb B (.inr e)).2.1 rfl
  have aP:zk.nd.kids.length<=1000:=by
   rcases H.out.kw with e | e
   · rw [e];simp
   have:=H.out.k9;omega
  have aW:=H_ S;have HC:=H_ hc;have cR:=H_ f;have cc:cb<W5.heap.size:=f.lt cb rfl;clear a f S B J bv hc;go_upto_region 13 with fail;have E:IntKind.i64.wrap ((zl.nd.pairs.length:Int)-1+1)=(zl.nd.pairs.length:Int):=(by rw [IntKind.wrap_i64];omega);have D:IntKind.i64.wrap (zl.nd.pairs.length:Int)=(zl.nd.pairs.length:Int):=(by rw [IntKind.wrap_i64];omega);have cu:(0:Int)<=(zl.nd.pairs.length:Int):=(by omega)
  go_region_law (go_simp;go_at_call 177;refine (zhy _ _ zk.nd.kids 0 c (aW.out.drew) (Nat.zero_le _) aP).mono ?_;rintro e w7 ⟨g7,o7,c7,rfl,b0,a5,aR⟩
                 have y1:=a5.cell f2 aY;have y2:=a5.free f2 f4 aY;have bq:=H_ b0;have bm:=H_ aR;have br:=H_ a5;clear b0 aR a5)
  all_goals
   clear E D;have hF:Fr (fun b=>zk.kv.ownBlock=some b) W5 w7:=(Fr.refl _ W5).drew.trans br.out fun b _ e=>e
   have C:=a7.out.setKids (w1:=w7) (kv':=.slice (some ⟨g7,o7,none⟩) (zk.nd.kids.length+1) c7) (K':=c :: zk.nd.kids) k _ ah.out hF (by have:=bq.out;simpa using this) fun b e=>by
    obtain rfl:g7=b:=by simpa [Value.ownBlock] using e
    exact bm.out
   generalize w7.setCell ⟨nb,no+k * 2+1,none⟩ (.slice (some ⟨g7,o7,none⟩) (zk.nd.kids.length+1) c7)=W8 at C ⊢
   have s:(Z5.set k ⟨⟨p :: zk.nd.pairs,c :: zk.nd.kids⟩,z,.slice (some ⟨g7,o7,none⟩) (zk.nd.kids.length+1) c7⟩)[l]?=some ⟨⟨zl.nd.pairs.take (zl.nd.pairs.length-1),zl.nd.kids⟩,.slice (some ⟨lb,lo,none⟩) (zl.nd.pairs.length-1) d,zl.kv⟩:=(by rw [List.getElem?_set_ne (Ne.symm H.out.lk)];exact aE.out);have N:ndsZ (Z5.set k ⟨⟨p :: zk.nd.pairs,c :: zk.nd.kids⟩,z,.slice (some ⟨g7,o7,none⟩) (zk.nd.kids.length+1) c7⟩)=((((A.set k ⟨p :: zk.nd.pairs,zk.nd.kids⟩).set at_ ⟨za.nd.pairs.set j x,za.nd.kids⟩).set l ⟨zl.nd.pairs.take (zl.nd.pairs.length-1),zl.nd.kids⟩).set k ⟨p :: zk.nd.pairs,c :: zk.nd.kids⟩):=(by rw [zay,aj.out]);generalize Z5.set k ⟨⟨p :: zk.nd.pairs,c :: zk.nd.kids⟩,z,.slice (some ⟨g7,o7,none⟩) (zk.nd.kids.length+1) c7⟩=Z8 at C s N;have a:=C.r;obtain ⟨_,aI,_,bC⟩:=a.look l _ s
   have f:=a.kids l _ s;dsimp only at aI bC f;rw [aJ.out] at aI f;have P:=SlF.take zah f zl.nd.pairs.length (by have:=T.out;omega);have v:=C.setKids (w1:=W8) (kv':=.slice (some ⟨cb,co,none⟩) zl.nd.pairs.length ai) (K':=zl.nd.kids.take zl.nd.pairs.length) l _ s (Fr.refl _ W8) P fun b e=>.inl (by dsimp only;rw [aJ.out];exact e);have bR:nb<W8.heap.size:=a.nodes.lt nb rfl;have i:=H_ v;have aV:=H_ N;clear v N C s a f P y1 y2 e2 e4 f2 f4 bk;go_wp2;go_ret;refine ⟨⟨_,rfl⟩,_,⟨_,_,_,i.out.r,?_,fun b=>Iff.rfl⟩,i.out.fr,i.out.new⟩
   have bJ:zl.nd.kids.drop zl.nd.pairs.length = [c]:=by
    have h1:=T.out;rw [List.drop_eq_getElem_cons (by omega),(List.getElem?_eq_some_iff.1 HC.out).2,List.drop_eq_nil_of_le (by omega)]
   rw [zay,aV.out,HJ.out,bJ];simp only [List.singleton_append];rw [List.set_comm _ _ H.out.lk,List.set_set,List.set_comm _ _ H.out.ka.symm,List.set_set]
structure zml (w:World) (t:Nat) (A:Arr) (fl:List Nat) (root:Nat) (many:Int) (F:Nat->Prop) (at_ i k nb no cap:Nat) (fv:Value) (Z:List Nz) (za zk:Nz):Prop where
 at0:AtZ w w t nb no cap fv Z fl root many F
 nds:ndsZ Z=A
 ga:Z[at_]?=some za
 gk:Z[k]?=some zk
 ea:za.nd=ndA A at_
 kk:za.nd.kids[i]?=some k
 k4:zk.nd.pairs.length<=4
 a9:za.nd.pairs.length<=9
 len:za.nd.kids.length=za.nd.pairs.length+1
 left:i=0\/∃ m ll zll,i=m+1/\za.nd.kids[m]?=some ll/\Z[ll]?=some zll/\zll.nd.pairs.length<=4
 few:Z.length<=109951162
set_option maxHeartbeats 8000000 in
theorem zpw (w:World) (t:Nat) (A:Arr) (fl:List Nat) (root:Nat) (many:Int) (F:Nat->Prop) (at_ i k nb no cap:Nat) (fv:Value) (Z:List Nz) (za zk:Nz) (h:zml w t A fl root many F at_ i k nb no cap fv Z za zk)
 (m:Nat) (hm:i=m+1) (hlast:i+1=za.nd.kids.length) (hs:zbo A fl at_) :
 Calls Tryz.prog 171 #[.pointer (some ⟨t,0,none⟩),.int .i64 at_,.int .i64 i] w (zgu w t F (joinA A at_ m) (fl++[kidA A at_ (m+1)]) root many):=by
 have o:=h.at0.r;have aD:=h.few;have af:at_<Z.length:=(List.getElem?_eq_some_iff.1 h.ga).1;have aH:k<Z.length:=(List.getElem?_eq_some_iff.1 h.gk).1;have B:=o.obj.cell 0 rfl;obtain ⟨a1,a2,a3,a4⟩:=o.look at_ za h.ga;obtain ⟨x,k2,k3,k4⟩:=o.look k zk h.gk;obtain ⟨pa,a7,C,aI,az,E⟩:=(o.pairs at_ za h.ga).shape;obtain ⟨ka,X,v,aq,av,P⟩:=(o.kids at_ za h.ga).shape;obtain ⟨aL,N,d,aa,ag,q⟩:=(o.pairs k zk h.gk).shape;have D:=h.len;have ax:=(List.getElem?_eq_some_iff.1 h.kk).1;obtain ⟨kb,ko,rfl⟩:=P (by omega);have l:=o.kids at_ za h.ga;rw [v] at a2 l;rw [d] at x;have kl:=l.cell1 zah i h.kk rfl;have a8:(at_:Int)<(Z.length:Int):=by omega
 have aA:(k:Int)<(Z.length:Int):=by omega
 have aC:(i:Int)<(za.nd.kids.length:Int):=by omega
 have ah:(i:Int)<=9:=by have:=h.a9;omega
 have a0:¬ (4:Int)<(zk.nd.pairs.length:Int):=by have:=h.k4;omega
 have J:za.nd.kids.length<=10:=by have:=h.a9;omega
 have H:=H_ h;have K:=H_ l;have al:=H_ v;have aK:=H_ C;have ae:=H_ d;have an:=H_ E;have a5:=H_ q;have aG:¬ (i:Int)+1<(za.nd.kids.length:Int):=by omega
 have p:(i:Int)-1=(m:Int):=by omega
 have z:=H_ p;have M:m<(ndA A at_).pairs.length:=by rw [<-h.ea];omega
 have O:A.length<=109951162:=by rw [<-h.nds,zaw];exact h.few
 have ay:(1:Int)<=(i:Int):=by omega
 clear hm p hlast;clear h v C d o l D E q a3 a4 k2 k3 k4;go_enter Tryz.func171,Tryz.ntmps171;go_upto_region 2 with fail
 go_quiet (fail)
 have a:=Fr.drewN No w nq;generalize w.drewN nq=G at a ⊢
 replace B:=a.cell0 B
 replace a1:=a.cell0 a1
 replace a2:=a.cell0 a2
 replace x:=a.cell0 x
 have u:=H_ a;clear a kl;go_upto_if 38 with fail
 go_cut [57] (fun _ wx=>Hid (Fr No G wx))
 case first =>
  rcases H.out.left with rfl | ⟨m,I,s,rfl,hm,j,h4⟩
  · first
     | (exfalso;omega)
     | (go_wp2_with fail
        go_meet
        case rel=>exact H_ (Fr.refl No G))
  have kl:=(K.out.fr0 u.out).cell1 zah m hm rfl
  obtain ⟨R,_,_,_⟩:=(H.out.at0.r.fr0 u.out).look I s j;obtain ⟨ap,S,n,_,_,_⟩:=(H.out.at0.r.pairs I s j).shape;rw [n] at R;have aj:(m:Int)<(za.nd.kids.length:Int):=(by omega);have Y:(I:Int)<(Z.length:Int):=(by have:=(List.getElem?_eq_some_iff.1 j).1;omega);have a6:¬ (4:Int)<(s.nd.pairs.length:Int):=(by omega);have aJ:(0:Int)<(m:Int)+1:=(by omega);have T:IntKind.i64.wrap ((m:Int)+1-1)=(m:Int):=(by rw [IntKind.wrap_i64];omega);have Q:IntKind.i64.wrap (m:Int)=(m:Int):=(by rw [IntKind.wrap_i64];omega);have ak:(0:Int)<=(m:Int):=(by omega);clear hm j n h4;go_upto_region 6 with fail
  go_quiet (fail)
  clear T Q;have g:=Fr.drewN No G nq;generalize G.drewN nq=W2 at g ⊢
  replace R:=g.cell0 R
  have U:=H_ g;clear g B a1 a2 x;go_wp2_with fail;go_meet
  case rel=>exact U
 case rest =>
  have c:=hcut.out;have y:=(H.out.at0.fr0 u.out).fr0 c
  replace B:=c.cell0 B
  replace a1:=c.cell0 a1
  replace a2:=c.cell0 a2
  replace x:=c.cell0 x
  have f:=H_ y;clear c y hcut;have hz:TreeZ wc t A fl root many (treeF t (.slice (some ⟨nb,no,none⟩) Z.length cap) fv Z):=⟨_,_,_,f.out.r,H.out.nds,fun b=>Iff.rfl⟩;have HZ:=H_ hz;have HS:=H_ hs;clear hz hs;go_wp2_with (go_at_call 173;rw [z.out];refine (zhu _ t A fl root many _ HZ.out at_ m HS.out M O).mono ?_;rintro e w4 ⟨rfl,F4,V,W,L⟩);go_ret;have aB:=f.out.fr.size;refine ⟨⟨_,rfl⟩,F4,V,f.out.fr.trans W fun b hb e=>?_,fun b hb=>?_⟩
  · rcases f.out.new b e with e | e
    · exact e
    omega
  rcases L b hb with e | e
  · exact f.out.new b e
  exact .inr (by omega)
set_option maxHeartbeats 8000000 in
theorem zpx (w:World) (t:Nat) (A:Arr) (fl:List Nat) (root:Nat) (many:Int) (F:Nat->Prop) (at_ i k nb no cap:Nat) (fv:Value) (Z:List Nz) (za zk:Nz) (h:zml w t A fl root many F at_ i k nb no cap fv Z za zk)
 (r:Nat) (zr:Nz) (hr:za.nd.kids[i+1]?=some r) (hgr:Z[r]?=some zr) (hr4:zr.nd.pairs.length<=4) (hs:zbo A fl at_) :
 Calls Tryz.prog 171 #[.pointer (some ⟨t,0,none⟩),.int .i64 at_,.int .i64 i] w (zgu w t F (joinA A at_ i) (fl++[kidA A at_ (i+1)]) root many):=by
 have o:=h.at0.r;have aU:=h.few;have an:at_<Z.length:=(List.getElem?_eq_some_iff.1 h.ga).1;have aZ:k<Z.length:=(List.getElem?_eq_some_iff.1 h.gk).1;have C:=o.obj.cell 0 rfl;obtain ⟨a1,a2,a3,a4⟩:=o.look at_ za h.ga;obtain ⟨z,k2,k3,k4⟩:=o.look k zk h.gk;obtain ⟨pa,af,I,b0,aP,K⟩:=(o.pairs at_ za h.ga).shape;obtain ⟨ka,a7,x,aI,aL,V⟩:=(o.kids at_ za h.ga).shape;obtain ⟨b6,R,f,ai,ao,u⟩:=(o.pairs k zk h.gk).shape;have J:=h.len;have aO:=(List.getElem?_eq_some_iff.1 h.kk).1;obtain ⟨kb,ko,rfl⟩:=V (by omega);have l:=o.kids at_ za h.ga;rw [x] at a2 l;rw [f] at z;have kl:=l.cell1 zah i h.kk rfl;have ah:(at_:Int)<(Z.length:Int):=by omega
 have aQ:(k:Int)<(Z.length:Int):=by omega
 have aT:(i:Int)<(za.nd.kids.length:Int):=by omega
 have ar:(i:Int)<=9:=by have:=h.a9;omega
 have ab:¬ (4:Int)<(zk.nd.pairs.length:Int):=by have:=h.k4;omega
 have O:za.nd.kids.length<=10:=by have:=h.a9;omega
 have H:=H_ h;have P:=H_ l;have aD:=H_ x;have b5:=H_ I;have am:=H_ f;have aF:=H_ K;have ad:=H_ u;have ap:=(List.getElem?_eq_some_iff.1 hr).1;have aY:(i:Int)+1<(za.nd.kids.length:Int):=by omega
 have U:i<(ndA A at_).pairs.length:=by rw [<-h.ea];omega
 have S:A.length<=109951162:=by rw [<-h.nds,zaw];exact h.few
 have M:=l.cell1 zah (i+1) hr rfl;obtain ⟨B,r2,r3,r4⟩:=o.look r zr hgr;obtain ⟨aR,a6,s,ag,av,G⟩:=(o.pairs r zr hgr).shape;rw [s] at B;have aC:(r:Int)<(Z.length:Int):=by have:=(List.getElem?_eq_some_iff.1 hgr).1;omega
 have au:¬ (4:Int)<(zr.nd.pairs.length:Int):=by omega
 have a8:(0:Int)<=(i:Int)+1:=by omega
 have aw:((i:Int)+1).toNat=i+1:=by omega
 have KR:=H_ M;have T:=H_ B;clear hr hgr B r2 r3 r4 M s G;clear h x I f o l J K u a3 a4 k2 k3 k4;go_enter Tryz.func171,Tryz.ntmps171;go_upto_region 2 with fail
 go_quiet (fail)
 have c:=Fr.drewN No w nq;generalize w.drewN nq=L at c ⊢
 replace C:=c.cell0 C
 replace a1:=c.cell0 a1
 replace a2:=c.cell0 a2
 replace z:=c.cell0 z
 have g:=H_ c;clear c kl;go_upto_if 38 with fail
 go_cut [57] (fun _ wx=>Hid (Fr No L wx))
 case first =>
  rcases H.out.left with rfl | ⟨m,N,v,rfl,hm,p,h4⟩
  · first
     | (exfalso;omega)
     | (go_wp2_with fail
        go_meet
        case rel=>exact H_ (Fr.refl No L))
  have kl:=(P.out.fr0 g.out).cell1 zah m hm rfl
  obtain ⟨X,_,_,_⟩:=(H.out.at0.r.fr0 g.out).look N v p;obtain ⟨aH,Y,q,_,_,_⟩:=(H.out.at0.r.pairs N v p).shape;rw [q] at X;have az:(m:Int)<(za.nd.kids.length:Int):=(by omega);have aa:(N:Int)<(Z.length:Int):=(by have:=(List.getElem?_eq_some_iff.1 p).1;omega);have ae:¬ (4:Int)<(v.nd.pairs.length:Int):=(by omega);have b3:(0:Int)<(m:Int)+1:=(by omega);have y:IntKind.i64.wrap ((m:Int)+1-1)=(m:Int):=(by rw [IntKind.wrap_i64];omega);have W:IntKind.i64.wrap (m:Int)=(m:Int):=(by rw [IntKind.wrap_i64];omega);have aA:(0:Int)<=(m:Int):=(by omega);clear hm p q h4;go_upto_region 6 with fail
  go_quiet (fail)
  clear y W;have a:=Fr.drewN No L nq;generalize L.drewN nq=W2 at a ⊢
  replace X:=a.cell0 X
  have n:=H_ a;clear a C a1 a2 z;go_wp2_with fail;go_meet
  case rel=>exact n
 case rest =>
  have d:=hcut.out;have D:=(H.out.at0.fr0 g.out).fr0 d
  replace C:=d.cell0 C
  replace a1:=d.cell0 a1
  replace a2:=d.cell0 a2
  replace z:=d.cell0 z
  have j:=H_ D;have E:=H_ d;clear d D hcut;have M:=((KR.out |> g.out.cell0) |> E.out.cell0);have B:=((T.out |> g.out.cell0) |> E.out.cell0);have hz:TreeZ wc t A fl root many (treeF t (.slice (some ⟨nb,no,none⟩) Z.length cap) fv Z):=⟨_,_,_,j.out.r,H.out.nds,fun b=>Iff.rfl⟩;have HZ:=H_ hz;have HS:=H_ hs;clear hz hs;go_upto_region 17 with fail;have y:IntKind.i64.wrap ((i:Int)+1)=(i:Int)+1:=(by rw [IntKind.wrap_i64];omega)
  go_quiet (fail)
  clear y;have a:=Fr.drewN No wc nq;generalize wc.drewN nq=W2 at a ⊢
  replace B:=a.cell0 B
  have n:=H_ a;clear a C a1 a2 z M;go_wp2_with (go_at_call 173;refine (zhu _ t A fl root many _ (HZ.out.fr0 n.out) at_ i HS.out U S).mono ?_;rintro e w4 ⟨rfl,F4,a0,a5,Q⟩);go_ret;have aS:=j.out.fr.size;have aq:=n.out.size;refine ⟨⟨_,rfl⟩,F4,a0,(j.out.fr.trans0 n.out).trans a5 fun b hb e=>?_,fun b hb=>?_⟩
  · rcases j.out.new b e with e | e
    · exact e
    omega
  rcases Q b hb with e | e
  · exact j.out.new b e
  exact .inr (by omega)
set_option maxHeartbeats 8000000 in
theorem zpy (w:World) (t:Nat) (A:Arr) (fl:List Nat) (root:Nat) (many:Int) (F:Nat->Prop) (at_ i k nb no cap:Nat) (fv:Value) (Z:List Nz) (za zk:Nz) (h:zml w t A fl root many F at_ i k nb no cap fv Z za zk)
 (r:Nat) (zr:Nz) (p:ByteArray×Int) (hr:za.nd.kids[i+1]?=some r) (hgr:Z[r]?=some zr) (hr5:4<zr.nd.pairs.length) (hr9:zr.nd.pairs.length<=9) (hp:za.nd.pairs[i]?=some p) (hkat:k≠at_) (hra:r≠at_) (hkr:k≠r) (hkw:zk.nd.kids = []\/zk.nd.kids.length=zk.nd.pairs.length+1) (hrw:zr.nd.kids = []\/zr.nd.kids.length=zr.nd.pairs.length+1) (hboth:zk.nd.kids = []↔zr.nd.kids = []) :
 Calls Tryz.prog 171 #[.pointer (some ⟨t,0,none⟩),.int .i64 at_,.int .i64 i] w (zgu w t F (lendR A at_ i) fl root many):=by
 have a:=h.at0.r;have dH:=h.few;have dh:at_<Z.length:=(List.getElem?_eq_some_iff.1 h.ga).1;have cx:k<Z.length:=(List.getElem?_eq_some_iff.1 h.gk).1;have c0:=a.obj.cell 0 rfl;obtain ⟨a1,a2,a3,a4⟩:=a.look at_ za h.ga;obtain ⟨k1,k2,k3,k4⟩:=a.look k zk h.gk;obtain ⟨pa,dc,aA,dI,dF,aD⟩:=(a.pairs at_ za h.ga).shape;obtain ⟨ka,d2,aw,dz,dQ,ct⟩:=(a.kids at_ za h.ga).shape;obtain ⟨e7,bT,T,cO,di,ak⟩:=(a.pairs k zk h.gk).shape;have bc:=h.len;have dD:=(List.getElem?_eq_some_iff.1 h.kk).1;obtain ⟨kb,ko,rfl⟩:=ct (by omega);have M:=a.kids at_ za h.ga;rw [aw] at a2 M;rw [T] at k1;have kl:=M.cell1 zah i h.kk rfl;have cL:(at_:Int)<(Z.length:Int):=by omega
 have dS:(k:Int)<(Z.length:Int):=by omega
 have dV:(i:Int)<(za.nd.kids.length:Int):=by omega
 have dk:(i:Int)<=9:=by have:=h.a9;omega
 have cI:¬ (4:Int)<(zk.nd.pairs.length:Int):=by have:=h.k4;omega
 have bJ:za.nd.kids.length<=10:=by have:=h.a9;omega
 have H:=H_ h;have bL:=H_ M;have dv:=H_ aw;have e6:=H_ aA;have df:=H_ T;have dN:=H_ aD;have da:=H_ ak;have cT:=(List.getElem?_eq_some_iff.1 hr).1;have dZ:(i:Int)+1<(za.nd.kids.length:Int):=by omega
 obtain ⟨pb,po,rfl⟩:=aD (by omega);have kr:=M.cell1 zah (i+1) hr rfl;obtain ⟨r1,r2,r3,r4⟩:=a.look r zr hgr;obtain ⟨dG,cB,I,dd,cV,aq⟩:=(a.pairs r zr hgr).shape;obtain ⟨rb,ro,rfl⟩:=aq (by omega);rw [I] at r1;have dM:(r:Int)<(Z.length:Int):=by have:=(List.getElem?_eq_some_iff.1 hgr).1;omega
 have dx:r<Z.length:=(List.getElem?_eq_some_iff.1 hgr).1;have dl:(4:Int)<(zr.nd.pairs.length:Int):=by omega
 have cE:(0:Int)<=(i:Int)+1:=by omega
 have cZ:((i:Int)+1).toNat=i+1:=by omega
 have d9:(i:Int)<(za.nd.pairs.length:Int):=by omega
 have dE:(0:Int)<=(i:Int):=by omega
 have cH:(0:Int)<(zr.nd.pairs.length:Int):=by omega
 have bw:0<zr.nd.pairs.length:=by omega
 obtain ⟨x,hx⟩:∃ x,zr.nd.pairs[0]?=some x:=⟨_,List.getElem?_eq_getElem (by omega)⟩
 have hj:lendR A at_ i=((A.set k ⟨zk.nd.pairs++[p],zk.nd.kids++zr.nd.kids.take 1⟩).set at_ ⟨za.nd.pairs.set i x,za.nd.kids⟩).set r ⟨zr.nd.pairs.drop 1,zr.nd.kids.drop 1⟩:=by
  have e1:kidA A at_ i=k:=(by unfold kidA;rw [<-h.ea];simp [List.getD,h.kk]);have e2:kidA A at_ (i+1)=r:=(by unfold kidA;rw [<-h.ea];simp [List.getD,hr]);have e3:ndA A k=zk.nd:=(by rw [<-h.nds];exact zpe h.gk);have e4:ndA A r=zr.nd:=(by rw [<-h.nds];exact zpe hgr);unfold lendR;rw [e1,e2,e3,e4,<-h.ea];simp [List.getD,hp,hx]
 have KR:=H_ kr;have cq:=H_ r1;have HP:=H_ hp;have HX:=H_ hx;have cp:=H_ hgr;have bo:=H_ I;have HJ:=H_ hj;have D:=H_ aA;clear hr hgr r1 r2 r3 r4 kr I aq hp hx hj;clear h aw aA T a M bc aD ak a3 a4 k2 k3 k4;go_enter Tryz.func171,Tryz.ntmps171;go_upto_region 2 with fail
 go_quiet (fail)
 have y:=Fr.drewN No w nq;generalize w.drewN nq=W1 at y ⊢
 replace c0:=y.cell0 c0
 replace a1:=y.cell0 a1
 replace a2:=y.cell0 a2
 replace k1:=y.cell0 k1
 have U:=H_ y;clear y kl;go_upto_if 38 with fail
 go_cut [57] (fun _ wx=>Hid (Fr No W1 wx))
 case first =>
  rcases H.out.left with rfl | ⟨m,ll,aE,rfl,hm,ad,h4⟩
  · first
     | (exfalso;omega)
     | (go_wp2_with fail
        go_meet
        case rel=>exact H_ (Fr.refl No W1))
  have kl:=(bL.out.fr0 U.out).cell1 zah m hm rfl
  obtain ⟨l1,_,_,_⟩:=(H.out.at0.r.fr0 U.out).look ll aE ad;obtain ⟨dy,cu,ao,_,_,_⟩:=(H.out.at0.r.pairs ll aE ad).shape;rw [ao] at l1;have ds:(m:Int)<(za.nd.kids.length:Int):=(by omega);have d5:(ll:Int)<(Z.length:Int):=(by have:=(List.getElem?_eq_some_iff.1 ad).1;omega);have db:¬ (4:Int)<(aE.nd.pairs.length:Int):=(by omega);have dJ:(0:Int)<(m:Int)+1:=(by omega);have aB:IntKind.i64.wrap ((m:Int)+1-1)=(m:Int):=(by rw [IntKind.wrap_i64];omega);have bY:IntKind.i64.wrap (m:Int)=(m:Int):=(by rw [IntKind.wrap_i64];omega);have dt:(0:Int)<=(m:Int):=(by omega);clear hm ad ao h4;go_upto_region 6 with fail
  go_quiet (fail)
  clear aB bY;have s:=Fr.drewN No W1 nq;generalize W1.drewN nq=W2 at s ⊢
  replace l1:=s.cell0 l1
  have cw:=H_ s;clear s c0 a1 a2 k1;go_wp2_with fail;go_meet
  case rel=>exact cw
 case rest =>
  have z:=hcut.out;have bh:=(H.out.at0.fr0 U.out).fr0 z
  replace c0:=z.cell0 c0
  replace a1:=z.cell0 a1
  replace a2:=z.cell0 a2
  replace k1:=z.cell0 k1
  have bM:=H_ bh;have aX:=H_ z;clear z bh hcut;have kr:=((KR.out |> U.out.cell0) |> aX.out.cell0);have r1:=((cq.out |> U.out.cell0) |> aX.out.cell0)
  have aF:=H_ hkat;have c4:=H_ hra;have O:=H_ hkr;have cd:=H_ hkw;have bZ:=H_ hrw;have cs:=H_ hboth;clear hkat hra hkr hkw hrw hboth;go_upto_region 17 with fail;have aB:IntKind.i64.wrap ((i:Int)+1)=(i:Int)+1:=(by rw [IntKind.wrap_i64];omega)
  go_quiet (fail)
  clear aB;have s:=Fr.drewN No wc nq;generalize wc.drewN nq=W2 at s ⊢
  replace r1:=s.cell0 r1
  have E:=bM.out.fr0 s;have b8:=H_ E;clear s c0 a1 a2 k1 kr E;go_upto_region 19 with fail
  go_cut [163] (fun _ wx=>∃ B,Hid (AtZ w wx t nb no cap fv (Z.set k ⟨⟨zk.nd.pairs++[p],zk.nd.kids⟩,B,zk.kv⟩) fl root many F))
  case first =>
   obtain ⟨i0,W,aH,aG,E⟩:=info_parts info127;have a:=b8.out.r;obtain ⟨b1,_,b3,_⟩:=a.look at_ za H.out.ga;obtain ⟨d1,_,d3,_⟩:=a.look k zk H.out.gk;rw [D.out] at b1;have d:=a.pairs at_ za H.out.ga;rw [D.out] at d;have x0:=d.cell0 zag i HP.out rfl;have x1:=d.cell zag i 1 HP.out rfl;have bk:=a.pairs k zk H.out.gk;have aV:¬ zk.pv.ownBlock=some nb:=fun e=>(a.a2 k _ nb H.out.gk (.inl e)).2.1 rfl;have cv:nb<W2.heap.size:=a.nodes.lt nb rfl;have dU:pb<W2.heap.size:=d.lt pb rfl;have dn:zk.nd.pairs.length<=4:=H.out.k4;have cm:=H_ bk;clear a d bk r1
   go_region_law (refine zbj rfl _ _ 119 rfl 122 i0 _ 2 24 Tryz.underlying119 W aH aG E rfl (by decide) zag zhq zk.pv (.slice (some ⟨W2.heap.size,0,none⟩) 1 1) zk.nd.pairs [p] rfl rfl (cm.out.fr0 ((Fr.refl No W2).drew.alloc _)) (zre W2.drew p _ rfl) (by unfold maxLen;simp;omega) (by simp;omega) ?_
                  intro v1 w4 az bD b7;obtain ⟨va,f,S,_,_,_⟩:=az.shape;generalize (zk.nd.pairs++[p]).length=n2 at S;subst S;have af:Fr (fun b=>zk.pv.ownBlock=some b) W2 w4:=((Fr.refl _ W2).drew.alloc _).trans bD fun _ _ e=>e;have u1:=af.cell d1 aV;have u2:=af.free d1 d3 aV;have ce:=H_ az;have cl:=H_ af;have cj:=H_ b7;clear az bD b7 af)
   all_goals
    have o:=b8.out.setPairs (w1:=w4) (pv':=.slice va n2 f) (P':=zk.nd.pairs++[p]) k zk H.out.gk cl.out ce.out fun b e=>by
     rcases cj.out b e with e | e
     · exact .inl e
     right;simp at e;omega
    have HQ:=H_ o;clear o;go_wp2_with fail;go_meet
    case rel=>exact ⟨_,HQ⟩
  case rest =>
   obtain ⟨B,HQ⟩:=hcut;have u:(Z.set k ⟨⟨zk.nd.pairs++[p],zk.nd.kids⟩,B,zk.kv⟩)[r]?=some zr:=(by rw [List.getElem?_set_ne O.out];exact cp.out);have j:(Z.set k ⟨⟨zk.nd.pairs++[p],zk.nd.kids⟩,B,zk.kv⟩)[at_]?=some za:=(by rw [List.getElem?_set_ne aF.out];exact H.out.ga);have R:(Z.set k ⟨⟨zk.nd.pairs++[p],zk.nd.kids⟩,B,zk.kv⟩)[k]?=some ⟨⟨zk.nd.pairs++[p],zk.nd.kids⟩,B,zk.kv⟩:=List.getElem?_set_self cx;have J:ndsZ (Z.set k ⟨⟨zk.nd.pairs++[p],zk.nd.kids⟩,B,zk.kv⟩)=A.set k ⟨zk.nd.pairs++[p],zk.nd.kids⟩:=(by rw [zay,H.out.nds]);have X:(Z.set k ⟨⟨zk.nd.pairs++[p],zk.nd.kids⟩,B,zk.kv⟩).length=Z.length:=(by simp);generalize Z.set k ⟨⟨zk.nd.pairs++[p],zk.nd.kids⟩,B,zk.kv⟩=Z2 at HQ u j R J X;have a:=HQ.out.r;obtain ⟨b1,_,b3,_⟩:=a.look at_ za j
   obtain ⟨e1,_,e3,_⟩:=a.look r zr u;have d:=a.pairs at_ za j;have a0:=a.pairs r zr u;rw [D.out] at b1 d;rw [bo.out] at e1 a0;have y0:=a0.cell0 zag _ HX.out rfl;have y1:=a0.cell zag _ 1 HX.out rfl;have z0:=d.cell0 zag i HP.out rfl;have z1:=d.cell zag i 1 HP.out rfl;have bS:=d.free (po+i * 2);have bN:=d.free (po+i * 2+1);simp only [Nat.zero_mul,Nat.add_zero] at y0 y1;have cv:nb<wc.heap.size:=a.nodes.lt nb rfl;have dp:pb<wc.heap.size:=d.lt pb rfl;have dq:rb<wc.heap.size:=a0.lt rb rfl;have aR:=HQ.out.setPair at_ za j D.out p x HP.out;have c6:=H_ aR;have bm:=H_ u;have cC:=H_ j;have bx:=H_ R;have br:=H_ J;have bE:=H_ X;clear a d a0 aR u j R J X r1;go_upto_region 20 with fail
   go_region
   have o:=c6.out.fr0 (Fr.refl No _).drew;generalize (((wc.setCell ⟨pb,po+i * 2,none⟩ (.string x.1)).setCell ⟨pb,po+i * 2+1,none⟩ (.int .i64 x.2))).drew=W4 at o ⊢
   have n:(Z2.set at_ ⟨⟨za.nd.pairs.set i x,za.nd.kids⟩,za.pv,za.kv⟩)[r]?=some zr:=(by rw [List.getElem?_set_ne (Ne.symm c4.out)];exact bm.out);have P:(Z2.set at_ ⟨⟨za.nd.pairs.set i x,za.nd.kids⟩,za.pv,za.kv⟩)[k]?=some ⟨⟨zk.nd.pairs++[p],zk.nd.kids⟩,B,zk.kv⟩:=(by rw [List.getElem?_set_ne (Ne.symm aF.out)];exact bx.out);have G:ndsZ (Z2.set at_ ⟨⟨za.nd.pairs.set i x,za.nd.kids⟩,za.pv,za.kv⟩)=(A.set k ⟨zk.nd.pairs++[p],zk.nd.kids⟩).set at_ ⟨za.nd.pairs.set i x,za.nd.kids⟩:=(by rw [zay,br.out]);have a5:(Z2.set at_ ⟨⟨za.nd.pairs.set i x,za.nd.kids⟩,za.pv,za.kv⟩).length=Z.length:=(by rw [List.length_set];exact bE.out);generalize Z2.set at_ ⟨⟨za.nd.pairs.set i x,za.nd.kids⟩,za.pv,za.kv⟩=Z4 at o n P G a5;have a:=o.r;obtain ⟨e1,e2,e3,e4⟩:=a.look r zr n
   have aS:¬ zr.pv.ownBlock=some nb:=fun e=>(a.a2 r _ nb n (.inl e)).2.1 rfl;have K:=zev W4 zr.pv zr.nd.pairs 0 (a.pairs r zr n) bw (by omega);have dj:nb<W4.heap.size:=a.nodes.lt nb rfl;have ch:=H_ o;have bt:=H_ n;have aY:=H_ P;have b6:=H_ G;have aW:=H_ a5;clear a o n P G a5 y0 y1 z0 z1 bS bN b1 b3 e2 e4
   go_upto_region 22 with (first
    | (go_at_call 170;refine K.mono ?_;clear K;rintro e w5 ⟨g5,o5,c5,rfl,aQ,ab,bi⟩
       have y1:=ab.cell e1 aS;have y2:=ab.free e1 e3 aS;have bK:=H_ aQ;have c3:=H_ ab;have ck:=H_ bi;clear aQ ab bi))
   have o:=ch.out.setPairs (w1:=w5) (pv':=.slice (some ⟨g5,o5,none⟩) (zr.nd.pairs.length-1) c5) (P':=zr.nd.pairs.drop 1) r zr bt.out c3.out (by have:=bK.out;simpa using this) fun b e=>by
    obtain rfl:g5=b:=by simpa [Value.ownBlock] using e
    exact .inl ck.out
   generalize w5.setCell ⟨nb,no+r * 2,none⟩ (.slice (some ⟨g5,o5,none⟩) (zr.nd.pairs.length-1) c5)=W6 at o ⊢
   have aP:r<Z4.length:=(by have:=aW.out;omega);have l:(Z4.set r ⟨⟨zr.nd.pairs.drop 1,zr.nd.kids⟩,.slice (some ⟨g5,o5,none⟩) (zr.nd.pairs.length-1) c5,zr.kv⟩)[r]?=some ⟨⟨zr.nd.pairs.drop 1,zr.nd.kids⟩,.slice (some ⟨g5,o5,none⟩) (zr.nd.pairs.length-1) c5,zr.kv⟩:=List.getElem?_set_self aP;have a6:(Z4.set r ⟨⟨zr.nd.pairs.drop 1,zr.nd.kids⟩,.slice (some ⟨g5,o5,none⟩) (zr.nd.pairs.length-1) c5,zr.kv⟩)[k]?=some ⟨⟨zk.nd.pairs++[p],zk.nd.kids⟩,B,zk.kv⟩:=(by rw [List.getElem?_set_ne (Ne.symm O.out)];exact aY.out);have L:ndsZ (Z4.set r ⟨⟨zr.nd.pairs.drop 1,zr.nd.kids⟩,.slice (some ⟨g5,o5,none⟩) (zr.nd.pairs.length-1) c5,zr.kv⟩)=((A.set k ⟨zk.nd.pairs++[p],zk.nd.kids⟩).set at_ ⟨za.nd.pairs.set i x,za.nd.kids⟩).set r ⟨zr.nd.pairs.drop 1,zr.nd.kids⟩:=(by rw [zay,b6.out])
   generalize Z4.set r ⟨⟨zr.nd.pairs.drop 1,zr.nd.kids⟩,.slice (some ⟨g5,o5,none⟩) (zr.nd.pairs.length-1) c5,zr.kv⟩=Z6 at o l a6 L;have a:=o.r;obtain ⟨_,e2,_,e4⟩:=a.look r _ l;have g:=a.kids r _ l;dsimp only at e2 e4 g;obtain ⟨ca,d0,aC,cS,cQ,aU⟩:=g.shape;have al:¬ zr.kv.ownBlock=some nb:=fun e=>(a.a2 r _ nb l (.inr e)).2.1 rfl;rw [aC] at e2;have de:nb<W6.heap.size:=a.nodes.lt nb rfl;have ae:=H_ o;have bs:=H_ l;have ap:=H_ a6;have an:=H_ L;have bV:=H_ aC;clear o l a6 L aC e1 e3 y1 y2;rcases bZ.out with a7 | cA
   · have bz:=cs.out.2 a7
     have bn:zr.nd.kids.length=0:=(by rw [a7];rfl);have c1:¬ (0:Int)<(zr.nd.kids.length:Int):=(by omega);have cr:=H_ a7;have ci:=H_ bz;clear a7 bz bn a g;go_wp2;go_ret;refine ⟨⟨_,rfl⟩,_,⟨_,_,_,ae.out.r,?_,fun b=>Iff.rfl⟩,ae.out.fr,ae.out.new⟩;rw [an.out,HJ.out,cr.out,ci.out];simp
   have c1:(0:Int)<(zr.nd.kids.length:Int):=by omega
   obtain ⟨cb,co,rfl⟩:=aU (by omega);obtain ⟨c,hc⟩:∃ c,zr.nd.kids[0]?=some c:=⟨_,List.getElem?_eq_getElem (by omega)⟩;rw [bV.out] at g;have b4:=g.cell1 zah _ hc rfl;simp only [Nat.add_zero] at b4;have C:=ap.out;obtain ⟨_,f2,_,f4⟩:=a.look k _ C;have V:=a.kids k _ C;dsimp only at f2 f4 V;have bu:¬ zk.kv.ownBlock=some nb:=fun e=>(a.a2 k _ nb C (.inr e)).2.1 rfl
   have cW:zk.nd.kids.length<=1000:=by
    rcases cd.out with e | e
    · rw [e];simp
    have:=H.out.k4;omega
   have bb:zr.nd.kids.length<=1000:=(by omega);have b0:0<zr.nd.kids.length:=(by omega);obtain ⟨i0,W,aH,aG,E⟩:=info_parts info3;have ai:SlF (W6.drew.alloc (.cells #[.int .i64 (c:Int)] 3)) 3 1 nat1 (.slice (some ⟨W6.heap.size,0,none⟩) 1 1) [c]:=⟨rfl,.inr ⟨_,_,_,_,rfl,zad _ _ _ rfl,Nat.le_refl _,by unfold maxLen;omega,by simp,rfl⟩⟩;have bl:=H_ ai;have bq:=H_ V;have HC:=H_ hc;have d6:cb<W6.heap.size:=g.lt cb rfl;clear a g V C cA hc ai;go_upto_region 23 with fail
   go_region_law (refine zbj rfl _ _ 76 rfl 3 i0 _ 1 8 Tryz.underlying76 W aH aG E rfl (by decide) zah zno zk.kv (.slice (some ⟨W6.heap.size,0,none⟩) 1 1) zk.nd.kids [c] rfl rfl (bq.out.fr0 ((Fr.refl No W6).drew.alloc _)) bl.out (by unfold maxLen;simp;omega) (by simp;omega) ?_
                  intro v1 w7 aJ aO bj;obtain ⟨va,f,S,_,_,_⟩:=aJ.shape;generalize (zk.nd.kids++[c]).length=n2 at S;subst S;have aa:Fr (fun b=>zk.kv.ownBlock=some b) W6 w7:=((Fr.refl _ W6).drew.alloc _).trans aO fun _ _ e=>e;have u1:=aa.cell f2 bu;have u2:=aa.free f2 f4 bu;have bU:=H_ aJ;have bW:=H_ aa;have bO:=H_ bj;clear aJ aO bj aa)
   all_goals
    have o:=ae.out.setKids (w1:=w7) (kv':=.slice va n2 f) (K':=zk.nd.kids++[c]) k _ ap.out bW.out bU.out fun b e=>by
     rcases bO.out b e with e | e
     · exact .inl e
     right;simp at e;omega
    generalize w7.setCell ⟨nb,no+k * 2+1,none⟩ (.slice va n2 f)=W8 at o ⊢
    have v:(Z6.set k ⟨⟨zk.nd.pairs++[p],zk.nd.kids++[c]⟩,B,.slice va n2 f⟩)[r]?=some ⟨⟨zr.nd.pairs.drop 1,zr.nd.kids⟩,.slice (some ⟨g5,o5,none⟩) (zr.nd.pairs.length-1) c5,zr.kv⟩:=(by rw [List.getElem?_set_ne O.out];exact bs.out);have N:ndsZ (Z6.set k ⟨⟨zk.nd.pairs++[p],zk.nd.kids++[c]⟩,B,.slice va n2 f⟩)=(((A.set k ⟨zk.nd.pairs++[p],zk.nd.kids⟩).set at_ ⟨za.nd.pairs.set i x,za.nd.kids⟩).set r ⟨zr.nd.pairs.drop 1,zr.nd.kids⟩).set k ⟨zk.nd.pairs++[p],zk.nd.kids++[c]⟩:=(by rw [zay,an.out]);generalize Z6.set k ⟨⟨zk.nd.pairs++[p],zk.nd.kids++[c]⟩,B,.slice va n2 f⟩=Z8 at o v N;have a:=o.r;obtain ⟨_,ax,_,bg⟩:=a.look r _ v;have g:=a.kids r _ v;dsimp only at ax bg g;have Q:=zic W8 zr.kv zr.nd.kids 0 g b0 bb;have cF:nb<W8.heap.size:=a.nodes.lt nb rfl
    have cy:=H_ o;have b9:=H_ v;have bp:=H_ N;clear a g o v N u1 u2 e2 e4 f2 f4 b4
    go_wp2_with (first
     | (go_at_call 182;refine Q.mono ?_;clear Q;rintro e w9 ⟨g9,o9,c9,rfl,bC,a8,bv⟩
        have y1:=a8.cell ax al;have y2:=a8.free ax bg al;have bQ:=H_ bC;have bX:=H_ a8;have cf:=H_ bv;clear bC a8 bv))
    go_ret
    have Y:=cy.out.setKids (w1:=w9) (kv':=.slice (some ⟨g9,o9,none⟩) (zr.nd.kids.length-1) c9) (K':=zr.nd.kids.drop 1) r _ b9.out bX.out (by have:=bQ.out;simpa using this) fun b e=>by
     obtain rfl:g9=b:=by simpa [Value.ownBlock] using e
     exact .inl cf.out
    refine ⟨⟨_,rfl⟩,_,⟨_,_,_,Y.r,?_,fun b=>Iff.rfl⟩,Y.fr,Y.new⟩
    have cc:zr.nd.kids.take 1 = [c]:=by
     have h1:=HC.out
     cases hz:zr.nd.kids with
     | nil=>rw [hz] at h1;simp at h1
     | cons q qs=>rw [hz] at h1;simp at h1;simp [h1]
    rw [zay,bp.out,HJ.out,cc];dsimp only;rw [List.set_comm _ _ O.out,List.set_set,List.set_comm _ _ O.out.symm,List.set_comm _ _ aF.out.symm,List.set_set]
end Go.Proofs.YthljnnjpmdgkoaaGreat