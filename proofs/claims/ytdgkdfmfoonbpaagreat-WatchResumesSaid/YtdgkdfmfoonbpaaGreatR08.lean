/- Own lemmas. -/
import Derived.Test.YtdgkdfmfoonbpaaGreatR07
import Derived.BigRegion
namespace Go.Proofs.YtdgkdfmfoonbpaaGreat
open Go Go.Proofs Go.RowKit
set_option maxRecDepth 100000
def zfu (w:World) (t:Nat) (F:Nat->Prop) (A:Arr) (fl:List Nat) (root:Nat) (many:Int) (e:Ending) (w':World):Prop :=
 (∃ v,e=.returned v)/\∃ F',TreeZ w' t A fl root many F'/\Fr F w w'/\(∀ b,F' b->F b\/w.heap.size<=b)
structure TwoZ (w:World) (t:Nat) (A:Arr) (fl:List Nat) (root:Nat) (many:Int) (F:Nat->Prop) (at_ j l k nb no cap:Nat) (fv:Value) (Z:List Nz) (za zl zk:Nz) (p:ByteArray×Int):Prop where
 at0:AtZ w w t nb no cap fv Z fl root many F
 nds:ndsZ Z=A
 ga:Z[at_]?=some za
 gl:Z[l]?=some zl
 gk:Z[k]?=some zk
 ea:za.nd=ndA A at_
 el:zl.nd=ndA A l
 ek:zk.nd=ndA A k
 la:l≠at_
 ka:k≠at_
 lk:l≠k
 gp:za.nd.pairs[j]?=some p
 kl:za.nd.kids[j]?=some l
 kk:za.nd.kids[j+1]?=some k
 len:za.nd.kids.length=za.nd.pairs.length+1
 a9:za.nd.pairs.length<=9
 l9:zl.nd.pairs.length<=9
 k9:zk.nd.pairs.length<=9
 lw:zl.nd.kids = []\/zl.nd.kids.length=zl.nd.pairs.length+1
 kw:zk.nd.kids = []\/zk.nd.kids.length=zk.nd.pairs.length+1
 both:zl.nd.kids = []↔zk.nd.kids = []
 hl:kidA A at_ j=l
 hk:kidA A at_ (j+1)=k
 few:Z.length<=109951162
theorem two_z {w:World} {t:Nat} {A:Arr} {fl:List Nat} {root:Nat} {many:Int} {F:Nat->Prop} (h:TreeZ w t A fl root many F) (at_ j:Nat) (hs:zbk A fl at_) (hi:j<(ndA A at_).pairs.length) (hA:A.length<=109951162) :
 ∃ l k nb no cap fv Z za zl zk p,TwoZ w t A fl root many F at_ j l k nb no cap fv Z za zl zk p:=by
 obtain ⟨l,i⟩:∃ l,(ndA A at_).kids[j]?=some l:=⟨_,List.getElem?_eq_getElem (by have:=hs.len;omega)⟩;obtain ⟨k,g⟩:∃ k,(ndA A at_).kids[j+1]?=some k:=⟨_,List.getElem?_eq_getElem (by have:=hs.len;omega)⟩;obtain ⟨p,y⟩:∃ p,(ndA A at_).pairs[j]?=some p:=⟨_,List.getElem?_eq_getElem hi⟩;have n:kidA A at_ j=l:=by unfold kidA;simp [List.getD,i]
 have o:kidA A at_ (j+1)=k:=by unfold kidA;simp [List.getD,g]
 obtain ⟨z,B,C,D⟩:=hs.kid l (List.mem_of_getElem? i);obtain ⟨E,G,H,I⟩:=hs.kid k (List.mem_of_getElem? g);have q:l≠k:=fun e=>by have:=hs.apart j (j+1) l i (by rw [e];exact g);omega
 obtain ⟨nv,fv,Z,u,f,hF⟩:=h;obtain ⟨za,m,a⟩:=zbi f hs.lt;obtain ⟨zl,s,d⟩:=zbi f z;obtain ⟨zk,r,c⟩:=zbi f E;have v:at_<Z.length:=(List.getElem?_eq_some_iff.1 m).1;obtain ⟨nb,no,cap,rfl,x⟩:=u.headLen (by omega)
 exact ⟨l,k,nb,no,cap,fv,Z,za,zl,zk,p,⟨u,Fr.refl _ w,fun b hb=>.inl ((hF b).2 hb)⟩,f,m,s,r,a,d,c,B,G,q,by rw [a];exact y,by rw [a];exact i,by rw [a];exact g,
  by rw [a];exact hs.len,by rw [a];exact hs.hi,by rw [d];exact C,by rw [c];exact H,by rw [d];exact D,by rw [c];exact I,
  by rw [d,c];exact hs.both l (List.mem_of_getElem? i) k (List.mem_of_getElem? g),n,o,by rw [<-zas,f];exact hA⟩
set_option maxHeartbeats 8000000 in
theorem znh (w:World) (t:Nat) (A:Arr) (fl:List Nat) (root:Nat) (many:Int) (F:Nat->Prop) (at_ j l k nb no cap:Nat) (fv:Value) (Z:List Nz) (za zl zk:Nz) (p:ByteArray×Int) (h:TwoZ w t A fl root many F at_ j l k nb no cap fv Z za zl zk p)
 (hk4:zk.nd.pairs.length<=4) (hl5:4<zl.nd.pairs.length) :
 Calls Tryz.prog 136 #[.pointer (some ⟨t,0,none⟩),.int .i64 at_,.int .i64 ((j+1:Nat):Int)] w (zfu w t F (lendL A at_ (j+1)) fl root many):=by
 obtain ⟨x,hx⟩:∃ x,zl.nd.pairs[zl.nd.pairs.length-1]?=some x:=⟨_,List.getElem?_eq_getElem (by omega)⟩
 have hj:lendL A at_ (j+1)=((A.set k ⟨p :: zk.nd.pairs,zl.nd.kids.drop zl.nd.pairs.length++zk.nd.kids⟩).set at_ ⟨za.nd.pairs.set j x,za.nd.kids⟩).set l ⟨zl.nd.pairs.take (zl.nd.pairs.length-1),zl.nd.kids.take zl.nd.pairs.length⟩:=by
  unfold lendL;rw [Nat.add_sub_cancel,h.hl,h.hk,<-h.ea,<-h.el,<-h.ek];simp [List.getD,h.gp,hx]
 have a:=h.at0.r;have cz:=h.few;have bY:at_<Z.length:=(List.getElem?_eq_some_iff.1 h.ga).1;have cE:l<Z.length:=(List.getElem?_eq_some_iff.1 h.gl).1;have bH:k<Z.length:=(List.getElem?_eq_some_iff.1 h.gk).1;have c0:=a.obj.cell 0 rfl;obtain ⟨a1,a2,a3,a4⟩:=a.look at_ za h.ga;obtain ⟨l1,l2,l3,l4⟩:=a.look l zl h.gl;obtain ⟨k1,k2,k3,k4⟩:=a.look k zk h.gk;obtain ⟨pa,cp,b4,cM,cN,b0⟩:=(a.pairs at_ za h.ga).shape;obtain ⟨ka,cn,aW,cP,cQ,aT⟩:=(a.kids at_ za h.ga).shape;obtain ⟨la,d,au,cf,cg,an⟩:=(a.pairs l zl h.gl).shape;obtain ⟨cW,bN,R,_,_,_⟩:=(a.pairs k zk h.gk).shape;have aX:=h.len;have cD:=(List.getElem?_eq_some_iff.1 h.gp).1;obtain ⟨pb,po,rfl⟩:=b0 (by omega);obtain ⟨kb,ko,rfl⟩:=aT (by omega);obtain ⟨lb,lo,rfl⟩:=an (by omega)
 have aa:=a.kids at_ za h.ga;rw [aW] at a2 aa;rw [R] at k1;rw [au] at l1;have kl:=aa.cell1 zag j h.kl rfl;have kr:=aa.cell1 zag (j+1) h.kk rfl;have bZ:(at_:Int)<(Z.length:Int):=by omega
 have cF:(l:Int)<(Z.length:Int):=by omega
 have cR:(k:Int)<(Z.length:Int):=by omega
 have cA:(j:Int)<(za.nd.kids.length:Int):=by omega
 have c4:(j:Int)+1<(za.nd.kids.length:Int):=by omega
 have c5:(0:Int)<=(j:Int)+1:=by omega
 have c6:((j:Int)+1).toNat=j+1:=by omega
 have c8:(j:Int)<(za.nd.pairs.length:Int):=by omega
 have cc:¬ (4:Int)<(zk.nd.pairs.length:Int):=by omega
 have cd:(4:Int)<(zl.nd.pairs.length:Int):=by omega
 have cO:(0:Int)<(j:Int)+1:=by omega
 have ce:(zl.nd.pairs.length:Int)<=9:=by have:=h.l9;omega
 have cB:(j:Int)<=9:=by have:=h.a9;omega
 have H:=H_ h;have HX:=H_ hx;have HJ:=H_ hj;have a5:=H_ b4;have ao:=H_ au;have I:=H_ R;have cC:j+1<za.nd.kids.length:=by omega
 clear h hx hj b4 au aW R a aa aX b0 aT an a3 a4 l2 l3 l4 k2 k3 k4;go_enter Tryz.func136,Tryz.ntmps136;go_upto_region 2 with fail
 go_quiet (fail)
 have o:=Fr.drewN No w nq;generalize w.drewN nq=W1 at o ⊢
 replace c0:=o.cell0 c0
 replace a1:=o.cell0 a1
 replace a2:=o.cell0 a2
 replace l1:=o.cell0 l1
 replace k1:=o.cell0 k1
 replace kl:=o.cell0 kl
 have aD:=H_ o;clear o kr;go_upto_region 6 with fail;have D:IntKind.i64.wrap ((j:Int)+1-1)=(j:Int):=by rw [IntKind.wrap_i64];omega
 have E:IntKind.i64.wrap (j:Int)=(j:Int):=by rw [IntKind.wrap_i64];omega
 go_quiet (fail)
 clear D E;have L:=Fr.drewN No W1 nq;generalize W1.drewN nq=W2 at L ⊢
 replace c0:=L.cell0 c0
 replace l1:=L.cell0 l1
 have aN:=(H.out.at0.fr0 aD.out).fr0 L;have ap:=H_ aN;clear L aN a1 a2 k1 kl;go_upto_region 9 with fail
 go_cut [64] (fun _ wx=>∃ C,Hid (AtZ w wx t nb no cap fv (Z.set k ⟨⟨p :: zk.nd.pairs,zk.nd.kids⟩,C,zk.kv⟩) fl root many F))
 case first =>
  have a:=ap.out.r;obtain ⟨b1,_,b3,_⟩:=a.look at_ za H.out.ga;obtain ⟨d1,_,d3,_⟩:=a.look k zk H.out.gk;rw [a5.out] at b1;have g:=a.pairs at_ za H.out.ga;rw [a5.out] at g;have x0:=g.cell0 zad j H.out.gp rfl;have x1:=g.cell zad j 1 H.out.gp rfl;have ar:=a.pairs k zk H.out.gk;have av:¬ zk.pv.ownBlock=some nb:=fun e=>(a.a2 k _ nb H.out.gk (.inl e)).2.1 rfl;rw [I.out] at d1 ar av;have bJ:nb<W2.heap.size:=a.nodes.lt nb rfl;have bo:=H_ ar;have aU:zk.nd.pairs.length<=1099511627:=(by omega);have D:IntKind.i64.wrap ((j:Int)+1-1)=(j:Int):=(by rw [IntKind.wrap_i64];omega);have E:IntKind.i64.wrap (j:Int)=(j:Int):=(by rw [IntKind.wrap_i64];omega);have bF:(0:Int)<=(j:Int):=(by omega);clear a g ar c0 l1
  go_region_law (go_simp;go_at_call 154;refine (zdv _ _ zk.nd.pairs 0 p (bo.out.drew) (Nat.zero_le _) aU).mono ?_;rintro e w3 ⟨g3,o3,c3,rfl,b5,a7,aP⟩
                 have y1:=a7.cell d1 av;have y2:=a7.free d1 d3 av;have bq:=H_ b5;have bl:=H_ aP;have bj:=H_ a7;clear b5 aP a7)
  all_goals
   have hF:Fr (fun b=>zk.pv.ownBlock=some b) W2 w3:=(Fr.refl _ W2).drew.trans bj.out fun b _ e=>by rw [I.out];exact e
   have B:=ap.out.setPairs (w1:=w3) (pv':=.slice (some ⟨g3,o3,none⟩) (zk.nd.pairs.length+1) c3) (P':=p :: zk.nd.pairs) k zk H.out.gk hF (by have:=bq.out;simpa using this) fun b e=>by
    obtain rfl:g3=b:=by simpa [Value.ownBlock] using e
    rcases bl.out with e | e
    · left;rw [I.out];exact e
    exact .inr e
   have HQ:=H_ B;clear B hF;go_wp2_with fail;go_meet
   case rel=>exact ⟨_,HQ⟩
 case rest =>
  obtain ⟨C,HQ⟩:=hcut;have s:(Z.set k ⟨⟨p :: zk.nd.pairs,zk.nd.kids⟩,C,zk.kv⟩)[l]?=some zl:=(by rw [List.getElem?_set_ne (Ne.symm H.out.lk)];exact H.out.gl);have m:(Z.set k ⟨⟨p :: zk.nd.pairs,zk.nd.kids⟩,C,zk.kv⟩)[at_]?=some za:=(by rw [List.getElem?_set_ne H.out.ka];exact H.out.ga);have M:(Z.set k ⟨⟨p :: zk.nd.pairs,zk.nd.kids⟩,C,zk.kv⟩)[k]?=some ⟨⟨p :: zk.nd.pairs,zk.nd.kids⟩,C,zk.kv⟩:=List.getElem?_set_self bH;have S:ndsZ (Z.set k ⟨⟨p :: zk.nd.pairs,zk.nd.kids⟩,C,zk.kv⟩)=A.set k ⟨p :: zk.nd.pairs,zk.nd.kids⟩:=(by rw [zau,H.out.nds]);have X:(Z.set k ⟨⟨p :: zk.nd.pairs,zk.nd.kids⟩,C,zk.kv⟩).length=Z.length:=(by simp);generalize Z.set k ⟨⟨p :: zk.nd.pairs,zk.nd.kids⟩,C,zk.kv⟩=Z2 at HQ s m M S X;have a:=HQ.out.r;obtain ⟨b1,_,b3,_⟩:=a.look at_ za m
  obtain ⟨e1,_,e3,_⟩:=a.look l zl s;have g:=a.pairs at_ za m;have q:=a.pairs l zl s;rw [a5.out] at b1 g;rw [ao.out] at e1 q;have y0:=q.cell0 zad _ HX.out rfl;have y1:=q.cell zad _ 1 HX.out rfl;have z0:=g.cell0 zad j H.out.gp rfl;have z1:=g.cell zad j 1 H.out.gp rfl;have bP:=g.free (po+j * 2);have bQ:=g.free (po+j * 2+1);have bJ:nb<wc.heap.size:=a.nodes.lt nb rfl;have cm:pb<wc.heap.size:=g.lt pb rfl;have ci:lb<wc.heap.size:=q.lt lb rfl;have b7:=HQ.out.setPair at_ za m a5.out p x H.out.gp;have cI:(0:Int)<=(zl.nd.pairs.length:Int)-1:=(by omega);have cJ:(zl.nd.pairs.length:Int)-1<(zl.nd.pairs.length:Int):=(by omega);have cK:((zl.nd.pairs.length:Int)-1).toNat=zl.nd.pairs.length-1:=(by omega);have aJ:=H_ b7;have ai:=H_ s
  have aE:=H_ m;have af:=H_ M;have aj:=H_ S;have J:=H_ X;clear a g q b7 s m M S X c0 l1;go_upto_region 10 with fail;have D:IntKind.i64.wrap ((j:Int)+1-1)=(j:Int):=(by rw [IntKind.wrap_i64];omega);have E:IntKind.i64.wrap (j:Int)=(j:Int):=(by rw [IntKind.wrap_i64];omega);have bF:(0:Int)<=(j:Int):=(by omega)
  go_region
  clear D E;have B:=aJ.out.fr0 (Fr.refl No _).drew;generalize (((wc.setCell ⟨pb,po+j * 2,none⟩ (.string x.1)).setCell ⟨pb,po+j * 2+1,none⟩ (.int .i64 x.2))).drew=W4 at B ⊢
  have bC:at_<Z2.length:=(by have:=J.out;omega);have n:(Z2.set at_ ⟨⟨za.nd.pairs.set j x,za.nd.kids⟩,za.pv,za.kv⟩)[l]?=some zl:=(by rw [List.getElem?_set_ne (Ne.symm H.out.la)];exact ai.out);have N:(Z2.set at_ ⟨⟨za.nd.pairs.set j x,za.nd.kids⟩,za.pv,za.kv⟩)[k]?=some ⟨⟨p :: zk.nd.pairs,zk.nd.kids⟩,C,zk.kv⟩:=(by rw [List.getElem?_set_ne (Ne.symm H.out.ka)];exact af.out);have T:ndsZ (Z2.set at_ ⟨⟨za.nd.pairs.set j x,za.nd.kids⟩,za.pv,za.kv⟩)=(A.set k ⟨p :: zk.nd.pairs,zk.nd.kids⟩).set at_ ⟨za.nd.pairs.set j x,za.nd.kids⟩:=(by rw [zau,aj.out]);have Y:(Z2.set at_ ⟨⟨za.nd.pairs.set j x,za.nd.kids⟩,za.pv,za.kv⟩).length=Z.length:=(by rw [List.length_set];exact J.out);generalize Z2.set at_ ⟨⟨za.nd.pairs.set j x,za.nd.kids⟩,za.pv,za.kv⟩=Z4 at B n N T Y;have a:=B.r
  obtain ⟨e1,e2,e3,e4⟩:=a.look l zl n;have q:=a.pairs l zl n;rw [ao.out] at e1 q;have cL:(zl.nd.pairs.length:Int)-1<=(d:Int):=(by omega);have cj:nb<W4.heap.size:=a.nodes.lt nb rfl;have W:=SlF.take zad q (zl.nd.pairs.length-1) (by omega);have y:=B.setPairs (w1:=W4) (pv':=.slice (some ⟨lb,lo,none⟩) (zl.nd.pairs.length-1) d) (P':=zl.nd.pairs.take (zl.nd.pairs.length-1)) l zl n (Fr.refl _ W4) W fun b e=>.inl (by rw [ao.out];exact e);have i:=H_ y;have aF:=H_ n;have ag:=H_ N;have ak:=H_ T;have K:=H_ Y;clear a q W y B n N T Y y0 y1 z0 z1 bP bQ b1 b3 e2 e4;go_upto_region 12 with fail;generalize W4.setCell ⟨nb,no+l * 2,none⟩ (.slice (some ⟨lb,lo,none⟩) (zl.nd.pairs.length-1) d)=W5 at i ⊢
  have aZ:l<Z4.length:=(by have:=K.out;omega);have u:(Z4.set l ⟨⟨zl.nd.pairs.take (zl.nd.pairs.length-1),zl.nd.kids⟩,.slice (some ⟨lb,lo,none⟩) (zl.nd.pairs.length-1) d,zl.kv⟩)[l]?=some ⟨⟨zl.nd.pairs.take (zl.nd.pairs.length-1),zl.nd.kids⟩,.slice (some ⟨lb,lo,none⟩) (zl.nd.pairs.length-1) d,zl.kv⟩:=List.getElem?_set_self aZ;have O:(Z4.set l ⟨⟨zl.nd.pairs.take (zl.nd.pairs.length-1),zl.nd.kids⟩,.slice (some ⟨lb,lo,none⟩) (zl.nd.pairs.length-1) d,zl.kv⟩)[k]?=some ⟨⟨p :: zk.nd.pairs,zk.nd.kids⟩,C,zk.kv⟩:=(by rw [List.getElem?_set_ne H.out.lk];exact ag.out)
  have U:ndsZ (Z4.set l ⟨⟨zl.nd.pairs.take (zl.nd.pairs.length-1),zl.nd.kids⟩,.slice (some ⟨lb,lo,none⟩) (zl.nd.pairs.length-1) d,zl.kv⟩)=((A.set k ⟨p :: zk.nd.pairs,zk.nd.kids⟩).set at_ ⟨za.nd.pairs.set j x,za.nd.kids⟩).set l ⟨zl.nd.pairs.take (zl.nd.pairs.length-1),zl.nd.kids⟩:=(by rw [zau,ak.out]);have a0:(Z4.set l ⟨⟨zl.nd.pairs.take (zl.nd.pairs.length-1),zl.nd.kids⟩,.slice (some ⟨lb,lo,none⟩) (zl.nd.pairs.length-1) d,zl.kv⟩).length=Z.length:=(by rw [List.length_set];exact K.out);have ad:=i.out;generalize Z4.set l ⟨⟨zl.nd.pairs.take (zl.nd.pairs.length-1),zl.nd.kids⟩,.slice (some ⟨lb,lo,none⟩) (zl.nd.pairs.length-1) d,zl.kv⟩=Z5 at ad u O U a0;have a:=ad.r;obtain ⟨_,e2,_,e4⟩:=a.look l _ u;have f:=a.kids l _ u;dsimp only at e2 e4 f
  obtain ⟨ca,am,aq,c1,c2,aO⟩:=f.shape;rw [aq] at e2 f;have ck:nb<W5.heap.size:=a.nodes.lt nb rfl;have a6:=H_ ad;have aG:=H_ u;have ah:=H_ O;have al:=H_ U;have bT:=H_ a0;have aC:=H_ aq;clear ad u O U a0 aq i aF ag ak K ai aE af aj J aJ HQ ap aD e1 e3;rcases H.out.lw with ab | bI
  · have aR:=H.out.both.1 ab
    have aY:zl.nd.kids.length=0:=(by rw [ab];rfl);have bL:¬ (0:Int)<(zl.nd.kids.length:Int):=(by omega);have bp:=H_ ab;have bn:=H_ aR;clear ab aR aY a f;go_wp2;go_ret;refine ⟨⟨_,rfl⟩,_,⟨_,_,_,a6.out.r,?_,fun b=>Iff.rfl⟩,a6.out.fr,a6.out.new⟩;rw [al.out,HJ.out,bp.out,bn.out];simp
  have bL:(0:Int)<(zl.nd.kids.length:Int):=by omega
  obtain ⟨cb,co,rfl⟩:=aO (by omega);obtain ⟨c,hc⟩:∃ c,zl.nd.kids[zl.nd.pairs.length]?=some c:=⟨_,List.getElem?_eq_getElem (by omega)⟩;have bG:=f.cell1 zag _ hc rfl;have Q:(zl.nd.kids.length:Int)=(zl.nd.pairs.length:Int)+1:=(by omega);have G:=H_ Q;have cG:(zl.nd.pairs.length:Int)<(zl.nd.kids.length:Int):=(by omega);have cH:(zl.nd.pairs.length:Int)<=(am:Int):=(by omega);have z:=ah.out;obtain ⟨_,f2,_,f4⟩:=a.look k _ z;have P:=a.kids k _ z;dsimp only at f2 f4 P;have aV:¬ zk.kv.ownBlock=some nb:=fun e=>(a.a2 k _ nb z (.inr e)).2.1 rfl
  have aS:zk.nd.kids.length<=1000:=by
   rcases H.out.kw with e | e
   · rw [e];simp
   have:=H.out.k9;omega
  have aH:=H_ P;have HC:=H_ hc;have ct:=H_ f;have ch:cb<W5.heap.size:=f.lt cb rfl;clear a f P z Q bI hc;go_upto_region 13 with fail;have D:IntKind.i64.wrap ((zl.nd.pairs.length:Int)-1+1)=(zl.nd.pairs.length:Int):=(by rw [IntKind.wrap_i64];omega);have E:IntKind.i64.wrap (zl.nd.pairs.length:Int)=(zl.nd.pairs.length:Int):=(by rw [IntKind.wrap_i64];omega);have cS:(0:Int)<=(zl.nd.pairs.length:Int):=(by omega)
  go_region_law (go_simp;go_at_call 155;refine (zgy _ _ zk.nd.kids 0 c (aH.out.drew) (Nat.zero_le _) aS).mono ?_;rintro e w7 ⟨g7,o7,c7,rfl,b6,a8,aQ⟩
                 have y1:=a8.cell f2 aV;have y2:=a8.free f2 f4 aV;have br:=H_ b6;have bm:=H_ aQ;have bk:=H_ a8;clear b6 aQ a8)
  all_goals
   clear D E;have hF:Fr (fun b=>zk.kv.ownBlock=some b) W5 w7:=(Fr.refl _ W5).drew.trans bk.out fun b _ e=>e
   have B:=a6.out.setKids (w1:=w7) (kv':=.slice (some ⟨g7,o7,none⟩) (zk.nd.kids.length+1) c7) (K':=c :: zk.nd.kids) k _ ah.out hF (by have:=br.out;simpa using this) fun b e=>by
    obtain rfl:g7=b:=by simpa [Value.ownBlock] using e
    exact bm.out
   generalize w7.setCell ⟨nb,no+k * 2+1,none⟩ (.slice (some ⟨g7,o7,none⟩) (zk.nd.kids.length+1) c7)=W8 at B ⊢
   have v:(Z5.set k ⟨⟨p :: zk.nd.pairs,c :: zk.nd.kids⟩,C,.slice (some ⟨g7,o7,none⟩) (zk.nd.kids.length+1) c7⟩)[l]?=some ⟨⟨zl.nd.pairs.take (zl.nd.pairs.length-1),zl.nd.kids⟩,.slice (some ⟨lb,lo,none⟩) (zl.nd.pairs.length-1) d,zl.kv⟩:=(by rw [List.getElem?_set_ne (Ne.symm H.out.lk)];exact aG.out);have V:ndsZ (Z5.set k ⟨⟨p :: zk.nd.pairs,c :: zk.nd.kids⟩,C,.slice (some ⟨g7,o7,none⟩) (zk.nd.kids.length+1) c7⟩)=((((A.set k ⟨p :: zk.nd.pairs,zk.nd.kids⟩).set at_ ⟨za.nd.pairs.set j x,za.nd.kids⟩).set l ⟨zl.nd.pairs.take (zl.nd.pairs.length-1),zl.nd.kids⟩).set k ⟨p :: zk.nd.pairs,c :: zk.nd.kids⟩):=(by rw [zau,al.out]);generalize Z5.set k ⟨⟨p :: zk.nd.pairs,c :: zk.nd.kids⟩,C,.slice (some ⟨g7,o7,none⟩) (zk.nd.kids.length+1) c7⟩=Z8 at B v V;have a:=B.r;obtain ⟨_,aM,_,bz⟩:=a.look l _ v
   have f:=a.kids l _ v;dsimp only at aM bz f;rw [aC.out] at aM f;have W:=SlF.take zag f zl.nd.pairs.length (by have:=G.out;omega);have y:=B.setKids (w1:=W8) (kv':=.slice (some ⟨cb,co,none⟩) zl.nd.pairs.length am) (K':=zl.nd.kids.take zl.nd.pairs.length) l _ v (Fr.refl _ W8) W fun b e=>.inl (by dsimp only;rw [aC.out];exact e);have cl:nb<W8.heap.size:=a.nodes.lt nb rfl;have i:=H_ y;have aI:=H_ V;clear y V B v a f W y1 y2 e2 e4 f2 f4 bG;go_wp2;go_ret;refine ⟨⟨_,rfl⟩,_,⟨_,_,_,i.out.r,?_,fun b=>Iff.rfl⟩,i.out.fr,i.out.new⟩
   have bE:zl.nd.kids.drop zl.nd.pairs.length = [c]:=by
    have h1:=G.out;rw [List.drop_eq_getElem_cons (by omega),(List.getElem?_eq_some_iff.1 HC.out).2,List.drop_eq_nil_of_le (by omega)]
   rw [zau,aI.out,HJ.out,bE];simp only [List.singleton_append];rw [List.set_comm _ _ H.out.lk,List.set_set,List.set_comm _ _ H.out.ka.symm,List.set_set]
structure zkv (w:World) (t:Nat) (A:Arr) (fl:List Nat) (root:Nat) (many:Int) (F:Nat->Prop) (at_ i k nb no cap:Nat) (fv:Value) (Z:List Nz) (za zk:Nz):Prop where
 at0:AtZ w w t nb no cap fv Z fl root many F
 nds:ndsZ Z=A
 ga:Z[at_]?=some za
 gk:Z[k]?=some zk
 ea:za.nd=ndA A at_
 kk:za.nd.kids[i]?=some k
 k4:zk.nd.pairs.length<=4
 a9:za.nd.pairs.length<=9
 len:za.nd.kids.length=za.nd.pairs.length+1
 left:i=0\/∃ m ll zll,i=m+1/\za.nd.kids[m]?=some ll/\Z[ll]?=some zll/\zll.nd.pairs.length<=4
 few:Z.length<=109951162
set_option maxHeartbeats 8000000 in
theorem znr (w:World) (t:Nat) (A:Arr) (fl:List Nat) (root:Nat) (many:Int) (F:Nat->Prop) (at_ i k nb no cap:Nat) (fv:Value) (Z:List Nz) (za zk:Nz) (h:zkv w t A fl root many F at_ i k nb no cap fv Z za zk)
 (m:Nat) (hm:i=m+1) (hlast:i+1=za.nd.kids.length) (hs:zbk A fl at_) :
 Calls Tryz.prog 136 #[.pointer (some ⟨t,0,none⟩),.int .i64 at_,.int .i64 i] w (zfu w t F (joinA A at_ m) (fl++[kidA A at_ (m+1)]) root many):=by
 have n:=h.at0.r;have aw:=h.few;have a7:at_<Z.length:=(List.getElem?_eq_some_iff.1 h.ga).1;have aB:k<Z.length:=(List.getElem?_eq_some_iff.1 h.gk).1;have D:=n.obj.cell 0 rfl;obtain ⟨C,y,a3,a4⟩:=n.look at_ za h.ga;obtain ⟨z,k2,k3,k4⟩:=n.look k zk h.gk;obtain ⟨pa,ak,J,aF,aG,I⟩:=(n.pairs at_ za h.ga).shape;obtain ⟨ka,ai,v,aH,aI,P⟩:=(n.kids at_ za h.ga).shape;obtain ⟨aO,W,f,ad,ae,o⟩:=(n.pairs k zk h.gk).shape;have G:=h.len;have az:=(List.getElem?_eq_some_iff.1 h.kk).1;obtain ⟨kb,ko,rfl⟩:=P (by omega);have l:=n.kids at_ za h.ga;rw [v] at y l;rw [f] at z;have kl:=l.cell1 zag i h.kk rfl;have a8:(at_:Int)<(Z.length:Int):=by omega
 have aC:(k:Int)<(Z.length:Int):=by omega
 have aA:(i:Int)<(za.nd.kids.length:Int):=by omega
 have aa:(i:Int)<=9:=by have:=h.a9;omega
 have ab:¬ (4:Int)<(zk.nd.pairs.length:Int):=by have:=h.k4;omega
 have Q:za.nd.kids.length<=10:=by have:=h.a9;omega
 have H:=H_ h;have M:=H_ l;have am:=H_ v;have ao:=H_ J;have a6:=H_ f;have an:=H_ I;have a5:=H_ o;have ax:¬ (i:Int)+1<(za.nd.kids.length:Int):=by omega
 have s:(i:Int)-1=(m:Int):=by omega
 have B:=H_ s;have R:m<(ndA A at_).pairs.length:=by rw [<-h.ea];omega
 have N:A.length<=109951162:=by rw [<-h.nds,zas];exact h.few
 have ay:(1:Int)<=(i:Int):=by omega
 clear hm s hlast;clear h v J f n l G I o a3 a4 k2 k3 k4;go_enter Tryz.func136,Tryz.ntmps136;go_upto_region 2 with fail
 go_quiet (fail)
 have a:=Fr.drewN No w nq;generalize w.drewN nq=K at a ⊢
 replace D:=a.cell0 D
 replace C:=a.cell0 C
 replace y:=a.cell0 y
 replace z:=a.cell0 z
 have u:=H_ a;clear a kl;go_upto_if 38 with fail
 go_cut [57] (fun _ wx=>Hid (Fr No K wx))
 case first =>
  rcases H.out.left with rfl | ⟨m,Y,x,rfl,hm,j,h4⟩
  · first
     | (exfalso;omega)
     | (go_wp2_with fail
        go_meet
        case rel=>exact H_ (Fr.refl No K))
  have kl:=(M.out.fr0 u.out).cell1 zag m hm rfl
  obtain ⟨X,_,_,_⟩:=(H.out.at0.r.fr0 u.out).look Y x j;obtain ⟨aP,a0,q,_,_,_⟩:=(H.out.at0.r.pairs Y x j).shape;rw [q] at X;have aE:(m:Int)<(za.nd.kids.length:Int):=(by omega);have ag:(Y:Int)<(Z.length:Int):=(by have:=(List.getElem?_eq_some_iff.1 j).1;omega);have af:¬ (4:Int)<(x.nd.pairs.length:Int):=(by omega);have aD:(0:Int)<(m:Int)+1:=(by omega);have T:IntKind.i64.wrap ((m:Int)+1-1)=(m:Int):=(by rw [IntKind.wrap_i64];omega);have U:IntKind.i64.wrap (m:Int)=(m:Int):=(by rw [IntKind.wrap_i64];omega);have aK:(0:Int)<=(m:Int):=(by omega);clear hm j q h4;go_upto_region 6 with fail
  go_quiet (fail)
  clear T U;have g:=Fr.drewN No K nq;generalize K.drewN nq=W2 at g ⊢
  replace X:=g.cell0 X
  have L:=H_ g;clear g D C y z;go_wp2_with fail;go_meet
  case rel=>exact L
 case rest =>
  have c:=hcut.out;have E:=(H.out.at0.fr0 u.out).fr0 c
  replace D:=c.cell0 D
  replace C:=c.cell0 C
  replace y:=c.cell0 y
  replace z:=c.cell0 z
  have d:=H_ E;clear c E hcut;have hz:TreeZ wc t A fl root many (treeF t (.slice (some ⟨nb,no,none⟩) Z.length cap) fv Z):=⟨_,_,_,d.out.r,H.out.nds,fun b=>Iff.rfl⟩;have HZ:=H_ hz;have HS:=H_ hs;clear hz hs;go_wp2_with (go_at_call 138;rw [B.out];refine (zgu _ t A fl root many _ HZ.out at_ m HS.out R N).mono ?_;rintro e w4 ⟨rfl,F4,V,O,S⟩);go_ret;have aJ:=d.out.fr.size;refine ⟨⟨_,rfl⟩,F4,V,d.out.fr.trans O fun b hb e=>?_,fun b hb=>?_⟩
  · rcases d.out.new b e with e | e
    · exact e
    omega
  rcases S b hb with e | e
  · exact d.out.new b e
  exact .inr (by omega)
set_option maxHeartbeats 8000000 in
theorem zns (w:World) (t:Nat) (A:Arr) (fl:List Nat) (root:Nat) (many:Int) (F:Nat->Prop) (at_ i k nb no cap:Nat) (fv:Value) (Z:List Nz) (za zk:Nz) (h:zkv w t A fl root many F at_ i k nb no cap fv Z za zk)
 (r:Nat) (zr:Nz) (hr:za.nd.kids[i+1]?=some r) (hgr:Z[r]?=some zr) (hr4:zr.nd.pairs.length<=4) (hs:zbk A fl at_) :
 Calls Tryz.prog 136 #[.pointer (some ⟨t,0,none⟩),.int .i64 at_,.int .i64 i] w (zfu w t F (joinA A at_ i) (fl++[kidA A at_ (i+1)]) root many):=by
 have o:=h.at0.r;have aL:=h.few;have ae:at_<Z.length:=(List.getElem?_eq_some_iff.1 h.ga).1;have aP:k<Z.length:=(List.getElem?_eq_some_iff.1 h.gk).1;have E:=o.obj.cell 0 rfl;obtain ⟨D,x,a3,a4⟩:=o.look at_ za h.ga;obtain ⟨B,k2,k3,k4⟩:=o.look k zk h.gk;obtain ⟨pa,az,M,aT,aU,L⟩:=(o.pairs at_ za h.ga).shape;obtain ⟨ka,ax,y,aV,aW,V⟩:=(o.kids at_ za h.ga).shape;obtain ⟨b5,a5,n,al,am,s⟩:=(o.pairs k zk h.gk).shape;have K:=h.len;have aN:=(List.getElem?_eq_some_iff.1 h.kk).1;obtain ⟨kb,ko,rfl⟩:=V (by omega);have l:=o.kids at_ za h.ga;rw [y] at x l;rw [n] at B;have kl:=l.cell1 zag i h.kk rfl;have af:(at_:Int)<(Z.length:Int):=by omega
 have aQ:(k:Int)<(Z.length:Int):=by omega
 have aO:(i:Int)<(za.nd.kids.length:Int):=by omega
 have ag:(i:Int)<=9:=by have:=h.a9;omega
 have ak:¬ (4:Int)<(zk.nd.pairs.length:Int):=by have:=h.k4;omega
 have W:za.nd.kids.length<=10:=by have:=h.a9;omega
 have H:=H_ h;have Q:=H_ l;have aB:=H_ y;have aD:=H_ M;have ad:=H_ n;have aC:=H_ L;have ab:=H_ s;have ah:=(List.getElem?_eq_some_iff.1 hr).1;have aM:(i:Int)+1<(za.nd.kids.length:Int):=by omega
 have U:i<(ndA A at_).pairs.length:=by rw [<-h.ea];omega
 have S:A.length<=109951162:=by rw [<-h.nds,zas];exact h.few
 have P:=l.cell1 zag (i+1) hr rfl;obtain ⟨G,r2,r3,r4⟩:=o.look r zr hgr;obtain ⟨ba,aa,v,ar,au,N⟩:=(o.pairs r zr hgr).shape;rw [v] at G;have aX:(r:Int)<(Z.length:Int):=by have:=(List.getElem?_eq_some_iff.1 hgr).1;omega
 have aq:¬ (4:Int)<(zr.nd.pairs.length:Int):=by omega
 have ai:(0:Int)<=(i:Int)+1:=by omega
 have aj:((i:Int)+1).toNat=i+1:=by omega
 have KR:=H_ P;have R:=H_ G;clear hr hgr G r2 r3 r4 P v N;clear h y M n o l K L s a3 a4 k2 k3 k4;go_enter Tryz.func136,Tryz.ntmps136;go_upto_region 2 with fail
 go_quiet (fail)
 have c:=Fr.drewN No w nq;generalize w.drewN nq=O at c ⊢
 replace E:=c.cell0 E
 replace D:=c.cell0 D
 replace x:=c.cell0 x
 replace B:=c.cell0 B
 have f:=H_ c;clear c kl;go_upto_if 38 with fail
 go_cut [57] (fun _ wx=>Hid (Fr No O wx))
 case first =>
  rcases H.out.left with rfl | ⟨m,ll,C,rfl,hm,q,h4⟩
  · first
     | (exfalso;omega)
     | (go_wp2_with fail
        go_meet
        case rel=>exact H_ (Fr.refl No O))
  have kl:=(Q.out.fr0 f.out).cell1 zag m hm rfl
  obtain ⟨l1,_,_,_⟩:=(H.out.at0.r.fr0 f.out).look ll C q;obtain ⟨b6,a8,u,_,_,_⟩:=(H.out.at0.r.pairs ll C q).shape;rw [u] at l1;have aS:(m:Int)<(za.nd.kids.length:Int):=(by omega);have ao:(ll:Int)<(Z.length:Int):=(by have:=(List.getElem?_eq_some_iff.1 q).1;omega);have an:¬ (4:Int)<(C.nd.pairs.length:Int):=(by omega);have aR:(0:Int)<(m:Int)+1:=(by omega);have z:IntKind.i64.wrap ((m:Int)+1-1)=(m:Int):=(by rw [IntKind.wrap_i64];omega);have Y:IntKind.i64.wrap (m:Int)=(m:Int):=(by rw [IntKind.wrap_i64];omega);have aZ:(0:Int)<=(m:Int):=(by omega);clear hm q u h4;go_upto_region 6 with fail
  go_quiet (fail)
  clear z Y;have a:=Fr.drewN No O nq;generalize O.drewN nq=W2 at a ⊢
  replace l1:=a.cell0 l1
  have g:=H_ a;clear a E D x B;go_wp2_with fail;go_meet
  case rel=>exact g
 case rest =>
  have d:=hcut.out;have J:=(H.out.at0.fr0 f.out).fr0 d
  replace E:=d.cell0 E
  replace D:=d.cell0 D
  replace x:=d.cell0 x
  replace B:=d.cell0 B
  have j:=H_ J;have I:=H_ d;clear d J hcut;have P:=((KR.out |> f.out.cell0) |> I.out.cell0);have G:=((R.out |> f.out.cell0) |> I.out.cell0);have hz:TreeZ wc t A fl root many (treeF t (.slice (some ⟨nb,no,none⟩) Z.length cap) fv Z):=⟨_,_,_,j.out.r,H.out.nds,fun b=>Iff.rfl⟩;have HZ:=H_ hz;have HS:=H_ hs;clear hz hs;go_upto_region 17 with fail;have z:IntKind.i64.wrap ((i:Int)+1)=(i:Int)+1:=(by rw [IntKind.wrap_i64];omega)
  go_quiet (fail)
  clear z;have a:=Fr.drewN No wc nq;generalize wc.drewN nq=W2 at a ⊢
  replace G:=a.cell0 G
  have g:=H_ a;clear a E D x B P;go_wp2_with (go_at_call 138;refine (zgu _ t A fl root many _ (HZ.out.fr0 g.out) at_ i HS.out U S).mono ?_;rintro e w4 ⟨rfl,F4,a0,T,X⟩);go_ret;have aY:=j.out.fr.size;have av:=g.out.size;refine ⟨⟨_,rfl⟩,F4,a0,(j.out.fr.trans0 g.out).trans T fun b hb e=>?_,fun b hb=>?_⟩
  · rcases j.out.new b e with e | e
    · exact e
    omega
  rcases X b hb with e | e
  · exact j.out.new b e
  exact .inr (by omega)
set_option maxHeartbeats 8000000 in
theorem znt (w:World) (t:Nat) (A:Arr) (fl:List Nat) (root:Nat) (many:Int) (F:Nat->Prop) (at_ i k nb no cap:Nat) (fv:Value) (Z:List Nz) (za zk:Nz) (h:zkv w t A fl root many F at_ i k nb no cap fv Z za zk)
 (r:Nat) (zr:Nz) (p:ByteArray×Int) (hr:za.nd.kids[i+1]?=some r) (hgr:Z[r]?=some zr) (hr5:4<zr.nd.pairs.length) (hr9:zr.nd.pairs.length<=9) (hp:za.nd.pairs[i]?=some p) (hkat:k≠at_) (hra:r≠at_) (hkr:k≠r) (hkw:zk.nd.kids = []\/zk.nd.kids.length=zk.nd.pairs.length+1) (hrw:zr.nd.kids = []\/zr.nd.kids.length=zr.nd.pairs.length+1) (hboth:zk.nd.kids = []↔zr.nd.kids = []) :
 Calls Tryz.prog 136 #[.pointer (some ⟨t,0,none⟩),.int .i64 at_,.int .i64 i] w (zfu w t F (lendR A at_ i) fl root many):=by
 have a:=h.at0.r;have dE:=h.few;have cQ:at_<Z.length:=(List.getElem?_eq_some_iff.1 h.ga).1;have cm:k<Z.length:=(List.getElem?_eq_some_iff.1 h.gk).1;have c0:=a.obj.cell 0 rfl;obtain ⟨a1,a2,a3,a4⟩:=a.look at_ za h.ga;obtain ⟨k1,k2,k3,k4⟩:=a.look k zk h.gk;obtain ⟨pa,dm,aD,dN,dO,aC⟩:=(a.pairs at_ za h.ga).shape;obtain ⟨ka,dk,aB,dP,dQ,cl⟩:=(a.kids at_ za h.ga).shape;obtain ⟨dX,cw,R,d5,d6,am⟩:=(a.pairs k zk h.gk).shape;have bt:=h.len;have dH:=(List.getElem?_eq_some_iff.1 h.kk).1;obtain ⟨kb,ko,rfl⟩:=cl (by omega);have P:=a.kids at_ za h.ga;rw [aB] at a2 P;rw [R] at k1;have kl:=P.cell1 zag i h.kk rfl;have cR:(at_:Int)<(Z.length:Int):=by omega
 have dJ:(k:Int)<(Z.length:Int):=by omega
 have dI:(i:Int)<(za.nd.kids.length:Int):=by omega
 have cU:(i:Int)<=9:=by have:=h.a9;omega
 have d2:¬ (4:Int)<(zk.nd.pairs.length:Int):=by have:=h.k4;omega
 have cn:za.nd.kids.length<=10:=by have:=h.a9;omega
 have H:=H_ h;have bY:=H_ P;have dv:=H_ aB;have dx:=H_ aD;have cH:=H_ R;have dw:=H_ aC;have cG:=H_ am;have cW:=(List.getElem?_eq_some_iff.1 hr).1;have dF:(i:Int)+1<(za.nd.kids.length:Int):=by omega
 obtain ⟨pb,po,rfl⟩:=aC (by omega);have kr:=P.cell1 zag (i+1) hr rfl;obtain ⟨r1,r2,r3,r4⟩:=a.look r zr hgr;obtain ⟨e7,cA,X,dh,di,aq⟩:=(a.pairs r zr hgr).shape;obtain ⟨rb,ro,rfl⟩:=aq (by omega);rw [X] at r1;have dS:(r:Int)<(Z.length:Int):=by have:=(List.getElem?_eq_some_iff.1 hgr).1;omega
 have dR:r<Z.length:=(List.getElem?_eq_some_iff.1 hgr).1;have dg:(4:Int)<(zr.nd.pairs.length:Int):=by omega
 have cX:(0:Int)<=(i:Int)+1:=by omega
 have cY:((i:Int)+1).toNat=i+1:=by omega
 have cV:(i:Int)<(za.nd.pairs.length:Int):=by omega
 have dG:(0:Int)<=(i:Int):=by omega
 have dj:(0:Int)<(zr.nd.pairs.length:Int):=by omega
 have bC:0<zr.nd.pairs.length:=by omega
 obtain ⟨x,hx⟩:∃ x,zr.nd.pairs[0]?=some x:=⟨_,List.getElem?_eq_getElem (by omega)⟩
 have hj:lendR A at_ i=((A.set k ⟨zk.nd.pairs++[p],zk.nd.kids++zr.nd.kids.take 1⟩).set at_ ⟨za.nd.pairs.set i x,za.nd.kids⟩).set r ⟨zr.nd.pairs.drop 1,zr.nd.kids.drop 1⟩:=by
  have e1:kidA A at_ i=k:=(by unfold kidA;rw [<-h.ea];simp [List.getD,h.kk]);have e2:kidA A at_ (i+1)=r:=(by unfold kidA;rw [<-h.ea];simp [List.getD,hr]);have e3:ndA A k=zk.nd:=(by rw [<-h.nds];exact znd h.gk);have e4:ndA A r=zr.nd:=(by rw [<-h.nds];exact znd hgr);unfold lendR;rw [e1,e2,e3,e4,<-h.ea];simp [List.getD,hp,hx]
 have KR:=H_ kr;have ch:=H_ r1;have HP:=H_ hp;have HX:=H_ hx;have bW:=H_ hgr;have b8:=H_ X;have HJ:=H_ hj;have B:=H_ aD;clear hr hgr r1 r2 r3 r4 kr X aq hp hx hj;clear h aB aD R a P bt aC am a3 a4 k2 k3 k4;go_enter Tryz.func136,Tryz.ntmps136;go_upto_region 2 with fail
 go_quiet (fail)
 have y:=Fr.drewN No w nq;generalize w.drewN nq=W1 at y ⊢
 replace c0:=y.cell0 c0
 replace a1:=y.cell0 a1
 replace a2:=y.cell0 a2
 replace k1:=y.cell0 k1
 have G:=H_ y;clear y kl;go_upto_if 38 with fail
 go_cut [57] (fun _ wx=>Hid (Fr No W1 wx))
 case first =>
  rcases H.out.left with rfl | ⟨m,ll,aM,rfl,hm,af,h4⟩
  · first
     | (exfalso;omega)
     | (go_wp2_with fail
        go_meet
        case rel=>exact H_ (Fr.refl No W1))
  have kl:=(bY.out.fr0 G.out).cell1 zag m hm rfl
  obtain ⟨l1,_,_,_⟩:=(H.out.at0.r.fr0 G.out).look ll aM af;obtain ⟨dY,cz,ao,_,_,_⟩:=(H.out.at0.r.pairs ll aM af).shape;rw [ao] at l1;have dM:(m:Int)<(za.nd.kids.length:Int):=(by omega);have da:(ll:Int)<(Z.length:Int):=(by have:=(List.getElem?_eq_some_iff.1 af).1;omega);have d7:¬ (4:Int)<(aM.nd.pairs.length:Int):=(by omega);have dL:(0:Int)<(m:Int)+1:=(by omega);have aG:IntKind.i64.wrap ((m:Int)+1-1)=(m:Int):=(by rw [IntKind.wrap_i64];omega);have cs:IntKind.i64.wrap (m:Int)=(m:Int):=(by rw [IntKind.wrap_i64];omega);have dT:(0:Int)<=(m:Int):=(by omega);clear hm af ao h4;go_upto_region 6 with fail
  go_quiet (fail)
  clear aG cs;have s:=Fr.drewN No W1 nq;generalize W1.drewN nq=W2 at s ⊢
  replace l1:=s.cell0 l1
  have bN:=H_ s;clear s c0 a1 a2 k1;go_wp2_with fail;go_meet
  case rel=>exact bN
 case rest =>
  have z:=hcut.out;have bh:=(H.out.at0.fr0 G.out).fr0 z
  replace c0:=z.cell0 c0
  replace a1:=z.cell0 a1
  replace a2:=z.cell0 a2
  replace k1:=z.cell0 k1
  have cg:=H_ bh;have aR:=H_ z;clear z bh hcut;have kr:=((KR.out |> G.out.cell0) |> aR.out.cell0);have r1:=((ch.out |> G.out.cell0) |> aR.out.cell0)
  have av:=H_ hkat;have c6:=H_ hra;have I:=H_ hkr;have c1:=H_ hkw;have c7:=H_ hrw;have bL:=H_ hboth;clear hkat hra hkr hkw hrw hboth;go_upto_region 17 with fail;have aG:IntKind.i64.wrap ((i:Int)+1)=(i:Int)+1:=(by rw [IntKind.wrap_i64];omega)
  go_quiet (fail)
  clear aG;have s:=Fr.drewN No wc nq;generalize wc.drewN nq=W2 at s ⊢
  replace r1:=s.cell0 r1
  have E:=cg.out.fr0 s;have b9:=H_ E;clear s c0 a1 a2 k1 kr E;go_upto_region 19 with fail
  go_cut [163] (fun _ wx=>∃ D,Hid (AtZ w wx t nb no cap fv (Z.set k ⟨⟨zk.nd.pairs++[p],zk.nd.kids⟩,D,zk.kv⟩) fl root many F))
  case first =>
   obtain ⟨i0,O,aH,aI,E⟩:=info_parts info127;have a:=b9.out.r;obtain ⟨b1,_,b3,_⟩:=a.look at_ za H.out.ga;obtain ⟨d1,_,d3,_⟩:=a.look k zk H.out.gk;rw [B.out] at b1;have d:=a.pairs at_ za H.out.ga;rw [B.out] at d;have x0:=d.cell0 zad i HP.out rfl;have x1:=d.cell zad i 1 HP.out rfl;have bs:=a.pairs k zk H.out.gk;have bv:¬ zk.pv.ownBlock=some nb:=fun e=>(a.a2 k _ nb H.out.gk (.inl e)).2.1 rfl;have cp:nb<W2.heap.size:=a.nodes.lt nb rfl;have dK:pb<W2.heap.size:=d.lt pb rfl;have d4:zk.nd.pairs.length<=4:=H.out.k4;have bZ:=H_ bs;clear a d bs r1
   go_region_law (refine zbh rfl _ _ 122 rfl 125 i0 _ 2 24 Tryz.underlying122 O aH aI E rfl (by decide) zad zgr zk.pv (.slice (some ⟨W2.heap.size,0,none⟩) 1 1) zk.nd.pairs [p] rfl rfl (bZ.out.fr0 ((Fr.refl No W2).drew.alloc _)) (zow W2.drew p _ rfl) (by unfold maxLen;simp;omega) (by simp;omega) ?_
                  intro v1 w4 aE bj bl;obtain ⟨va,g,a0,_,_,_⟩:=aE.shape;generalize (zk.nd.pairs++[p]).length=n2 at a0;subst a0;have aa:Fr (fun b=>zk.pv.ownBlock=some b) W2 w4:=((Fr.refl _ W2).drew.alloc _).trans bj fun _ _ e=>e;have u1:=aa.cell d1 bv;have u2:=aa.free d1 d3 bv;have c8:=H_ aE;have bO:=H_ aa;have bS:=H_ bl;clear aE bj bl aa)
   all_goals
    have o:=b9.out.setPairs (w1:=w4) (pv':=.slice va n2 g) (P':=zk.nd.pairs++[p]) k zk H.out.gk bO.out c8.out fun b e=>by
     rcases bS.out b e with e | e
     · exact .inl e
     right;simp at e;omega
    have HQ:=H_ o;clear o;go_wp2_with fail;go_meet
    case rel=>exact ⟨_,HQ⟩
  case rest =>
   obtain ⟨D,HQ⟩:=hcut;have u:(Z.set k ⟨⟨zk.nd.pairs++[p],zk.nd.kids⟩,D,zk.kv⟩)[r]?=some zr:=(by rw [List.getElem?_set_ne I.out];exact bW.out);have j:(Z.set k ⟨⟨zk.nd.pairs++[p],zk.nd.kids⟩,D,zk.kv⟩)[at_]?=some za:=(by rw [List.getElem?_set_ne av.out];exact H.out.ga);have L:(Z.set k ⟨⟨zk.nd.pairs++[p],zk.nd.kids⟩,D,zk.kv⟩)[k]?=some ⟨⟨zk.nd.pairs++[p],zk.nd.kids⟩,D,zk.kv⟩:=List.getElem?_set_self cm;have T:ndsZ (Z.set k ⟨⟨zk.nd.pairs++[p],zk.nd.kids⟩,D,zk.kv⟩)=A.set k ⟨zk.nd.pairs++[p],zk.nd.kids⟩:=(by rw [zau,H.out.nds]);have a5:(Z.set k ⟨⟨zk.nd.pairs++[p],zk.nd.kids⟩,D,zk.kv⟩).length=Z.length:=(by simp);generalize Z.set k ⟨⟨zk.nd.pairs++[p],zk.nd.kids⟩,D,zk.kv⟩=Z2 at HQ u j L T a5;have a:=HQ.out.r;obtain ⟨b1,_,b3,_⟩:=a.look at_ za j
   obtain ⟨e1,_,e3,_⟩:=a.look r zr u;have d:=a.pairs at_ za j;have S:=a.pairs r zr u;rw [B.out] at b1 d;rw [b8.out] at e1 S;have y0:=S.cell0 zad _ HX.out rfl;have y1:=S.cell zad _ 1 HX.out rfl;have z0:=d.cell0 zad i HP.out rfl;have z1:=d.cell zad i 1 HP.out rfl;have cC:=d.free (po+i * 2);have cD:=d.free (po+i * 2+1);simp only [Nat.zero_mul,Nat.add_zero] at y0 y1;have cp:nb<wc.heap.size:=a.nodes.lt nb rfl;have de:pb<wc.heap.size:=d.lt pb rfl;have d9:rb<wc.heap.size:=S.lt rb rfl;have bF:=HQ.out.setPair at_ za j B.out p x HP.out;have cf:=H_ bF;have aU:=H_ u;have cE:=H_ j;have aS:=H_ L;have aZ:=H_ T;have ba:=H_ a5;clear a d S bF u j L T a5 r1;go_upto_region 20 with fail
   go_region
   have o:=cf.out.fr0 (Fr.refl No _).drew;generalize (((wc.setCell ⟨pb,po+i * 2,none⟩ (.string x.1)).setCell ⟨pb,po+i * 2+1,none⟩ (.int .i64 x.2))).drew=W4 at o ⊢
   have l:(Z2.set at_ ⟨⟨za.nd.pairs.set i x,za.nd.kids⟩,za.pv,za.kv⟩)[r]?=some zr:=(by rw [List.getElem?_set_ne (Ne.symm c6.out)];exact aU.out);have M:(Z2.set at_ ⟨⟨za.nd.pairs.set i x,za.nd.kids⟩,za.pv,za.kv⟩)[k]?=some ⟨⟨zk.nd.pairs++[p],zk.nd.kids⟩,D,zk.kv⟩:=(by rw [List.getElem?_set_ne (Ne.symm av.out)];exact aS.out);have U:ndsZ (Z2.set at_ ⟨⟨za.nd.pairs.set i x,za.nd.kids⟩,za.pv,za.kv⟩)=(A.set k ⟨zk.nd.pairs++[p],zk.nd.kids⟩).set at_ ⟨za.nd.pairs.set i x,za.nd.kids⟩:=(by rw [zau,aZ.out]);have a6:(Z2.set at_ ⟨⟨za.nd.pairs.set i x,za.nd.kids⟩,za.pv,za.kv⟩).length=Z.length:=(by rw [List.length_set];exact ba.out);generalize Z2.set at_ ⟨⟨za.nd.pairs.set i x,za.nd.kids⟩,za.pv,za.kv⟩=Z4 at o l M U a6;have a:=o.r;obtain ⟨e1,e2,e3,e4⟩:=a.look r zr l
   have bB:¬ zr.pv.ownBlock=some nb:=fun e=>(a.a2 r _ nb l (.inl e)).2.1 rfl;have K:=zeh W4 zr.pv zr.nd.pairs 0 (a.pairs r zr l) bC (by omega);have db:nb<W4.heap.size:=a.nodes.lt nb rfl;have c2:=H_ o;have aV:=H_ l;have aT:=H_ M;have b0:=H_ U;have bb:=H_ a6;clear a o l M U a6 y0 y1 z0 z1 cC cD b1 b3 e2 e4
   go_upto_region 22 with (first
    | (go_at_call 135;refine K.mono ?_;clear K;rintro e w5 ⟨g5,o5,c5,rfl,bD,ad,bm⟩
       have y1:=ad.cell e1 bB;have y2:=ad.free e1 e3 bB;have cc:=H_ bD;have bP:=H_ ad;have bT:=H_ bm;clear bD ad bm))
   have o:=c2.out.setPairs (w1:=w5) (pv':=.slice (some ⟨g5,o5,none⟩) (zr.nd.pairs.length-1) c5) (P':=zr.nd.pairs.drop 1) r zr aV.out bP.out (by have:=cc.out;simpa using this) fun b e=>by
    obtain rfl:g5=b:=by simpa [Value.ownBlock] using e
    exact .inl bT.out
   generalize w5.setCell ⟨nb,no+r * 2,none⟩ (.slice (some ⟨g5,o5,none⟩) (zr.nd.pairs.length-1) c5)=W6 at o ⊢
   have bz:r<Z4.length:=(by have:=bb.out;omega);have n:(Z4.set r ⟨⟨zr.nd.pairs.drop 1,zr.nd.kids⟩,.slice (some ⟨g5,o5,none⟩) (zr.nd.pairs.length-1) c5,zr.kv⟩)[r]?=some ⟨⟨zr.nd.pairs.drop 1,zr.nd.kids⟩,.slice (some ⟨g5,o5,none⟩) (zr.nd.pairs.length-1) c5,zr.kv⟩:=List.getElem?_set_self bz;have N:(Z4.set r ⟨⟨zr.nd.pairs.drop 1,zr.nd.kids⟩,.slice (some ⟨g5,o5,none⟩) (zr.nd.pairs.length-1) c5,zr.kv⟩)[k]?=some ⟨⟨zk.nd.pairs++[p],zk.nd.kids⟩,D,zk.kv⟩:=(by rw [List.getElem?_set_ne (Ne.symm I.out)];exact aT.out);have V:ndsZ (Z4.set r ⟨⟨zr.nd.pairs.drop 1,zr.nd.kids⟩,.slice (some ⟨g5,o5,none⟩) (zr.nd.pairs.length-1) c5,zr.kv⟩)=((A.set k ⟨zk.nd.pairs++[p],zk.nd.kids⟩).set at_ ⟨za.nd.pairs.set i x,za.nd.kids⟩).set r ⟨zr.nd.pairs.drop 1,zr.nd.kids⟩:=(by rw [zau,b0.out])
   generalize Z4.set r ⟨⟨zr.nd.pairs.drop 1,zr.nd.kids⟩,.slice (some ⟨g5,o5,none⟩) (zr.nd.pairs.length-1) c5,zr.kv⟩=Z6 at o n N V;have a:=o.r;obtain ⟨_,e2,_,e4⟩:=a.look r _ n;have f:=a.kids r _ n;dsimp only at e2 e4 f;obtain ⟨ca,cN,aA,cS,cT,bi⟩:=f.shape;have an:¬ zr.kv.ownBlock=some nb:=fun e=>(a.a2 r _ nb n (.inr e)).2.1 rfl;rw [aA] at e2;have dc:nb<W6.heap.size:=a.nodes.lt nb rfl;have a7:=H_ o;have aW:=H_ n;have ah:=H_ N;have ai:=H_ V;have bM:=H_ aA;clear o n N V aA e1 e3 y1 y2;rcases c7.out with ag | cq
   · have bp:=bL.out.2 ag
     have bu:zr.nd.kids.length=0:=(by rw [ag];rfl);have cu:¬ (0:Int)<(zr.nd.kids.length:Int):=(by omega);have c4:=H_ ag;have bX:=H_ bp;clear ag bp bu a f;go_wp2;go_ret;refine ⟨⟨_,rfl⟩,_,⟨_,_,_,a7.out.r,?_,fun b=>Iff.rfl⟩,a7.out.fr,a7.out.new⟩;rw [ai.out,HJ.out,c4.out,bX.out];simp
   have cu:(0:Int)<(zr.nd.kids.length:Int):=by omega
   obtain ⟨cb,co,rfl⟩:=bi (by omega);obtain ⟨c,hc⟩:∃ c,zr.nd.kids[0]?=some c:=⟨_,List.getElem?_eq_getElem (by omega)⟩;rw [bM.out] at f;have bq:=f.cell1 zag _ hc rfl;simp only [Nat.add_zero] at bq;have C:=ah.out;obtain ⟨_,f2,_,f4⟩:=a.look k _ C;have Q:=a.kids k _ C;dsimp only at f2 f4 Q;have br:¬ zk.kv.ownBlock=some nb:=fun e=>(a.a2 k _ nb C (.inr e)).2.1 rfl
   have d0:zk.nd.kids.length<=1000:=by
    rcases c1.out with e | e
    · rw [e];simp
    have:=H.out.k4;omega
   have bx:zr.nd.kids.length<=1000:=(by omega);have bw:0<zr.nd.kids.length:=(by omega);obtain ⟨i0,O,aH,aI,E⟩:=info_parts info3;have ap:SlF (W6.drew.alloc (.cells #[.int .i64 (c:Int)] 3)) 3 1 nat1 (.slice (some ⟨W6.heap.size,0,none⟩) 1 1) [c]:=⟨rfl,.inr ⟨_,_,_,_,rfl,zae _ _ _ rfl,Nat.le_refl _,by unfold maxLen;omega,by simp,rfl⟩⟩;have b5:=H_ ap;have aY:=H_ Q;have HC:=H_ hc;have d8:cb<W6.heap.size:=f.lt cb rfl;clear a f Q C cq hc ap;go_upto_region 23 with fail
   go_region_law (refine zbh rfl _ _ 48 rfl 3 i0 _ 1 8 Tryz.underlying48 O aH aI E rfl (by decide) zag zls zk.kv (.slice (some ⟨W6.heap.size,0,none⟩) 1 1) zk.nd.kids [c] rfl rfl (aY.out.fr0 ((Fr.refl No W6).drew.alloc _)) b5.out (by unfold maxLen;simp;omega) (by simp;omega) ?_
                  intro v1 w7 aF bk bn;obtain ⟨va,g,a0,_,_,_⟩:=aF.shape;generalize (zk.nd.kids++[c]).length=n2 at a0;subst a0;have ab:Fr (fun b=>zk.kv.ownBlock=some b) W6 w7:=((Fr.refl _ W6).drew.alloc _).trans bk fun _ _ e=>e;have u1:=ab.cell f2 br;have u2:=ab.free f2 f4 br;have cd:=H_ aF;have bQ:=H_ ab;have bU:=H_ bn;clear aF bk bn ab)
   all_goals
    have o:=a7.out.setKids (w1:=w7) (kv':=.slice va n2 g) (K':=zk.nd.kids++[c]) k _ ah.out bQ.out cd.out fun b e=>by
     rcases bU.out b e with e | e
     · exact .inl e
     right;simp at e;omega
    generalize w7.setCell ⟨nb,no+k * 2+1,none⟩ (.slice va n2 g)=W8 at o ⊢
    have v:(Z6.set k ⟨⟨zk.nd.pairs++[p],zk.nd.kids++[c]⟩,D,.slice va n2 g⟩)[r]?=some ⟨⟨zr.nd.pairs.drop 1,zr.nd.kids⟩,.slice (some ⟨g5,o5,none⟩) (zr.nd.pairs.length-1) c5,zr.kv⟩:=(by rw [List.getElem?_set_ne I.out];exact aW.out);have W:ndsZ (Z6.set k ⟨⟨zk.nd.pairs++[p],zk.nd.kids++[c]⟩,D,.slice va n2 g⟩)=(((A.set k ⟨zk.nd.pairs++[p],zk.nd.kids⟩).set at_ ⟨za.nd.pairs.set i x,za.nd.kids⟩).set r ⟨zr.nd.pairs.drop 1,zr.nd.kids⟩).set k ⟨zk.nd.pairs++[p],zk.nd.kids++[c]⟩:=(by rw [zau,ai.out]);generalize Z6.set k ⟨⟨zk.nd.pairs++[p],zk.nd.kids++[c]⟩,D,.slice va n2 g⟩=Z8 at o v W;have a:=o.r;obtain ⟨_,az,_,bf⟩:=a.look r _ v;have f:=a.kids r _ v;dsimp only at az bf f;have J:=zhd W8 zr.kv zr.nd.kids 0 f bw bx;have dd:nb<W8.heap.size:=a.nodes.lt nb rfl
    have c3:=H_ o;have aX:=H_ v;have b4:=H_ W;clear a f o v W u1 u2 e2 e4 f2 f4 bq
    go_wp2_with (first
     | (go_at_call 156;refine J.mono ?_;clear J;rintro e w9 ⟨g9,o9,c9,rfl,bE,ae,bo⟩
        have y1:=ae.cell az an;have y2:=ae.free az bf an;have ce:=H_ bE;have bR:=H_ ae;have bV:=H_ bo;clear bE ae bo))
    go_ret
    have Y:=c3.out.setKids (w1:=w9) (kv':=.slice (some ⟨g9,o9,none⟩) (zr.nd.kids.length-1) c9) (K':=zr.nd.kids.drop 1) r _ aX.out bR.out (by have:=ce.out;simpa using this) fun b e=>by
     obtain rfl:g9=b:=by simpa [Value.ownBlock] using e
     exact .inl bV.out
    refine ⟨⟨_,rfl⟩,_,⟨_,_,_,Y.r,?_,fun b=>Iff.rfl⟩,Y.fr,Y.new⟩
    have cr:zr.nd.kids.take 1 = [c]:=by
     have h1:=HC.out
     cases hz:zr.nd.kids with
     | nil=>rw [hz] at h1;simp at h1
     | cons q qs=>rw [hz] at h1;simp at h1;simp [h1]
    rw [zau,b4.out,HJ.out,cr];dsimp only;rw [List.set_comm _ _ I.out,List.set_set,List.set_comm _ _ I.out.symm,List.set_comm _ _ av.out.symm,List.set_set]
end Go.Proofs.YtdgkdfmfoonbpaaGreat