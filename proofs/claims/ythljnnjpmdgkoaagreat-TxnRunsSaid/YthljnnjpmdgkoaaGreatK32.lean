/- Own lemmas. -/
import Derived.Test.YthljnnjpmdgkoaaGreatK15
import Derived.Test.YthljnnjpmdgkoaaGreatK07
import Derived.Test.YthljnnjpmdgkoaaGreatK19
import Derived.Test.YthljnnjpmdgkoaaGreatK24
import Derived.Test.YthljnnjpmdgkoaaGreatK16
import Derived.Test.YthljnnjpmdgkoaaGreatK31
import Derived.Test.YthljnnjpmdgkoaaGreatK06
import Derived.Deep.RegionHeld3
import Derived.Deep.DeepCutAuto
import Derived.BigRegion
namespace Go.Proofs.YthljnnjpmdgkoaaGreat
open Go Go.Proofs Go.RowKit
set_option maxRecDepth 100000
theorem zxv (x:Ev):∀ u∈evC x,u.oneCell'=true:=fun u hu=>zvt (L:=[x]) (by simpa using hu)
theorem zua {X:World} {b:Nat} {a0 a1 a2 a3:Value} (hk:X.heap[b]?=some (.cells #[a0,a1,a2,a3] 42 (0,0))) (r m kv ev:Value) :
 ∃ Z,((((X.setCell ⟨b,0,none⟩ r).setCell ⟨b,1,none⟩ m).setCell ⟨b,2,none⟩ kv).setCell ⟨b,3,none⟩ ev)=Z/\Z.heap[b]?=some (.cells #[r,m,kv,ev] 42 (0,0))/\Fr (fun x=>x=b) X Z:=by
 have c:=zab hk 0 r;have e:=zab c 1 m;have d:=zab e 2 kv;have a:=zab d 3 ev;refine ⟨_,rfl,by rw [a];simp,((((Fr.refl (fun x=>x=b) X).setAt 0 r).setAt 1 m).setAt 2 kv).setAt 3 ev⟩
def stateV (r m:Int) (kv ev:Value):Value:=.agg #[.int .i64 r,.int .i64 m,kv,ev]
set_option maxHeartbeats 8000000 in
theorem zqn {TA:zaq} {N:Nat} (hT:TreeOk TA N) {n:Nat} (hn:n<=1099511627) (w:World) (s:Nat) (S:St) (F:Nat->Prop) (hS:zak TA w s S F) (hok:StOk n S) (hN:S.T.length<=1099511627) :
 Calls Tryz.prog 23 #[.pointer (some ⟨s,0,none⟩)] w fun e w'=>∃ kv ev,e=.returned (stateV S.rev S.mark kv ev)/\SlF w' 99 6 kvC kv (zan S S.T S.mark)/\SlF w' 101 13 evC ev S.events/\Fr No w w'/\(∀ b,kv.ownBlock=some b->w.heap.size<=b)/\(∀ b,ev.ownBlock=some b->w.heap.size<=b):=by
 have ap:=fun W hW at_ H hH=>zjp hT hn W s S F hW hok at_ S.mark H hH;have bY:=H_ hS;obtain ⟨t,p,ev,hp,FT,FH,a,hF⟩:=hS;have c0:=a.obj.cell 0 rfl;have c3:=a.obj.cell 3 rfl;have c4:=a.obj.cell 4 rfl;have c5:=a.obj.cell 5 rfl;have ls:=a.obj.lt;have bk:=a.events;have cv:=hok.ev;have au:=fun W (h:Fr No w W)=>hT.len (w:=W) (t:=t) (T:=S.T) (F:=FT) (hT.fr a.tree h fun _ _ s=>s);have Y:=fun W (h:Fr No w W)=>hT.range (w:=W) (t:=t) (T:=S.T) (F:=FT) ⟨#[]⟩ ⟨#[]⟩ (hT.fr a.tree h fun _ _ s=>s);simp only [zho] at Y;have b5:=H_ au;have bm:=H_ Y;have HH:=H_ ap;have bJ:=H_ hok.id;have bF:=H_ bk;clear a hF bk au Y ap;go_enter Tryz.func23,Tryz.ntmps23;go_upto_region 3 with fail
 have X:Fr No w (w.alloc (Obj.cells #[.int .i64 0,.int .i64 0,.slice none 0 0,.slice none 0 0] 42)):=(Fr.refl No w).alloc _;have av:=zad w (Obj.cells #[.int .i64 0,.int .i64 0,.slice none 0 0,.slice none 0 0] 42) _ rfl;generalize w.alloc (Obj.cells #[.int .i64 0,.int .i64 0,.slice none 0 0,.slice none 0 0] 42)=W0 at *;have d3:=X.cell0 c3;have d4:=X.cell0 c4;have df:s<W0.heap.size:=Nat.lt_of_lt_of_le ls X.size
 go_region
 go_upto_region 4 with fail;have aN:((W0.alloc (Obj.cells #[.int .i64 S.rev,.int .i64 S.mark,.slice none 0 0,.slice none 0 0] 42)).drew).heap[W0.heap.size]?=some (.cells #[.int .i64 S.rev,.int .i64 S.mark,.slice none 0 0,.slice none 0 0] 42 (0,0)):=zad _ _ _ rfl;have aj:((W0.alloc (Obj.cells #[.int .i64 S.rev,.int .i64 S.mark,.slice none 0 0,.slice none 0 0] 42)).drew).heap[w.heap.size]?=some (.cells #[.int .i64 0,.int .i64 0,.slice none 0 0,.slice none 0 0] 42 (0,0)):=zaj av _;have a3:Fr No w ((W0.alloc (Obj.cells #[.int .i64 S.rev,.int .i64 S.mark,.slice none 0 0,.slice none 0 0] 42)).drew):=(X.alloc _).drew;have bW:=zaa av;clear d3 d4 X av;generalize (W0.alloc (Obj.cells #[.int .i64 S.rev,.int .i64 S.mark,.slice none 0 0,.slice none 0 0] 42)).drew=W1 at *;have d0:=a3.cell0 c0
 have dj:s<W1.heap.size:=Nat.lt_of_lt_of_le ls a3.size
 go_region_held3 (fun W=>W.cell? ⟨s,0,none⟩=some (.pointer (some ⟨t,0,none⟩)))
  (first | assumption | exact a7.cell0 d0)
  (first
    | (go_at_call 61;refine (b5.out _ (a3.trans0 (by (repeat (first | with_reducible exact Fr.refl _ _ | with_reducible refine Fr.drew ?_));done))).mono ?_;rintro e w' ⟨rfl,rfl⟩)
    | (go_at_call 60;refine (bm.out _ (a3.trans0 (by (repeat (first | with_reducible exact Fr.refl _ _ | with_reducible refine Fr.drew ?_));done))).mono ?_;rintro e w7 ⟨pv,rfl,aE,a7,bc⟩;obtain ⟨pa,aZ,rfl,cG,dc,bb⟩:=aE.shape))
 have C:Fr No W1 w7:=(by first | exact a7 | exact (Fr.refl No W1).drew.trans0 a7);have bl:=C.heap aN id;have an:=C.heap aj id;have am:Fr No w w7:=a3.trans0 C;have cp:=C.size;have l1:=zaa aN;have ah:∀ b,(Value.slice pa S.T.length aZ).ownBlock=some b->W1.heap.size<=b:=fun b hb=>by have:=bc b hb;have h':W1.heap.size<=b:=this;omega
 have bj:=H_ bl;have bh:=H_ an;have bS:=H_ am;have cj:=H_ aE;have ce:=H_ ah;have bD:=H_ bb;have bZ:∃ St1:Nat,W0.heap.size=St1/\w.heap.size<St1/\St1<w7.heap.size:=⟨_,rfl,bW,by omega⟩;obtain ⟨f,bi,cm,cy⟩:=bZ;rw [bi] at bj;have cr:f<W1.heap.size:=by omega
 clear bl an am aE ah bb aN aj bc a7 C d0;obtain ⟨i0,c7,bN,bE,bx⟩:=info_parts info57;have cn:S.T.length<=1099511627:=hN;have cC:=H_ hok;rw [bi];go_wp2
 go_loopg [31] S.T.length (fun g s31 wr=>∃ (i:Nat) (o:Value),s31=.int .i64 i/\i+g=S.T.length/\Hid (wr.heap[f]?=some (.cells #[.int .i64 S.rev,.int .i64 S.mark,o,.slice none 0 0] 42 (0,0)))/\Hid (SlF wr 99 6 kvC o (zan S (S.T.take i) S.mark))/\Hid (Fr (fun b=>b=f) w7 wr)/\Hid (∀ b,o.ownBlock=some b->w7.heap.size<=b))
 case atStart=>exact ⟨0,_,rfl,by simp,bj,H_ (SlF.nil _ _ _ _),H_ (Fr.refl _ _),H_ (by simp [Value.ownBlock])⟩
 case round =>
  obtain ⟨i,o,rfl,hi,I,HO,O,B⟩:=hrel;have d6:=zaa I.out;have M:Fr No w wr:=bS.out.trans O.out fun b hb e=>by have E:b=f:=e;omega
  have ae:=H_ M;have r0:=M.cell0 c0;have r4:=M.cell0 c4;have r5:=M.cell0 c5;have bv:s<wr.heap.size:=Nat.lt_of_lt_of_le ls M.size;have b2:=cellAt I.out 2 rfl;have b3:=cellAt I.out 3 rfl;have bK:∀ j,wr.frozen? ⟨f,j,none⟩=false:=fun j=>by unfold World.frozen?;dsimp only;rw [I.out];simp
  obtain ⟨oa,z,rfl,bL,de,cf⟩:=HO.out.shape;clear cf M
  cases gk with
  | zero =>
    have bI:¬ (i:Int)<(S.T.length:Int):=(by omega);go_upto_region 11 with fail;have bG:S.T.take i=S.T:=List.take_of_length_le (by omega);rw [bG] at HO B bL b2 I;obtain ⟨j0,bO,cb,cg,cl⟩:=info_parts info73;have d8:=hok.ev;have b8:=ae.out.drew;have aK:=bF.out.fr0 b8;obtain ⟨ea,b6,rfl,dh,d7,c8⟩:=aK.shape;have bV:=H_ aK;have bu:=H_ (show (Value.slice oa (zan S S.T S.mark).length z).ownBlock≠some f from fun h=>by have:=B.out f h;omega);clear aK c8 b8
    go_region_law (refine zbj rfl _ _ 28 rfl 101 j0 _ 13 136 Tryz.underlying28 bO cb cg cl rfl (by decide) zac zxv (.slice none 0 0) (.slice ea S.events.length b6) [] S.events rfl rfl (SlF.nil _ _ _ _) bV.out (by unfold maxLen;simp;try omega) (by simp;try omega) ?_;intro v4 K L P U;obtain ⟨va,m,rfl,_,_,_⟩:=L.shape;have aG:Fr No wr.drew K:=P.mono (fun b _ h=>by simp [Value.ownBlock] at h);have c:=aG.heap (show wr.drew.heap[f]?=_ from I.out) id;have v3:K.cell? ⟨f,3,none⟩=some (.slice none 0 0):=(by simp [World.cell?,c]);have ci:K.frozen? ⟨f,3,none⟩=false:=(by simp [World.frozen?,c]);have l4:=zaa c;have aC:=H_ L;have az:=H_ aG;have ay:=H_ c;have aF:=H_ U;clear L P U aG c)
    all_goals
     have v:=zab ay.out 3 (.slice va S.events.length m);have l:Fr (fun b=>b=f) K (K.setCell ⟨f,3,none⟩ (.slice va S.events.length m)):=(Fr.refl _ K).setAt 3 _;have ak:=O.out.heap bh.out (fun e=>by have E:w.heap.size=f:=e;omega);have ao:=az.out.heap (show wr.drew.heap[w.heap.size]?=_ from ak) (fun h=>h);have D:=l.heap ao (fun e=>by have E:w.heap.size=f:=e;omega)
     have ar:=aC.out.fr l fun b hb e=>by
      have E:b=f:=e;have y:=aF.out b hb;rcases y with y | y
      · simp [Value.ownBlock] at y
      have h2:wr.heap.size<=b:=y
      omega
     have ag:=((HO.out.fr0 (Fr.refl No wr).drew).fr0 az.out).fr l fun b hb e=>by
      have E:b=f:=e;exact bu.out (by rw [<-E];exact hb)
     have ba:Fr No w (K.setCell ⟨f,3,none⟩ (.slice va S.events.length m)):=(ae.out.drew.trans0 az.out).trans l fun b hb e=>by
      have E:b=f:=e;omega
     generalize K.setCell ⟨f,3,none⟩ (.slice va S.events.length m)=W5 at *;have bM:∃ aJ,W5.heap[f]?=some (.cells aJ 42 (0,0))/\aJ=#[.int .i64 S.rev,.int .i64 S.mark,.slice oa (zan S S.T S.mark).length z,.slice va S.events.length m]:=⟨_,v,by simp⟩;obtain ⟨aJ,v,rfl⟩:=bM;obtain ⟨s0,s1,s2,s3⟩:=cells4 v;obtain ⟨t0,t1,t2,t3⟩:=cells4 D;have tf:∀ i,W5.frozen? ⟨w.heap.size,i,none⟩=false:=fun i=>by simp [World.frozen?,D]
     have d2:=zaa D;have cR:=zaa v;obtain ⟨Z,hZ,a2,a6⟩:=zua D (.int .i64 S.rev) (.int .i64 S.mark) (.slice oa (zan S S.T S.mark).length z) (.slice va S.events.length m);have bd:=H_ ag;have bg:=H_ ar;have bT:=H_ ba;have HZ:=H_ hZ;have bQ:=H_ a2;have aM:=H_ a6;clear v l ak ao D ar ag ba hZ a2 a6 v3 ci l4;go_wp2;rw [HZ.out];have db:=ae.out.size;refine bodyPost_ret (results_cell_row rfl _ _ w.heap.size 42 _ (0,0) _ rfl bQ.out Tryz.underlying42 rfl (by kernel_rfl)) rfl ⟨.slice oa (zan S S.T S.mark).length z,.slice va S.events.length m,rfl,?_,?_,?_,fun b hb=>?_,fun b hb=>?_⟩
     · refine bd.out.fr aM.out fun b hb e=>?_
       have E:b=w.heap.size:=e;have y:=B.out b hb;omega
     · refine (by simpa using bg.out:SlF W5 101 13 evC (.slice va S.events.length m) S.events).fr aM.out fun b hb e=>?_
       have E:b=w.heap.size:=e;rcases aF.out b hb with y | y
       · simp [Value.ownBlock] at y
       have h2:wr.heap.size<=b:=y
       omega
     · exact bT.out.trans aM.out fun b hb e=>by
        have E:b=w.heap.size:=e;omega
     · have y:=B.out b hb
       omega
     rcases aF.out b hb with y | y
     · simp [Value.ownBlock] at y
     have h2:wr.heap.size<=b:=y
     omega
  | succ g =>
    have bI:(i:Int)<(S.T.length:Int):=(by omega);obtain ⟨gb,go,rfl⟩:=bD.out (by omega);obtain ⟨q,hq⟩:∃ q,S.T[i]?=some q:=⟨_,List.getElem?_eq_getElem (by omega)⟩;have V:=cj.out.fr O.out (fun b hb e=>by have E:b=f:=e;have:=ce.out b hb;omega);have x0:=V.cell0 zag i hq rfl;have x1:=V.cell zag i 1 hq rfl;obtain ⟨H,hH⟩:=bJ.out q (List.mem_of_getElem? hq);have ai:oneL S S.mark q=if (hadH H S.mark).2 then some (hadH H S.mark).1 else none:=(by unfold oneL;rw [hH])
    have a1:zan S (S.T.take (i+1)) S.mark=zan S (S.T.take i) S.mark++(oneL S S.mark q).toList:=by
     unfold zan;rw [List.take_add_one,hq,List.filterMap_append];cases h:oneL S S.mark q <;> simp [h]
    have be:=H_ a1;have aw:=H_ ai;have a5:=H_ hH;have HQ:=H_ hq;clear a1 ai hH hq V;rcases hr:hadH H S.mark with ⟨⟨r1,r2,r3,G,J,r6⟩,rb⟩
    rw [hr] at aw;have HR:=H_ hr;clear hr;have da:(zan S (S.T.take i) S.mark).length<=S.T.length:=Nat.le_trans (List.length_filterMap_le _ _) (by simp;omega);go_upto_region 7 with fail;have ax:=zad wr (Obj.cells #[.string q.1,.int .i64 q.2] 122) _ rfl;have af:Fr No wr (wr.alloc (Obj.cells #[.string q.1,.int .i64 q.2] 122)):=(Fr.refl No wr).alloc _;generalize wr.alloc (Obj.cells #[.string q.1,.int .i64 q.2] 122)=d at *;have k1:=cellAt ax 1 rfl;have k4:=af.cell0 r4;have lk:=zaa ax;have bw:s<d.heap.size:=Nat.lt_of_lt_of_le bv af.size;have b9:=H_ af;clear af ax;have a4:Fr No d (d.alloc (Obj.cells #[.string ⟨#[]⟩,.string ⟨#[]⟩,.int .i64 0,.int .i64 0,.int .i64 0,.int .i64 0] 99)):=(Fr.refl No d).alloc _
    have aW:(d.alloc (Obj.cells #[.string ⟨#[]⟩,.string ⟨#[]⟩,.int .i64 0,.int .i64 0,.int .i64 0,.int .i64 0] 99)).heap[d.heap.size]?=some (.cells #[.string ⟨#[]⟩,.string ⟨#[]⟩,.int .i64 0,.int .i64 0,.int .i64 0,.int .i64 0] 99 (0,0)):=zad _ _ _ rfl;have aa:=a4.cell0 k4;have ab:=a4.cell0 k1;have b1:d.cell? ⟨s,4,none⟩=some (.int .i64 S.mark)/\d.cell? ⟨wr.heap.size,1,none⟩=some (.int .i64 q.2):=⟨k4,k1⟩;have b2:d.drew.cell? ⟨s,4,none⟩=some (.int .i64 S.mark)/\d.drew.cell? ⟨wr.heap.size,1,none⟩=some (.int .i64 q.2):=⟨k4,k1⟩;have b3:=And.intro aa ab
    have b4:(d.alloc (Obj.cells #[.string ⟨#[]⟩,.string ⟨#[]⟩,.int .i64 0,.int .i64 0,.int .i64 0,.int .i64 0] 99)).drew.cell? ⟨s,4,none⟩=some (.int .i64 S.mark)/\(d.alloc (Obj.cells #[.string ⟨#[]⟩,.string ⟨#[]⟩,.int .i64 0,.int .i64 0,.int .i64 0,.int .i64 0] 99)).drew.cell? ⟨wr.heap.size,1,none⟩=some (.int .i64 q.2):=⟨aa,ab⟩;have y:=bY.out.fr0 hT (ae.out.trans0 b9.out);have h2:=y.fr0 hT (Fr.refl No d).drew;have h3:=y.fr0 hT a4;have h4:=h3.fr0 hT (Fr.refl No _).drew;have C1:=H_ (HH.out _ y q.2 H a5.out);have C2:=H_ (HH.out _ h2 q.2 H a5.out);have C3:=H_ (HH.out _ h3 q.2 H a5.out);have C4:=H_ (HH.out _ h4 q.2 H a5.out);have bz:=H_ aW;have bq:=H_ a4;clear y h2 h3 h4 aW a4
    go_cut [6,7] (fun s6 s7 wx=>∃ b:Nat,s6=.pointer (some ⟨b,0,none⟩)/\s7=.bool rb/\Hid (wx.heap[b]?=some (.cells #[.string r1,.string r2,.int .i64 r3,.int .i64 G,.int .i64 J,.int .i64 r6] 99 (0,0)))/\Hid (Fr No d wx))
    case first =>
     go_region_held3 (fun W=>W.cell? ⟨s,4,none⟩=some (.int .i64 S.mark)/\W.cell? ⟨wr.heap.size,1,none⟩=some (.int .i64 q.2))
      (first | with_reducible exact b1 | with_reducible exact b2 | with_reducible exact b3 | with_reducible exact b4 | with_reducible exact A | with_reducible exact kv | with_reducible exact ku | with_reducible exact kt | with_reducible exact bf | with_reducible exact bX | with_reducible exact cc | with_reducible exact ck)
      (first
        | (go_at_call 62;first | refine C1.out.mono ?_ | refine C2.out.mono ?_
           rintro e r ⟨rfl,x⟩;rw [HR.out];unfold zct kvV;have A:r.cell? ⟨s,4,none⟩=some (.int .i64 S.mark)/\r.cell? ⟨wr.heap.size,1,none⟩=some (.int .i64 q.2):=⟨x.cell0 k4,x.cell0 k1⟩;have a9:Fr No r (r.alloc (Obj.cells #[.string ⟨#[]⟩,.string ⟨#[]⟩,.int .i64 0,.int .i64 0,.int .i64 0,.int .i64 0] 99)):=(Fr.refl No r).alloc _;have kv:=And.intro (a9.cell0 A.1) (a9.cell0 A.2);have Q:Fr No r r.drew:=(Fr.refl No r).drew;have bf:=And.intro (Q.cell0 A.1) (Q.cell0 A.2);have bX:=And.intro (a9.drew.cell0 A.1) (a9.drew.cell0 A.2);have ad:Fr No r (r.alloc (Obj.cells #[.string r1,.string r2,.int .i64 r3,.int .i64 G,.int .i64 J,.int .i64 r6] 99)):=(Fr.refl No r).alloc _;have ku:=And.intro (ad.cell0 A.1) (ad.cell0 A.2);have cc:=And.intro (ad.drew.cell0 A.1) (ad.drew.cell0 A.2)
           have aL:Hid (Fr No d r):=by first | exact H_ x | exact H_ ((Fr.refl No d).drew.trans0 x))
        | (go_at_call 62;first | refine C3.out.mono ?_ | refine C4.out.mono ?_
           rintro e r ⟨rfl,x⟩;rw [HR.out];unfold zct kvV;have A:r.cell? ⟨s,4,none⟩=some (.int .i64 S.mark)/\r.cell? ⟨wr.heap.size,1,none⟩=some (.int .i64 q.2):=⟨x.cell0 aa,x.cell0 ab⟩;have a0:r.heap[d.heap.size]?=some (.cells #[.string ⟨#[]⟩,.string ⟨#[]⟩,.int .i64 0,.int .i64 0,.int .i64 0,.int .i64 0] 99 (0,0)):=x.heap bz.out (fun h=>h);obtain ⟨z0,z1,z2,z3,z4,z5⟩:=cells6 a0;have zf:∀ i,r.frozen? ⟨d.heap.size,i,none⟩=false:=fun i=>by unfold World.frozen?;dsimp only;rw [a0];simp
           have cU:=zaa a0;have l:Fr (fun b=>b=d.heap.size) r ((((((r.setCell ⟨d.heap.size,0,none⟩ (.string r1)).setCell ⟨d.heap.size,1,none⟩ (.string r2)).setCell ⟨d.heap.size,2,none⟩ (.int .i64 r3)).setCell ⟨d.heap.size,3,none⟩ (.int .i64 G)).setCell ⟨d.heap.size,4,none⟩ (.int .i64 J)).setCell ⟨d.heap.size,5,none⟩ (.int .i64 r6)):=((((((Fr.refl _ r).setAt 0 _).setAt 1 _).setAt 2 _).setAt 3 _).setAt 4 _).setAt 5 _;have kt:=And.intro (l.cell A.1 (fun e=>by have E:s=d.heap.size:=e;omega)) (l.cell A.2 (fun e=>by have E:wr.heap.size=d.heap.size:=e;omega));have Q:Fr No r r.drew:=(Fr.refl No r).drew;have bf:=And.intro (Q.cell0 A.1) (Q.cell0 A.2)
           have ck:=And.intro (l.drew.cell A.1 (fun e=>by have E:s=d.heap.size:=e;omega)) (l.drew.cell A.2 (fun e=>by have E:wr.heap.size=d.heap.size:=e;omega));have aL:Hid (Fr No d r):=(by first | exact H_ (bq.out.trans0 x) | exact H_ (bq.out.drew.trans0 x));have bH:=H_ a0;clear a0))
     · go_wp2
       go_meet
       case rel=>exact ⟨_,rfl,rfl,H_ (zad _ _ _ rfl),H_ (aL.out.alloc _)⟩
     obtain ⟨Z,hZ,a2,a6⟩:=zfq (w:=d) bH.out ⟨r1,r2,r3,G,J,r6⟩
     dsimp only at hZ a2;rw [hZ];go_wp2;go_meet
     case rel=>exact ⟨_,rfl,rfl,H_ a2,H_ (a6 aL.out (Nat.le_refl _))⟩
    case rest =>
     obtain ⟨b,rfl,rfl,bo,HX⟩:=hcut;have a8:Fr No wr wc:=b9.out.trans0 HX.out;have aO:=H_ a8;have R:=a8.heap I.out id;have cM:=zaa bo.out;have cP:=zaa R;have e2:=cellAt R 2 rfl;have cL:∀ j,wc.frozen? ⟨f,j,none⟩=false:=fun j=>by unfold World.frozen?;dsimp only;rw [R];simp
     obtain ⟨y0,y1,y2,y3,y4,y5⟩:=cells6 bo.out;have aV:=H_ R;have br:=H_ (HO.out.fr0 a8);clear a8 R x0 x1 k4 k1 aa ab b1 b4 lk bw r0 r4 r5 b2 b3 bK;cases rb
     · have HE:Hid (zan S (S.T.take (i+1)) S.mark=zan S (S.T.take i) S.mark):=H_ (by rw [be.out,aw.out];simp)
       go_wp2;go_roundg g
       case rel=>exact ⟨i+1,_,by go_num,by omega,aV,H_ (by rw [HE.out];exact br.out),H_ (O.out.trans0 aO.out),B⟩
       case measure=>omega
     have HE:Hid (zan S (S.T.take (i+1)) S.mark=zan S (S.T.take i) S.mark++[⟨r1,r2,r3,G,J,r6⟩]):=H_ (by rw [be.out,aw.out];simp)
     have al:=zar wc (kvC ⟨r1,r2,r3,G,J,r6⟩) 99 (0,0);have aq:(Value.slice oa (zan S (S.T.take i) S.mark).length z).ownBlock≠some f:=fun h=>by have:=B.out f h;omega
     have bC:=H_ aq;clear aq;go_wp2_with (at_builtin;refine zao rfl _ _ 27 rfl 99 i0 _ 6 64 Tryz.underlying27 c7 bN bE bx rfl (by decide) _ (zan S (S.T.take i) S.mark) rfl (br.out.alloc _) wc.heap.size 1 (⟨r1,r2,r3,G,J,r6⟩:Kv) rfl al rfl ?c1 ?c2 ?c3 ?_)
     case c1=>intro u hu;simp [kvC] at hu;rcases hu with rfl | rfl | rfl | rfl | rfl | rfl <;> rfl
     case c2=>unfold maxLen;omega
     case c3=>omega
     intro g1 o' cap K L b0 U cB;have P:Fr (fun k=>(Value.slice oa (zan S (S.T.take i) S.mark).length z).ownBlock=some k) wc K:=((Fr.refl _ wc).alloc _).grown b0 fun k hk=>.inl hk;have c:=P.heap aV.out bC.out;have v2:=cellAt c 2 rfl;have d5:∀ j,K.frozen? ⟨f,j,none⟩=false:=fun j=>by unfold World.frozen?;dsimp only;rw [c];simp
     have l4:=zaa c
     have cd:w7.heap.size<=g1:=by
      rcases U with e | e
      · exact B.out _ e
      have y:=O.out.size
      have h2:=aO.out.size
      try simp at e
      omega
     have aC:=H_ L;have bU:=H_ P;have ay:=H_ c;clear L b0 U al P c;go_wp2;go_roundg g
     case rel =>
      have v:=zab ay.out 2 (.slice (some ⟨g1,o',none⟩) ((zan S (S.T.take i) S.mark).length+1) cap);have l:Fr (fun b=>b=f) K (K.setCell ⟨f,2,none⟩ (.slice (some ⟨g1,o',none⟩) ((zan S (S.T.take i) S.mark).length+1) cap)):=(Fr.refl _ K).setAt 2 _
      have bp:=aC.out.fr l fun b hb e=>by
       have E:b=f:=e;obtain rfl:g1=b:=by simpa [Value.ownBlock] using hb
       omega
      refine ⟨i+1,.slice (some ⟨g1,o',none⟩) ((zan S (S.T.take i) S.mark).length+1) cap,by go_num,by omega,H_ (by rw [v];simp),H_ (by rw [HE.out];simpa using bp),H_ (((O.out.trans0 aO.out).trans bU.out fun b hb h=>?_).trans l fun b hb e=>e),H_ fun b hb=>?_⟩
      · have:=B.out b h;omega
      obtain rfl:g1=b:=by simpa [Value.ownBlock] using hb
      exact cd
     case measure=>omega
theorem zfe (w:World) (x:Kv):Calls Tryz.prog 82 #[kvV x,kvV x] w fun e w'=>e=.returned (.bool true)/\Fr No w w':=by
 obtain ⟨d,a,c,f,b,g⟩:=x;unfold kvV;dsimp only;go_enter Tryz.func82,Tryz.ntmps82;go_wp2;go_ret;exact ⟨rfl,((Fr.refl No w).alloc _).alloc _⟩
set_option maxHeartbeats 4000000 in
theorem zgh (w:World) (u v:Value) (L:List Kv) (hu:SlR w 6 kvC u L) (hv:SlR w 6 kvC v L) (hl:L.length<=9223372036854775807) :
 Calls Tryz.prog 54 #[u,v] w fun e w'=>e=.returned (.bool true)/\Fr No w w':=by
 obtain ⟨a,ca,rfl,J,K,y⟩:=hu.shape;obtain ⟨b,cb,rfl,Q,G,z⟩:=hv.shape;have V:=H_ hu;have M:=H_ hv;have HA:=H_ y;have P:=H_ z;clear hu hv y z;go_enter Tryz.func54,Tryz.ntmps54;go_wp2
 go_loopg [5] L.length (fun g s5 wr=>∃ i:Nat,s5=.int .i64 i/\i+g=L.length/\Hid (Fr No w wr))
 case atStart=>exact ⟨0,rfl,by simp,H_ (Fr.refl No w)⟩
 case round =>
  obtain ⟨i,rfl,hi,A⟩:=hrel
  cases gk with
  | zero =>
    have B:¬ (i:Int)<(L.length:Int):=(by omega);go_wp2;go_ret;exact ⟨rfl,A.out⟩
  | succ g =>
    have B:(i:Int)<(L.length:Int):=(by omega);obtain ⟨x,f⟩:∃ x,L[i]?=some x:=⟨_,List.getElem?_eq_getElem (by omega)⟩;obtain ⟨j,m,rfl⟩:=HA.out (by omega);obtain ⟨k,l,rfl⟩:=P.out (by omega);have c:=V.out.fr0 A.out;have d:=M.out.fr0 A.out;have D:=c.cell0 zae i f rfl;have E:=d.cell0 zae i f rfl;have R:=c.cell zae i 1 f rfl;have S:=d.cell zae i 1 f rfl;have H:=c.cell zae i 2 f rfl;have X:=d.cell zae i 2 f rfl;have f3:=c.cell zae i 3 f rfl;have q3:=d.cell zae i 3 f rfl;have Z:=c.cell zae i 4 f rfl;have O:=d.cell zae i 4 f rfl;have I:=c.cell zae i 5 f rfl;have Y:=d.cell zae i 5 f rfl;have lf:=World.block_lt_of_cell? _ _ D;have lq:=World.block_lt_of_cell? _ _ E;clear f c d;obtain ⟨p,s,o,r,t,q⟩:=x;dsimp only at *
    have C:Hid (∀ W,Fr No wr W->W.cell? ⟨j,m+i * 6,none⟩=some (.string p)/\W.cell? ⟨j,m+i * 6+1,none⟩=some (.string s)/\W.cell? ⟨j,m+i * 6+2,none⟩=some (.int .i64 o)/\W.cell? ⟨j,m+i * 6+3,none⟩=some (.int .i64 r)/\W.cell? ⟨j,m+i * 6+4,none⟩=some (.int .i64 t)/\W.cell? ⟨j,m+i * 6+5,none⟩=some (.int .i64 q)/\W.cell? ⟨k,l+i * 6,none⟩=some (.string p)/\W.cell? ⟨k,l+i * 6+1,none⟩=some (.string s)/\W.cell? ⟨k,l+i * 6+2,none⟩=some (.int .i64 o)/\W.cell? ⟨k,l+i * 6+3,none⟩=some (.int .i64 r)/\W.cell? ⟨k,l+i * 6+4,none⟩=some (.int .i64 t)/\W.cell? ⟨k,l+i * 6+5,none⟩=some (.int .i64 q)):=H_ fun W hW=>⟨hW.cell0 D,hW.cell0 R,hW.cell0 H,hW.cell0 f3,hW.cell0 Z,hW.cell0 I,hW.cell0 E,hW.cell0 S,hW.cell0 X,hW.cell0 q3,hW.cell0 O,hW.cell0 Y⟩
    have b1:=C.out wr (Fr.refl No wr);have b2:=C.out wr.drew (Fr.refl No wr).drew;have F:Hid (∀ (W:World) (k1 k2:ByteArray) (k3 k4 k5 k6:Int),Calls Tryz.prog 82 #[.agg #[.string k1,.string k2,.int .i64 k3,.int .i64 k4,.int .i64 k5,.int .i64 k6],.agg #[.string k1,.string k2,.int .i64 k3,.int .i64 k4,.int .i64 k5,.int .i64 k6]] W fun e w'=>e=.returned (.bool true)/\Fr No W w'):=H_ fun W k1 k2 k3 k4 k5 k6=>zfe W ⟨k1,k2,k3,k4,k5,k6⟩;have C1:=H_ (F.out wr p s o r t q);have N:=H_ (F.out wr.drew p s o r t q);have HD:=H_ (Fr.refl No wr).drew;go_upto_region 6 with fail
    go_cut [26] (fun s26 wx=>s26=.bool false/\Hid (Fr No wr wx))
    case first =>
     go_region_held3 (fun W=>W.cell? ⟨j,m+i * 6,none⟩=some (.string p)/\W.cell? ⟨j,m+i * 6+1,none⟩=some (.string s)/\W.cell? ⟨j,m+i * 6+2,none⟩=some (.int .i64 o)/\W.cell? ⟨j,m+i * 6+3,none⟩=some (.int .i64 r)/\W.cell? ⟨j,m+i * 6+4,none⟩=some (.int .i64 t)/\W.cell? ⟨j,m+i * 6+5,none⟩=some (.int .i64 q)/\W.cell? ⟨k,l+i * 6,none⟩=some (.string p)/\W.cell? ⟨k,l+i * 6+1,none⟩=some (.string s)/\W.cell? ⟨k,l+i * 6+2,none⟩=some (.int .i64 o)/\W.cell? ⟨k,l+i * 6+3,none⟩=some (.int .i64 r)/\W.cell? ⟨k,l+i * 6+4,none⟩=some (.int .i64 t)/\W.cell? ⟨k,l+i * 6+5,none⟩=some (.int .i64 q))
      (first | with_reducible exact b1 | with_reducible exact b2 | with_reducible exact T)
      (first | (go_at_call 82;refine (zfe _ ⟨p,s,o,r,t,q⟩).mono ?_;rintro e w3 ⟨rfl,n⟩;have T:=C.out w3 (by first | exact n | exact (Fr.refl No wr).drew.trans0 n)))
     all_goals
      go_wp2;go_meet
      case rel=>exact ⟨rfl,H_ (by first | exact n | exact (Fr.refl No wr).drew.trans0 n)⟩
    case rest =>
     obtain ⟨rfl,U⟩:=hcut;go_wp2;go_roundg g
     case rel=>exact ⟨i+1,by go_num,by omega,H_ (A.out.trans0 U.out)⟩
     case measure=>omega
set_option maxHeartbeats 4000000 in
theorem zdz (w:World) (u v:Value) (L:List Ev) (hu:SlR w 13 evC u L) (hv:SlR w 13 evC v L) (hl:L.length<=1099511627) :
 Calls Tryz.prog 36 #[u,v] w fun e w'=>e=.returned (.bool true)/\Fr No w w':=by
 obtain ⟨a,ca,rfl,av,aw,J⟩:=hu.shape;obtain ⟨b,cb,rfl,ay,a8,K⟩:=hv.shape;have HU:=H_ hu;have HV:=H_ hv;have HA:=H_ J;have HB:=H_ K;clear hu hv J K;go_enter Tryz.func36,Tryz.ntmps36;go_wp2
 go_loopg [5] L.length (fun g s5 wr=>∃ i:Nat,s5=.int .i64 i/\i+g=L.length/\Hid (Fr No w wr))
 case atStart=>exact ⟨0,rfl,by simp,H_ (Fr.refl No w)⟩
 case round =>
  obtain ⟨i,rfl,hi,N⟩:=hrel
  cases gk with
  | zero =>
    have a0:¬ (i:Int)<(L.length:Int):=(by omega);go_wp2;go_ret;exact ⟨rfl,N.out⟩
  | succ g =>
    have a0:(i:Int)<(L.length:Int):=(by omega);obtain ⟨x,f⟩:∃ x,L[i]?=some x:=⟨_,List.getElem?_eq_getElem (by omega)⟩;obtain ⟨k,j,rfl⟩:=HA.out (by omega);obtain ⟨l,m,rfl⟩:=HB.out (by omega);have d:=HU.out.fr0 N.out;have c:=HV.out.fr0 N.out;have f0:=d.cell0 zac i f rfl;have q0:=c.cell0 zac i f rfl;have f1:=d.cell zac i 1 f rfl;have q1:=c.cell zac i 1 f rfl;have f2:=d.cell zac i 2 f rfl;have q2:=c.cell zac i 2 f rfl;have f3:=d.cell zac i 3 f rfl;have q3:=c.cell zac i 3 f rfl;have f4:=d.cell zac i 4 f rfl;have q4:=c.cell zac i 4 f rfl;have f5:=d.cell zac i 5 f rfl;have q5:=c.cell zac i 5 f rfl;have f6:=d.cell zac i 6 f rfl;have q6:=c.cell zac i 6 f rfl;have f7:=d.cell zac i 7 f rfl;have q7:=c.cell zac i 7 f rfl;have f8:=d.cell zac i 8 f rfl
    have q8:=c.cell zac i 8 f rfl;have f9:=d.cell zac i 9 f rfl;have q9:=c.cell zac i 9 f rfl;have Z:=d.cell zac i 10 f rfl;have R:=c.cell zac i 10 f rfl;have V:=d.cell zac i 11 f rfl;have a2:=c.cell zac i 11 f rfl;have a4:=d.cell zac i 12 f rfl;have S:=c.cell zac i 12 f rfl;have lf:=World.block_lt_of_cell? _ _ f0;have lq:=World.block_lt_of_cell? _ _ q0;clear f d c;obtain ⟨M,⟨D,H,z,F,C,E⟩,⟨A,y,B,p,q,r⟩⟩:=x;dsimp only at *
    have G:Hid (∀ W,Fr No wr W->W.cell? ⟨k,j+i * 13,none⟩=some (.int .i64 M)/\W.cell? ⟨k,j+i * 13+1,none⟩=some (.string D)/\W.cell? ⟨k,j+i * 13+2,none⟩=some (.string H)/\W.cell? ⟨k,j+i * 13+3,none⟩=some (.int .i64 z)/\W.cell? ⟨k,j+i * 13+4,none⟩=some (.int .i64 F)/\W.cell? ⟨k,j+i * 13+5,none⟩=some (.int .i64 C)/\W.cell? ⟨k,j+i * 13+6,none⟩=some (.int .i64 E)/\W.cell? ⟨k,j+i * 13+7,none⟩=some (.string A)/\W.cell? ⟨k,j+i * 13+8,none⟩=some (.string y)/\W.cell? ⟨k,j+i * 13+9,none⟩=some (.int .i64 B)/\W.cell? ⟨k,j+i * 13+10,none⟩=some (.int .i64 p)/\W.cell? ⟨k,j+i * 13+11,none⟩=some (.int .i64 q)/\W.cell? ⟨k,j+i * 13+12,none⟩=some (.int .i64 r)/\W.cell? ⟨l,m+i * 13,none⟩=some (.int .i64 M)/\W.cell? ⟨l,m+i * 13+1,none⟩=some (.string D)/\W.cell? ⟨l,m+i * 13+2,none⟩=some (.string H)/\W.cell? ⟨l,m+i * 13+3,none⟩=some (.int .i64 z)/\W.cell? ⟨l,m+i * 13+4,none⟩=some (.int .i64 F)/\W.cell? ⟨l,m+i * 13+5,none⟩=some (.int .i64 C)/\W.cell? ⟨l,m+i * 13+6,none⟩=some (.int .i64 E)/\W.cell? ⟨l,m+i * 13+7,none⟩=some (.string A)/\W.cell? ⟨l,m+i * 13+8,none⟩=some (.string y)/\W.cell? ⟨l,m+i * 13+9,none⟩=some (.int .i64 B)/\W.cell? ⟨l,m+i * 13+10,none⟩=some (.int .i64 p)/\W.cell? ⟨l,m+i * 13+11,none⟩=some (.int .i64 q)/\W.cell? ⟨l,m+i * 13+12,none⟩=some (.int .i64 r)):=H_ fun W hW=>⟨hW.cell0 f0,hW.cell0 f1,hW.cell0 f2,hW.cell0 f3,hW.cell0 f4,hW.cell0 f5,hW.cell0 f6,hW.cell0 f7,hW.cell0 f8,hW.cell0 f9,hW.cell0 Z,hW.cell0 V,hW.cell0 a4,hW.cell0 q0,hW.cell0 q1,hW.cell0 q2,hW.cell0 q3,hW.cell0 q4,hW.cell0 q5,hW.cell0 q6,hW.cell0 q7,hW.cell0 q8,hW.cell0 q9,hW.cell0 R,hW.cell0 a2,hW.cell0 S⟩
    have b1:=G.out wr (Fr.refl No wr);have b2:=G.out wr.drew (Fr.refl No wr).drew;have O:Hid (∀ (W:World) (k1 k2:ByteArray) (k3 k4 k5 k6:Int),Calls Tryz.prog 82 #[.agg #[.string k1,.string k2,.int .i64 k3,.int .i64 k4,.int .i64 k5,.int .i64 k6],.agg #[.string k1,.string k2,.int .i64 k3,.int .i64 k4,.int .i64 k5,.int .i64 k6]] W fun e w'=>e=.returned (.bool true)/\Fr No W w'):=H_ fun W k1 k2 k3 k4 k5 k6=>zfe W ⟨k1,k2,k3,k4,k5,k6⟩;have C1:=H_ (O.out wr D H z F C E);have a1:=H_ (O.out wr.drew D H z F C E);have HD:=H_ (Fr.refl No wr).drew;go_upto_region 6 with fail
    go_cut [55] (fun sc wx=>sc=.bool false/\Hid (Fr No wr wx))
    case first =>
     go_region_held3 (fun W=>W.cell? ⟨k,j+i * 13,none⟩=some (.int .i64 M)/\W.cell? ⟨k,j+i * 13+1,none⟩=some (.string D)/\W.cell? ⟨k,j+i * 13+2,none⟩=some (.string H)/\W.cell? ⟨k,j+i * 13+3,none⟩=some (.int .i64 z)/\W.cell? ⟨k,j+i * 13+4,none⟩=some (.int .i64 F)/\W.cell? ⟨k,j+i * 13+5,none⟩=some (.int .i64 C)/\W.cell? ⟨k,j+i * 13+6,none⟩=some (.int .i64 E)/\W.cell? ⟨k,j+i * 13+7,none⟩=some (.string A)/\W.cell? ⟨k,j+i * 13+8,none⟩=some (.string y)/\W.cell? ⟨k,j+i * 13+9,none⟩=some (.int .i64 B)/\W.cell? ⟨k,j+i * 13+10,none⟩=some (.int .i64 p)/\W.cell? ⟨k,j+i * 13+11,none⟩=some (.int .i64 q)/\W.cell? ⟨k,j+i * 13+12,none⟩=some (.int .i64 r)/\W.cell? ⟨l,m+i * 13,none⟩=some (.int .i64 M)/\W.cell? ⟨l,m+i * 13+1,none⟩=some (.string D)/\W.cell? ⟨l,m+i * 13+2,none⟩=some (.string H)/\W.cell? ⟨l,m+i * 13+3,none⟩=some (.int .i64 z)/\W.cell? ⟨l,m+i * 13+4,none⟩=some (.int .i64 F)/\W.cell? ⟨l,m+i * 13+5,none⟩=some (.int .i64 C)/\W.cell? ⟨l,m+i * 13+6,none⟩=some (.int .i64 E)/\W.cell? ⟨l,m+i * 13+7,none⟩=some (.string A)/\W.cell? ⟨l,m+i * 13+8,none⟩=some (.string y)/\W.cell? ⟨l,m+i * 13+9,none⟩=some (.int .i64 B)/\W.cell? ⟨l,m+i * 13+10,none⟩=some (.int .i64 p)/\W.cell? ⟨l,m+i * 13+11,none⟩=some (.int .i64 q)/\W.cell? ⟨l,m+i * 13+12,none⟩=some (.int .i64 r))
      (first | with_reducible exact b1 | with_reducible exact b2 | with_reducible exact b3 | with_reducible exact Q | with_reducible exact b4 | with_reducible exact U)
      (first
        | (go_at_call 82;(first | with_reducible refine C1.out.mono ?_ | with_reducible refine a1.out.mono ?_);rintro e I ⟨rfl,s⟩
           have n:Fr No wr I:=(by first | with_reducible exact s | with_reducible exact HD.out.trans0 s);have b3:=G.out I n;have Q:=G.out I.drew n.drew;have C2:=H_ (O.out I A y B p q r);have a3:=H_ (O.out I.drew A y B p q r);have a5:=H_ n;have Y:=H_ n.drew;clear s n)
        | (go_at_call 82;(first | with_reducible refine C2.out.mono ?_ | with_reducible refine a3.out.mono ?_);rintro e X ⟨rfl,t⟩
           have o:Fr No wr X:=(by first | with_reducible exact a5.out.trans0 t | with_reducible exact Y.out.trans0 t);have b4:=G.out X o;have U:=G.out X.drew o.drew;have P:=H_ o;have T:=H_ o.drew;clear t o))
     all_goals
      go_wp2;go_meet
      case rel=>exact ⟨rfl,by first | with_reducible exact P | with_reducible exact T⟩
    case rest =>
     obtain ⟨rfl,HX⟩:=hcut;go_wp2;go_roundg g
     case rel=>exact ⟨i+1,by go_num,by omega,H_ (N.out.trans0 HX.out)⟩
     case measure=>omega
theorem zjd (w:World) (r m:Int) (n1 n2 c1 c2:Nat) (a1 a2:Option Addr) :
 Calls Tryz.prog 22 #[stateV r m (.slice a1 n1 c1) (.slice a2 n2 c2)] w fun e w'=>e=.returned (stateV r m (.slice a1 n1 c1) (.slice a2 n2 c2))/\Fr No w w':=by
 unfold stateV;go_enter Tryz.func22,Tryz.ntmps22;go_wp2;exact bodyPost_ret (results_cell_row rfl _ _ (w.heap.size+1) 30 _ (0,0) _ rfl (zad _ _ _ (by simp)) Tryz.underlying30 rfl (by kernel_rfl)) rfl ⟨rfl,((Fr.refl No w).alloc _).alloc _⟩
theorem zoz (w:World) (r m:Int) (u1 u2 v1 v2:Value) (L:List Kv) (M:List Ev) (h1:SlR w 6 kvC u1 L) (h2:SlR w 6 kvC u2 L) (h3:SlR w 13 evC v1 M) (h4:SlR w 13 evC v2 M) (hl:L.length<=1099511627) (hm:M.length<=1099511627) :
 Calls Tryz.prog 21 #[stateV r m u1 v1,stateV r m u2 v2] w fun e w'=>e=.returned (.bool true)/\Fr No w w':=by
 have b:=fun W (h:Fr No w W)=>zgh W u1 u2 L (h1.fr0 h) (h2.fr0 h) (by omega);have d:=fun W (h:Fr No w W)=>zdz W v1 v2 M (h3.fr0 h) (h4.fr0 h) hm;obtain ⟨a1,o,rfl,_,_,_⟩:=h1.shape;obtain ⟨a2,p,rfl,_,_,_⟩:=h2.shape;obtain ⟨a3,j,rfl,_,_,_⟩:=h3.shape;obtain ⟨l,n,rfl,_,_,_⟩:=h4.shape;have i:=H_ b;have k:=H_ d;clear h1 h2 h3 h4 b d;unfold stateV;go_enter Tryz.func21,Tryz.ntmps21
 go_wp2_with (first
  | (go_at_call 54;refine (i.out _ (((Fr.refl No w).alloc _).alloc _)).mono ?_;rintro e w1 ⟨rfl,a⟩
     have f:=a.heap (zaj (zad w (Obj.cells #[.int .i64 r,.int .i64 m,.slice a1 L.length o,.slice a3 M.length j] 30) _ rfl) (Obj.cells #[.int .i64 r,.int .i64 m,.slice a2 L.length p,.slice l M.length n] 30)) id;have c:=a.heap (zad (w.alloc (Obj.cells #[.int .i64 r,.int .i64 m,.slice a1 L.length o,.slice a3 M.length j] 30)) (Obj.cells #[.int .i64 r,.int .i64 m,.slice a2 L.length p,.slice l M.length n] 30) (w.heap.size+1) (by simp)) id;have q:w1.cell? ⟨w.heap.size,3,none⟩=some (.slice a3 M.length j):=cellAt f 3 rfl;have t:=cellAt c 3 rfl;have v:=zaa f;have s:=zaa c)
  | (go_at_call 36;refine (k.out _ ((((Fr.refl No w).alloc _).alloc _).trans0 a)).mono ?_;rintro e u ⟨rfl,g⟩))
 go_ret;exact ⟨rfl,(((Fr.refl No w).alloc _).alloc _).trans0 (a.trans0 g)⟩
theorem zlm (w:World) (u v:Value) (L:List Kv) (hu:SlF w 99 6 kvC u L) (hv:SlF w 99 6 kvC v L) (hl:L.length<=9223372036854775807) :
 Calls Tryz.prog 54 #[u,v] w fun e w'=>e=.returned (.bool true)/\Fr No w w':=zgh w u v L (hu.toR zae) (hv.toR zae) hl
set_option maxHeartbeats 4000000 in
theorem zhn (w:World) (u v:Value) (Z1 Z2:List (Ans×Value)) (hu:AnsR w u Z1) (hv:AnsR w v Z2) (he:Z1.map (·.1)=Z2.map (·.1)) (hl:Z1.length<=1099511627) :
 Calls Tryz.prog 35 #[u,v] w fun e w'=>e=.returned (.bool true)/\Fr No w w':=by
 obtain ⟨a,ca,rfl,a8,a9,A⟩:=hu.sl.shape;obtain ⟨b,cb,rfl,Q,a5,D⟩:=hv.sl.shape;have j:Z2.length=Z1.length:=by have:=congrArg List.length he;simpa using this.symm
 have B:∀ (i:Nat) (q:Ans×Value),Z1[i]?=some q->∃ t,Z2[i]?=some (q.1,t):=fun i q hq=>by
  have y:=congrArg (fun l:List Ans=>l[i]?) he;simp only [List.getElem?_map,hq,Option.map_some] at y
  cases h2:Z2[i]? with
  | none=>rw [h2] at y;cases y
  | some G =>
    rw [h2] at y;obtain ⟨x2,t⟩:=G;refine ⟨t,?_⟩;simp only [Option.map_some,Option.some.injEq] at y;rw [y]
 have HU:=H_ hu;have N:=H_ hv;have HA:=H_ A;have Y:=H_ D;have M:=H_ B;clear hu hv A D B he;rw [j];rw [j] at N Y Q;go_enter Tryz.func35,Tryz.ntmps35;go_wp2
 go_loopg [5] Z1.length (fun g s5 wr=>∃ i:Nat,s5=.int .i64 i/\i+g=Z1.length/\Hid (Fr No w wr))
 case atStart=>exact ⟨0,rfl,by simp,H_ (Fr.refl No w)⟩
 case round =>
  obtain ⟨i,rfl,hi,z⟩:=hrel
  cases gk with
  | zero =>
    have L:¬ (i:Int)<(Z1.length:Int):=(by omega);go_wp2;go_ret;exact ⟨rfl,z.out⟩
  | succ g =>
    have L:(i:Int)<(Z1.length:Int):=(by omega);obtain ⟨q,p⟩:∃ q,Z1[i]?=some q:=⟨_,List.getElem?_eq_getElem (by omega)⟩;obtain ⟨t,x⟩:=M.out i q p;obtain ⟨k,o,rfl⟩:=HA.out (by omega);obtain ⟨m,n,rfl⟩:=Y.out (by omega);have f:=HU.out.sl.fr0 z.out;have d:=N.out.sl.fr0 z.out;rw [<-j] at d;have J:=f.cell0 zbn i p rfl;have R:=d.cell0 zbn i x rfl;have Z:=f.cell zbn i 1 p rfl;have q1:=d.cell zbn i 1 x rfl;have X:=f.cell zbn i 2 p rfl;have G:=d.cell zbn i 2 x rfl;have f3:=f.cell zbn i 3 p rfl;have q3:=d.cell zbn i 3 x rfl;have lf:=World.block_lt_of_cell? _ _ J;have lq:=World.block_lt_of_cell? _ _ R;have r:=(HU.out.kvs i q p).fr0 z.out;have C:=(N.out.kvs i _ x).fr0 z.out
    have P:q.1.kvs.length<=9223372036854775807:=by
     obtain ⟨_,_,_,k1,k2,_⟩:=r.shape;have:maxLen=9223372036854775807:=rfl;omega
    have S:Hid (∀ W,Fr No wr W->Calls Tryz.prog 54 #[q.2,t] W fun e w'=>e=.returned (.bool true)/\Fr No W w'):=H_ fun W hW=>zlm W _ _ _ (r.fr0 hW) (C.fr0 hW) P;obtain ⟨⟨F,x2,E,H⟩,v1⟩:=q;clear p x f d r C;dsimp only at J Z X f3 R q1 G q3 S;have I:Hid (∀ W,Fr No wr W->W.cell? ⟨k,o+i * 4,none⟩=some (.int .i64 F)/\W.cell? ⟨k,o+i * 4+1,none⟩=some v1/\W.cell? ⟨k,o+i * 4+2,none⟩=some (.int .i64 E)/\W.cell? ⟨k,o+i * 4+3,none⟩=some (.bool H)/\W.cell? ⟨m,n+i * 4,none⟩=some (.int .i64 F)/\W.cell? ⟨m,n+i * 4+1,none⟩=some t/\W.cell? ⟨m,n+i * 4+2,none⟩=some (.int .i64 E)/\W.cell? ⟨m,n+i * 4+3,none⟩=some (.bool H)):=H_ fun W hW=>⟨hW.cell0 J,hW.cell0 Z,hW.cell0 X,hW.cell0 f3,hW.cell0 R,hW.cell0 q1,hW.cell0 G,hW.cell0 q3⟩
    have b1:=I.out wr (Fr.refl No wr);have b2:=I.out wr.drew (Fr.refl No wr).drew;have C1:=H_ (S.out wr (Fr.refl No wr));have O:=H_ (S.out wr.drew (Fr.refl No wr).drew);have HD:=H_ (Fr.refl No wr).drew;go_upto_region 6 with fail
    go_cut [67] (fun sc wx=>sc=.bool false/\Hid (Fr No wr wx))
    case first =>
     go_region_held3 (fun W=>W.cell? ⟨k,o+i * 4,none⟩=some (.int .i64 F)/\W.cell? ⟨k,o+i * 4+1,none⟩=some v1/\W.cell? ⟨k,o+i * 4+2,none⟩=some (.int .i64 E)/\W.cell? ⟨k,o+i * 4+3,none⟩=some (.bool H)/\W.cell? ⟨m,n+i * 4,none⟩=some (.int .i64 F)/\W.cell? ⟨m,n+i * 4+1,none⟩=some t/\W.cell? ⟨m,n+i * 4+2,none⟩=some (.int .i64 E)/\W.cell? ⟨m,n+i * 4+3,none⟩=some (.bool H))
      (first | with_reducible exact b1 | with_reducible exact b2 | with_reducible exact b3 | with_reducible exact K)
      (first
        | (go_at_call 54;(first | with_reducible refine C1.out.mono ?_ | with_reducible refine O.out.mono ?_);rintro e V ⟨rfl,s⟩
           have c:Fr No wr V:=(by first | with_reducible exact s | with_reducible exact HD.out.trans0 s);have b3:=I.out V c;have K:=I.out V.drew c.drew;have T:=H_ c;have U:=H_ c.drew;clear s c))
     all_goals
      go_wp2;go_meet
      case rel=>exact ⟨rfl,by first | with_reducible exact T | with_reducible exact U⟩
    case rest =>
     obtain ⟨rfl,HX⟩:=hcut;go_wp2;go_roundg g
     case rel=>exact ⟨i+1,by go_num,by omega,H_ (z.out.trans0 HX.out)⟩
     case measure=>omega
theorem SlR.not4k {w:World} {v:Value} {L:List Kv} (h:SlR w 6 kvC v L) (h0:0<L.length) {b:Nat} (hb:v.ownBlock=some b) {a0 a1 a2 a3:Value} {t:TypeId} (hk:w.heap[b]?=some (.cells #[a0,a1,a2,a3] t (0,0))):False:=by
 obtain ⟨a,cap,rfl,k,j,e⟩:=h;obtain ⟨g,o,rfl,i⟩:=e h0;obtain rfl:g=b:=by simpa [Value.ownBlock] using hb
 have d:L[0]?=some L[0]:=List.getElem?_eq_getElem h0;have c:=i 0 _ d 5 _ rfl;have f:(#[a0,a1,a2,a3]:Array Value)[o+0 * 6+5]?=none:=Array.getElem?_eq_none (by simp);unfold World.cell? at c;dsimp only at c;rw [hk] at c;simp only [f] at c;cases c
theorem DocVN.fr0 {D D0:Doc} {w0 w w':World} {u1 u2 v:Value} (h:DocVN D w0 D0 u1 u2 w v) (hf:Fr No w w'):DocVN D w0 D0 u1 u2 w' v:=by
 obtain ⟨b1,c,b2,b,e,a,n⟩:=h;exact ⟨b1,c,b2,b,e,a.fr0 hf,n⟩
end Go.Proofs.YthljnnjpmdgkoaaGreat