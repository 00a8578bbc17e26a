/- Own lemmas. -/
import Derived.Test.YthljnnjpmdgkoaaGreatI14
import Derived.Test.YthljnnjpmdgkoaaGreatI07
import Derived.Test.YthljnnjpmdgkoaaGreatI21
import Derived.Test.YthljnnjpmdgkoaaGreatI26
import Derived.Test.YthljnnjpmdgkoaaGreatI29
import Derived.Deep.RegionHeld3
import Derived.Deep.DeepCutAuto
import Derived.BigRegion
import Derived.Lib.ConvBytes
namespace Go.Proofs.YthljnnjpmdgkoaaGreat
open Go Go.Proofs Go.RowKit
set_option maxRecDepth 100000
theorem zzu (x:Ev):∀ u∈evC x,u.oneCell'=true:=fun u hu=>zxo (L:=[x]) (by simpa using hu)
theorem zwa {X:World} {b:Nat} {a0 a1 a2 a3:Value} (hk:X.heap[b]?=some (.cells #[a0,a1,a2,a3] 42 (0,0))) (r m kv ev:Value) :
 ∃ Z,((((X.setCell ⟨b,0,none⟩ r).setCell ⟨b,1,none⟩ m).setCell ⟨b,2,none⟩ kv).setCell ⟨b,3,none⟩ ev)=Z/\Z.heap[b]?=some (.cells #[r,m,kv,ev] 42 (0,0))/\Fr (fun x=>x=b) X Z:=by
 have a:=zaa hk 0 r;have c:=zaa a 1 m;have d:=zaa c 2 kv;have e:=zaa d 3 ev;refine ⟨_,rfl,by rw [e];simp,((((Fr.refl (fun x=>x=b) X).setAt 0 r).setAt 1 m).setAt 2 kv).setAt 3 ev⟩
def stateV (r m:Int) (kv ev:Value):Value:=.agg #[.int .i64 r,.int .i64 m,kv,ev]
set_option maxHeartbeats 8000000 in
theorem zlk {TA:zao} {N:Nat} (hT:TreeOk TA N) {n:Nat} (hn:n<=1099511627) (w:World) (s:Nat) (S:St) (F:Nat->Prop) (hS:zaj TA w s S F) (hok:StOk n S) (hN:S.T.length<=1099511627) :
 Calls Tryz.prog 23 #[.pointer (some ⟨s,0,none⟩)] w fun e w'=>∃ kv ev,e=.returned (stateV S.rev S.mark kv ev)/\SlF w' 99 6 kvC kv (zap S S.T S.mark)/\SlF w' 101 13 evC ev S.events/\Fr No w w'/\(∀ b,kv.ownBlock=some b->w.heap.size<=b)/\(∀ b,ev.ownBlock=some b->w.heap.size<=b):=by
 have am:=fun W hW at_ H hH=>zkx hT hn W s S F hW hok at_ S.mark H hH;have bP:=H_ hS;obtain ⟨t,p,ev,hp,FT,FH,a,hF⟩:=hS;have c0:=a.obj.cell 0 rfl;have c3:=a.obj.cell 3 rfl;have c4:=a.obj.cell 4 rfl;have c5:=a.obj.cell 5 rfl;have ls:=a.obj.lt;have bf:=a.events;have cu:=hok.ev;have ao:=fun W (h:Fr No w W)=>hT.len (w:=W) (t:=t) (T:=S.T) (F:=FT) (hT.fr a.tree h fun _ _ s=>s);have a0:=fun W (h:Fr No w W)=>hT.range (w:=W) (t:=t) (T:=S.T) (F:=FT) ⟨#[]⟩ ⟨#[]⟩ (hT.fr a.tree h fun _ _ s=>s);simp only [zgg] at a0;have b7:=H_ ao;have b8:=H_ a0;have HH:=H_ am;have bB:=H_ hok.id;have bv:=H_ bf;clear a hF bf ao a0 am;go_enter Tryz.func23,Tryz.ntmps23;go_upto_region 3 with fail
 have U:Fr No w (w.alloc (Obj.cells #[.int .i64 0,.int .i64 0,.slice none 0 0,.slice none 0 0] 42)):=(Fr.refl No w).alloc _;have aF:=zad w (Obj.cells #[.int .i64 0,.int .i64 0,.slice none 0 0,.slice none 0 0] 42) _ rfl;generalize w.alloc (Obj.cells #[.int .i64 0,.int .i64 0,.slice none 0 0,.slice none 0 0] 42)=W0 at *;have d3:=U.cell0 c3;have d4:=U.cell0 c4;have d5:s<W0.heap.size:=Nat.lt_of_lt_of_le ls U.size
 go_region
 go_upto_region 4 with fail;have aG:((W0.alloc (Obj.cells #[.int .i64 S.rev,.int .i64 S.mark,.slice none 0 0,.slice none 0 0] 42)).drew).heap[W0.heap.size]?=some (.cells #[.int .i64 S.rev,.int .i64 S.mark,.slice none 0 0,.slice none 0 0] 42 (0,0)):=zad _ _ _ rfl;have ag:((W0.alloc (Obj.cells #[.int .i64 S.rev,.int .i64 S.mark,.slice none 0 0,.slice none 0 0] 42)).drew).heap[w.heap.size]?=some (.cells #[.int .i64 0,.int .i64 0,.slice none 0 0,.slice none 0 0] 42 (0,0)):=zai aF _;have V:Fr No w ((W0.alloc (Obj.cells #[.int .i64 S.rev,.int .i64 S.mark,.slice none 0 0,.slice none 0 0] 42)).drew):=(U.alloc _).drew;have ci:=zab aF;clear d3 d4 U aF;generalize (W0.alloc (Obj.cells #[.int .i64 S.rev,.int .i64 S.mark,.slice none 0 0,.slice none 0 0] 42)).drew=W1 at *;have d0:=V.cell0 c0
 have d6:s<W1.heap.size:=Nat.lt_of_lt_of_le ls V.size
 go_region_held3 (fun W=>W.cell? ⟨s,0,none⟩=some (.pointer (some ⟨t,0,none⟩)))
  (first | assumption | exact a7.cell0 d0)
  (first
    | (go_at_call 61;refine (b7.out _ (V.trans0 (by (repeat (first | with_reducible exact Fr.refl _ _ | with_reducible refine Fr.drew ?_));done))).mono ?_;rintro e w' ⟨rfl,rfl⟩)
    | (go_at_call 60;refine (b8.out _ (V.trans0 (by (repeat (first | with_reducible exact Fr.refl _ _ | with_reducible refine Fr.drew ?_));done))).mono ?_;rintro e w7 ⟨pv,rfl,aI,a7,bi⟩;obtain ⟨pa,br,rfl,cS,cT,bh⟩:=aI.shape))
 have D:Fr No W1 w7:=(by first | exact a7 | exact (Fr.refl No W1).drew.trans0 a7);have be:=D.heap aG id;have ai:=D.heap ag id;have al:Fr No w w7:=V.trans0 D;have cw:=D.size;have l1:=zab aG;have au:∀ b,(Value.slice pa S.T.length br).ownBlock=some b->W1.heap.size<=b:=fun b hb=>by have:=bi b hb;have h':W1.heap.size<=b:=this;omega
 have aW:=H_ be;have aV:=H_ ai;have bx:=H_ al;have bF:=H_ aI;have bE:=H_ au;have bD:=H_ bh;have bQ:∃ St1:Nat,W0.heap.size=St1/\w.heap.size<St1/\St1<w7.heap.size:=⟨_,rfl,ci,by omega⟩;obtain ⟨f,bk,cx,cy⟩:=bQ;rw [bk] at aW;have cz:f<W1.heap.size:=by omega
 clear be ai al aI au bh aG ag bi a7 D d0;obtain ⟨i0,bT,c9,ca,cb⟩:=info_parts info57;have ct:S.T.length<=1099511627:=hN;have cm:=H_ hok;rw [bk];go_wp2
 go_loopg [31] S.T.length (fun g s31 wr=>∃ (i:Nat) (o:Value),s31=.int .i64 i/\i+g=S.T.length/\Hid (wr.heap[f]?=some (.cells #[.int .i64 S.rev,.int .i64 S.mark,o,.slice none 0 0] 42 (0,0)))/\Hid (SlF wr 99 6 kvC o (zap S (S.T.take i) S.mark))/\Hid (Fr (fun b=>b=f) w7 wr)/\Hid (∀ b,o.ownBlock=some b->w7.heap.size<=b))
 case atStart=>exact ⟨0,_,rfl,by simp,aW,H_ (SlF.nil _ _ _ _),H_ (Fr.refl _ _),H_ (by simp [Value.ownBlock])⟩
 case round =>
  obtain ⟨i,o,rfl,hi,E,HO,L,B⟩:=hrel;have d7:=zab E.out;have O:Fr No w wr:=bx.out.trans L.out fun b hb e=>by have G:b=f:=e;omega
  have a5:=H_ O;have r0:=O.cell0 c0;have r4:=O.cell0 c4;have r5:=O.cell0 c5;have ch:s<wr.heap.size:=Nat.lt_of_lt_of_le ls O.size;have b2:=cellAt E.out 2 rfl;have b3:=cellAt E.out 3 rfl;have bN:∀ j,wr.frozen? ⟨f,j,none⟩=false:=fun j=>by unfold World.frozen?;dsimp only;rw [E.out];simp
  obtain ⟨oa,z,rfl,bW,cQ,bX⟩:=HO.out.shape;clear bX O
  cases gk with
  | zero =>
    have bU:¬ (i:Int)<(S.T.length:Int):=(by omega);go_upto_region 11 with fail;have bZ:S.T.take i=S.T:=List.take_of_length_le (by omega);rw [bZ] at HO B bW b2 E;obtain ⟨j0,bV,c6,c7,c8⟩:=info_parts info73;have cP:=hok.ev;have bm:=a5.out.drew;have aK:=bv.out.fr0 bm;obtain ⟨ea,bb,rfl,cN,cO,bR⟩:=aK.shape;have bH:=H_ aK;have bC:=H_ (show (Value.slice oa (zap S S.T S.mark).length z).ownBlock≠some f from fun h=>by have:=B.out f h;omega);clear aK bR bm
    go_region_law (refine zbo rfl _ _ 28 rfl 101 j0 _ 13 136 Tryz.underlying28 bV c6 c7 c8 rfl (by decide) zac zzu (.slice none 0 0) (.slice ea S.events.length bb) [] S.events rfl rfl (SlF.nil _ _ _ _) bH.out (by unfold maxLen;simp;try omega) (by simp;try omega) ?_;intro v4 K P M Q;obtain ⟨va,m,rfl,_,_,_⟩:=P.shape;have aJ:Fr No wr.drew K:=M.mono (fun b _ h=>by simp [Value.ownBlock] at h);have c:=aJ.heap (show wr.drew.heap[f]?=_ from E.out) id;have v3:K.cell? ⟨f,3,none⟩=some (.slice none 0 0):=(by simp [World.cell?,c]);have ck:K.frozen? ⟨f,3,none⟩=false:=(by simp [World.frozen?,c]);have l4:=zab c;have aC:=H_ P;have aB:=H_ aJ;have aw:=H_ c;have ax:=H_ Q;clear P M Q aJ c)
    all_goals
     have v:=zaa aw.out 3 (.slice va S.events.length m);have l:Fr (fun b=>b=f) K (K.setCell ⟨f,3,none⟩ (.slice va S.events.length m)):=(Fr.refl _ K).setAt 3 _;have aj:=L.out.heap aV.out (fun e=>by have G:w.heap.size=f:=e;omega);have ah:=aB.out.heap (show wr.drew.heap[w.heap.size]?=_ from aj) (fun h=>h);have C:=l.heap ah (fun e=>by have G:w.heap.size=f:=e;omega)
     have ak:=aC.out.fr l fun b hb e=>by
      have G:b=f:=e;have x:=ax.out b hb;rcases x with x | x
      · simp [Value.ownBlock] at x
      have h2:wr.heap.size<=b:=x
      omega
     have an:=((HO.out.fr0 (Fr.refl No wr).drew).fr0 aB.out).fr l fun b hb e=>by
      have G:b=f:=e;exact bC.out (by rw [<-G];exact hb)
     have bj:Fr No w (K.setCell ⟨f,3,none⟩ (.slice va S.events.length m)):=(a5.out.drew.trans0 aB.out).trans l fun b hb e=>by
      have G:b=f:=e;omega
     generalize K.setCell ⟨f,3,none⟩ (.slice va S.events.length m)=W5 at *;have bY:∃ row,W5.heap[f]?=some (.cells row 42 (0,0))/\row=#[.int .i64 S.rev,.int .i64 S.mark,.slice oa (zap S S.T S.mark).length z,.slice va S.events.length m]:=⟨_,v,by simp⟩;obtain ⟨row,v,rfl⟩:=bY;obtain ⟨s0,s1,s2,s3⟩:=cells4 v;obtain ⟨t0,t1,t2,t3⟩:=cells4 C;have tf:∀ i,W5.frozen? ⟨w.heap.size,i,none⟩=false:=fun i=>by simp [World.frozen?,C]
     have d9:=zab C;have cZ:=zab v;obtain ⟨Z,hZ,a4,ad⟩:=zwa C (.int .i64 S.rev) (.int .i64 S.mark) (.slice oa (zap S S.T S.mark).length z) (.slice va S.events.length m);have b6:=H_ an;have aZ:=H_ ak;have bG:=H_ bj;have HZ:=H_ hZ;have bJ:=H_ a4;have aD:=H_ ad;clear v l aj ah C ak an bj hZ a4 ad v3 ck l4;go_wp2;rw [HZ.out];have cU:=a5.out.size;refine bodyPost_ret (results_cell_row rfl _ _ w.heap.size 42 _ (0,0) _ rfl bJ.out Tryz.underlying42 rfl (by kernel_rfl)) rfl ⟨.slice oa (zap S S.T S.mark).length z,.slice va S.events.length m,rfl,?_,?_,?_,fun b hb=>?_,fun b hb=>?_⟩
     · refine b6.out.fr aD.out fun b hb e=>?_
       have G:b=w.heap.size:=e;have x:=B.out b hb;omega
     · refine (by simpa using aZ.out:SlF W5 101 13 evC (.slice va S.events.length m) S.events).fr aD.out fun b hb e=>?_
       have G:b=w.heap.size:=e;rcases ax.out b hb with x | x
       · simp [Value.ownBlock] at x
       have h2:wr.heap.size<=b:=x
       omega
     · exact bG.out.trans aD.out fun b hb e=>by
        have G:b=w.heap.size:=e;omega
     · have x:=B.out b hb
       omega
     rcases ax.out b hb with x | x
     · simp [Value.ownBlock] at x
     have h2:wr.heap.size<=b:=x
     omega
  | succ g =>
    have bU:(i:Int)<(S.T.length:Int):=(by omega);obtain ⟨gb,go,rfl⟩:=bD.out (by omega);obtain ⟨q,hq⟩:∃ q,S.T[i]?=some q:=⟨_,List.getElem?_eq_getElem (by omega)⟩;have a1:=bF.out.fr L.out (fun b hb e=>by have G:b=f:=e;have:=bE.out b hb;omega);have x0:=a1.cell0 zae i hq rfl;have x1:=a1.cell zae i 1 hq rfl;obtain ⟨H,hH⟩:=bB.out q (List.mem_of_getElem? hq);have ar:oneL S S.mark q=if (hadH H S.mark).2 then some (hadH H S.mark).1 else none:=(by unfold oneL;rw [hH])
    have a2:zap S (S.T.take (i+1)) S.mark=zap S (S.T.take i) S.mark++(oneL S S.mark q).toList:=by
     unfold zap;rw [List.take_add_one,hq,List.filterMap_append];cases h:oneL S S.mark q <;> simp [h]
    have ba:=H_ a2;have az:=H_ ar;have a6:=H_ hH;have HQ:=H_ hq;clear a2 ar hH hq a1;rcases hr:hadH H S.mark with ⟨⟨r1,r2,r3,I,J,r6⟩,rb⟩
    rw [hr] at az;have HR:=H_ hr;clear hr;have cR:(zap S (S.T.take i) S.mark).length<=S.T.length:=Nat.le_trans (List.length_filterMap_le _ _) (by simp;omega);go_upto_region 7 with fail;have aH:=zad wr (Obj.cells #[.string q.1,.int .i64 q.2] 122) _ rfl;have a8:Fr No wr (wr.alloc (Obj.cells #[.string q.1,.int .i64 q.2] 122)):=(Fr.refl No wr).alloc _;generalize wr.alloc (Obj.cells #[.string q.1,.int .i64 q.2] 122)=d at *;have k1:=cellAt aH 1 rfl;have k4:=a8.cell0 r4;have lk:=zab aH;have cg:s<d.heap.size:=Nat.lt_of_lt_of_le ch a8.size;have b0:=H_ a8;clear a8 aH;have X:Fr No d (d.alloc (Obj.cells #[.string ⟨#[]⟩,.string ⟨#[]⟩,.int .i64 0,.int .i64 0,.int .i64 0,.int .i64 0] 99)):=(Fr.refl No d).alloc _
    have bn:(d.alloc (Obj.cells #[.string ⟨#[]⟩,.string ⟨#[]⟩,.int .i64 0,.int .i64 0,.int .i64 0,.int .i64 0] 99)).heap[d.heap.size]?=some (.cells #[.string ⟨#[]⟩,.string ⟨#[]⟩,.int .i64 0,.int .i64 0,.int .i64 0,.int .i64 0] 99 (0,0)):=zad _ _ _ rfl;have af:=X.cell0 k4;have ae:=X.cell0 k1;have b1:d.cell? ⟨s,4,none⟩=some (.int .i64 S.mark)/\d.cell? ⟨wr.heap.size,1,none⟩=some (.int .i64 q.2):=⟨k4,k1⟩;have b2:d.drew.cell? ⟨s,4,none⟩=some (.int .i64 S.mark)/\d.drew.cell? ⟨wr.heap.size,1,none⟩=some (.int .i64 q.2):=⟨k4,k1⟩;have b3:=And.intro af ae
    have b4:(d.alloc (Obj.cells #[.string ⟨#[]⟩,.string ⟨#[]⟩,.int .i64 0,.int .i64 0,.int .i64 0,.int .i64 0] 99)).drew.cell? ⟨s,4,none⟩=some (.int .i64 S.mark)/\(d.alloc (Obj.cells #[.string ⟨#[]⟩,.string ⟨#[]⟩,.int .i64 0,.int .i64 0,.int .i64 0,.int .i64 0] 99)).drew.cell? ⟨wr.heap.size,1,none⟩=some (.int .i64 q.2):=⟨af,ae⟩;have x:=bP.out.fr0 hT (a5.out.trans0 b0.out);have h2:=x.fr0 hT (Fr.refl No d).drew;have h3:=x.fr0 hT X;have h4:=h3.fr0 hT (Fr.refl No _).drew;have C1:=H_ (HH.out _ x q.2 H a6.out);have C2:=H_ (HH.out _ h2 q.2 H a6.out);have C3:=H_ (HH.out _ h3 q.2 H a6.out);have C4:=H_ (HH.out _ h4 q.2 H a6.out);have bK:=H_ bn;have b5:=H_ X;clear x h2 h3 h4 bn X
    go_cut [6,7] (fun s6 s7 wx=>∃ b:Nat,s6=.pointer (some ⟨b,0,none⟩)/\s7=.bool rb/\Hid (wx.heap[b]?=some (.cells #[.string r1,.string r2,.int .i64 r3,.int .i64 I,.int .i64 J,.int .i64 r6] 99 (0,0)))/\Hid (Fr No d wx))
    case first =>
     go_region_held3 (fun W=>W.cell? ⟨s,4,none⟩=some (.int .i64 S.mark)/\W.cell? ⟨wr.heap.size,1,none⟩=some (.int .i64 q.2))
      (first | with_reducible exact b1 | with_reducible exact b2 | with_reducible exact b3 | with_reducible exact b4 | with_reducible exact A | with_reducible exact kv | with_reducible exact ku | with_reducible exact kt | with_reducible exact bq | with_reducible exact ce | with_reducible exact cd | with_reducible exact cc)
      (first
        | (go_at_call 62;first | refine C1.out.mono ?_ | refine C2.out.mono ?_
           rintro e r ⟨rfl,y⟩;rw [HR.out];unfold zct kvV;have A:r.cell? ⟨s,4,none⟩=some (.int .i64 S.mark)/\r.cell? ⟨wr.heap.size,1,none⟩=some (.int .i64 q.2):=⟨y.cell0 k4,y.cell0 k1⟩;have ab:Fr No r (r.alloc (Obj.cells #[.string ⟨#[]⟩,.string ⟨#[]⟩,.int .i64 0,.int .i64 0,.int .i64 0,.int .i64 0] 99)):=(Fr.refl No r).alloc _;have kv:=And.intro (ab.cell0 A.1) (ab.cell0 A.2);have Y:Fr No r r.drew:=(Fr.refl No r).drew;have bq:=And.intro (Y.cell0 A.1) (Y.cell0 A.2);have ce:=And.intro (ab.drew.cell0 A.1) (ab.drew.cell0 A.2);have aa:Fr No r (r.alloc (Obj.cells #[.string r1,.string r2,.int .i64 r3,.int .i64 I,.int .i64 J,.int .i64 r6] 99)):=(Fr.refl No r).alloc _;have ku:=And.intro (aa.cell0 A.1) (aa.cell0 A.2);have cd:=And.intro (aa.drew.cell0 A.1) (aa.drew.cell0 A.2)
           have aA:Hid (Fr No d r):=by first | exact H_ y | exact H_ ((Fr.refl No d).drew.trans0 y))
        | (go_at_call 62;first | refine C3.out.mono ?_ | refine C4.out.mono ?_
           rintro e r ⟨rfl,y⟩;rw [HR.out];unfold zct kvV;have A:r.cell? ⟨s,4,none⟩=some (.int .i64 S.mark)/\r.cell? ⟨wr.heap.size,1,none⟩=some (.int .i64 q.2):=⟨y.cell0 af,y.cell0 ae⟩;have a3:r.heap[d.heap.size]?=some (.cells #[.string ⟨#[]⟩,.string ⟨#[]⟩,.int .i64 0,.int .i64 0,.int .i64 0,.int .i64 0] 99 (0,0)):=y.heap bK.out (fun h=>h);obtain ⟨z0,z1,z2,z3,z4,z5⟩:=cells6 a3;have zf:∀ i,r.frozen? ⟨d.heap.size,i,none⟩=false:=fun i=>by unfold World.frozen?;dsimp only;rw [a3];simp
           have da:=zab a3;have l:Fr (fun b=>b=d.heap.size) r ((((((r.setCell ⟨d.heap.size,0,none⟩ (.string r1)).setCell ⟨d.heap.size,1,none⟩ (.string r2)).setCell ⟨d.heap.size,2,none⟩ (.int .i64 r3)).setCell ⟨d.heap.size,3,none⟩ (.int .i64 I)).setCell ⟨d.heap.size,4,none⟩ (.int .i64 J)).setCell ⟨d.heap.size,5,none⟩ (.int .i64 r6)):=((((((Fr.refl _ r).setAt 0 _).setAt 1 _).setAt 2 _).setAt 3 _).setAt 4 _).setAt 5 _;have kt:=And.intro (l.cell A.1 (fun e=>by have G:s=d.heap.size:=e;omega)) (l.cell A.2 (fun e=>by have G:wr.heap.size=d.heap.size:=e;omega));have Y:Fr No r r.drew:=(Fr.refl No r).drew;have bq:=And.intro (Y.cell0 A.1) (Y.cell0 A.2)
           have cc:=And.intro (l.drew.cell A.1 (fun e=>by have G:s=d.heap.size:=e;omega)) (l.drew.cell A.2 (fun e=>by have G:wr.heap.size=d.heap.size:=e;omega));have aA:Hid (Fr No d r):=(by first | exact H_ (b5.out.trans0 y) | exact H_ (b5.out.drew.trans0 y));have bI:=H_ a3;clear a3))
     · go_wp2
       go_meet
       case rel=>exact ⟨_,rfl,rfl,H_ (zad _ _ _ rfl),H_ (aA.out.alloc _)⟩
     obtain ⟨Z,hZ,a4,ad⟩:=zkn (w:=d) bI.out ⟨r1,r2,r3,I,J,r6⟩
     dsimp only at hZ a4;rw [hZ];go_wp2;go_meet
     case rel=>exact ⟨_,rfl,rfl,H_ a4,H_ (ad aA.out (Nat.le_refl _))⟩
    case rest =>
     obtain ⟨b,rfl,rfl,aY,HX⟩:=hcut;have a9:Fr No wr wc:=b0.out.trans0 HX.out;have ay:=H_ a9;have R:=a9.heap E.out id;have d1:=zab aY.out;have d8:=zab R;have e2:=cellAt R 2 rfl;have cM:∀ j,wc.frozen? ⟨f,j,none⟩=false:=fun j=>by unfold World.frozen?;dsimp only;rw [R];simp
     obtain ⟨y0,y1,y2,y3,y4,y5⟩:=cells6 aY.out;have aX:=H_ R;have b9:=H_ (HO.out.fr0 a9);clear a9 R x0 x1 k4 k1 af ae b1 b4 lk cg r0 r4 r5 b2 b3 bN;cases rb
     · have HE:Hid (zap S (S.T.take (i+1)) S.mark=zap S (S.T.take i) S.mark):=H_ (by rw [ba.out,az.out];simp)
       go_wp2;go_roundg g
       case rel=>exact ⟨i+1,_,by go_num,by omega,aX,H_ (by rw [HE.out];exact b9.out),H_ (L.out.trans0 ay.out),B⟩
       case measure=>omega
     have HE:Hid (zap S (S.T.take (i+1)) S.mark=zap S (S.T.take i) S.mark++[⟨r1,r2,r3,I,J,r6⟩]):=H_ (by rw [ba.out,az.out];simp)
     have ap:=zbb wc (kvC ⟨r1,r2,r3,I,J,r6⟩) 99 (0,0);have aq:(Value.slice oa (zap S (S.T.take i) S.mark).length z).ownBlock≠some f:=fun h=>by have:=B.out f h;omega
     have bz:=H_ aq;clear aq;go_wp2_with (at_builtin;refine zat rfl _ _ 27 rfl 99 i0 _ 6 64 Tryz.underlying27 bT c9 ca cb rfl (by decide) _ (zap S (S.T.take i) S.mark) rfl (b9.out.alloc _) wc.heap.size 1 (⟨r1,r2,r3,I,J,r6⟩:Kv) rfl ap rfl ?c1 ?c2 ?c3 ?_)
     case c1=>intro u hu;simp [kvC] at hu;rcases hu with rfl | rfl | rfl | rfl | rfl | rfl <;> rfl
     case c2=>unfold maxLen;omega
     case c3=>omega
     intro g1 o' cap K P bg Q cv;have M:Fr (fun k=>(Value.slice oa (zap S (S.T.take i) S.mark).length z).ownBlock=some k) wc K:=((Fr.refl _ wc).alloc _).grown bg fun k hk=>.inl hk;have c:=M.heap aX.out bz.out;have v2:=cellAt c 2 rfl;have de:∀ j,K.frozen? ⟨f,j,none⟩=false:=fun j=>by unfold World.frozen?;dsimp only;rw [c];simp
     have l4:=zab c
     have bS:w7.heap.size<=g1:=by
      rcases Q with e | e
      · exact B.out _ e
      have x:=L.out.size
      have h2:=ay.out.size
      try simp at e
      omega
     have aC:=H_ P;have bw:=H_ M;have aw:=H_ c;clear P bg Q ap M c;go_wp2;go_roundg g
     case rel =>
      have v:=zaa aw.out 2 (.slice (some ⟨g1,o',none⟩) ((zap S (S.T.take i) S.mark).length+1) cap);have l:Fr (fun b=>b=f) K (K.setCell ⟨f,2,none⟩ (.slice (some ⟨g1,o',none⟩) ((zap S (S.T.take i) S.mark).length+1) cap)):=(Fr.refl _ K).setAt 2 _
      have bl:=aC.out.fr l fun b hb e=>by
       have G:b=f:=e;obtain rfl:g1=b:=by simpa [Value.ownBlock] using hb
       omega
      refine ⟨i+1,.slice (some ⟨g1,o',none⟩) ((zap S (S.T.take i) S.mark).length+1) cap,by go_num,by omega,H_ (by rw [v];simp),H_ (by rw [HE.out];simpa using bl),H_ (((L.out.trans0 ay.out).trans bw.out fun b hb h=>?_).trans l fun b hb e=>e),H_ fun b hb=>?_⟩
      · have:=B.out b h;omega
      obtain rfl:g1=b:=by simpa [Value.ownBlock] using hb
      exact bS
     case measure=>omega
theorem SlF.apart {α β:Type} {f:α->List Value} {g:β->List Value} {w:World} {e1 e2 s1 s2:Nat} {v1 v2:Value} {L1:List α} {L2:List β} (h1:SlF w e1 s1 f v1 L1) (h2:SlF w e2 s2 g v2 L2) (hne:e1≠e2):∀ b,v1.ownBlock=some b->v2.ownBlock≠some b:=by
 intro b a c;unfold SlF Sl at h1 h2;obtain ⟨_,h1 | ⟨k,m,i,o,h1,e,_⟩⟩:=h1
 · rw [h1.1] at a
   simp [Value.ownBlock] at a
 obtain ⟨_,h2 | ⟨l,n,j,p,h2,d,_⟩⟩:=h2
 · rw [h2.1] at c
   simp [Value.ownBlock] at c
 subst h1 h2
 simp only [Value.ownBlock,Option.some.injEq] at a c;rw [a] at e;rw [c] at d;rw [e] at d
 injection d with d
 injection d with _ d _
 exact hne d
theorem zlr (P:Program) (w:World) (a:Addr) (fn:Fn) (first cap:Array Value) {u:Value} (hc:w.cell? a=some u) (hf:w.frozen? a=false):(store a (.func fn first cap)).run P w=.ok () (w.setCell a (.func fn first cap)):=by
 rw [run_store P w a _ _ rfl,hc];simp [hf]
theorem zcs {P:Program} {w:World} {ops:Array Oper} {rest:List Oper} {o:Oper} {a:Act} {Q:Exit->Act->World->Prop} (hgd:o.guard=none) (t:TypeId) (x y:Operand) (hop:o.op=Op.store t x y) (g i:Nat) (u:Value) (fn:Fn) (first cap:Array Value) (hx:a.eval x=.pointer (some ⟨g,i,none⟩)) (hy:a.eval y=.func fn first cap)
 (hz:(Go.sizeOf t).run P w=.ok 1 w) (hc:w.cell? ⟨g,i,none⟩=some u) (hf:w.frozen? ⟨g,i,none⟩=false) (hK:wpList P ops Q rest (a.put o.dst undef) (w.setCell ⟨g,i,none⟩ (.func fn first cap))):wpList P ops Q (o :: rest) a w:=by
 refine wpList_plain hgd fun K' hK'=>?_;have c:=zlr P w ⟨g,i,none⟩ fn first cap hc hf
 have b:(Instr.storeAt t (.pointer (some ⟨g,i,none⟩)) (.func fn first cap)).run P w=.ok () (w.setCell ⟨g,i,none⟩ (.func fn first cap)):=by
  simp [Instr.storeAt,Instr.sureAddr,storeVar,hz,Value.cells,storeCells,Addr.add,Result.andThen,c]
 unfold Oper.wp;simp [execOp,hop,hx,hy,b,Result.andThen];exact hK' _ _ hK
theorem zzan (n:Int) (l:List UInt8):numB n++l≠[]:=fun h=>by
 have h1:=congrArg List.length h;rw [List.length_append,zam] at h1;simp at h1
theorem stB_ne (rev mark:Int) (kvs:List Kv) (evs:List Ev):stB rev mark kvs evs≠[]:=by
 unfold stB;simp only [List.append_assoc];exact zzan _ _
set_option maxHeartbeats 4000000 in
theorem zhg (w:World) (rev mark:Int) (vk ve:Value) (kvs:List Kv) (evs:List Ev) (hk:SlF w 99 6 kvC vk kvs) (he:SlF w 101 13 evC ve evs) (hdis:∀ b,vk.ownBlock=some b->ve.ownBlock≠some b) (hsz:(stB rev mark kvs evs).length<=140737488355328) (hl1:kvs.length<=100000000) (hl2:evs.length<=100000000) :
 Calls Tryz.prog 92 #[stateV rev mark vk ve] w fun e w'=>e=.returned (.string ⟨(stB rev mark kvs evs).toArray⟩)/\Fr (fun b=>vk.ownBlock=some b\/ve.ownBlock=some b) w w':=by
 obtain ⟨v,d,rfl,_,_,_⟩:=hk.shape;obtain ⟨ea,a,rfl,_,_,_⟩:=he.shape;have ap:∀ (fn:Fn) (first cap:Array Value) (w:World),(Instr.makeFunc fn first cap).run Tryz.prog w=.ok (.func fn first cap) w:=fun _ _ _ _=>rfl;have J:=hk.lt;have G:=he.lt;have hX:=zai (zad w (Obj.cells #[.int .i64 rev,.int .i64 mark,.slice v kvs.length d,.slice ea evs.length a] 42) _ rfl) (Obj.cells #[.pointer none,.slice none 0 0] 205);have hB:=zad (w.alloc (Obj.cells #[.int .i64 rev,.int .i64 mark,.slice v kvs.length d,.slice ea evs.length a] 42)) (Obj.cells #[.pointer none,.slice none 0 0] 205) (w.heap.size+1) (by simp)
 have H:Fr No w ((w.alloc (Obj.cells #[.int .i64 rev,.int .i64 mark,.slice v kvs.length d,.slice ea evs.length a] 42)).alloc (Obj.cells #[.pointer none,.slice none 0 0] 205)):=((Fr.refl No w).alloc _).alloc _;have L:((w.alloc (Obj.cells #[.int .i64 rev,.int .i64 mark,.slice v kvs.length d,.slice ea evs.length a] 42)).alloc (Obj.cells #[.pointer none,.slice none 0 0] 205)).heap.size=w.heap.size+2:=by simp
 have HK:=H_ hk;have HE:=H_ he;have z:=H_ hdis;have V:=H_ J;have Q:=H_ G;have HX:=H_ hX;have HB:=H_ hB;have R:=H_ H;have X:=H_ L;clear hk he hdis J G hX hB H L;unfold stateV;go_enter Tryz.func92,Tryz.ntmps92;go_upto_region 2 with fail;generalize (w.alloc (Obj.cells #[.int .i64 rev,.int .i64 mark,.slice v kvs.length d,.slice ea evs.length a] 42)).alloc (Obj.cells #[.pointer none,.slice none 0 0] 205)=k at *;obtain ⟨f,g⟩:∃ f,f=k.heap.size:=⟨_,rfl⟩;have t:=H_ g;have m:f=w.heap.size+2:=by rw [g,X.out]
 have s:=H_ m;clear m
 go_cut [4] (fun s4 wx=>s4=.pointer (some ⟨f,0,none⟩)/\Hid (wx.heap[f]?=some (.cells #[.func (.func 134) #[] #[.pointer (some ⟨w.heap.size+1,0,none⟩)]] 154 (0,0)))/\Hid (Fr No k wx))
 case first =>
  have O:=zad k (Obj.cells #[.nilFunc] 154) _ rfl;have a1:(k.alloc (Obj.cells #[.nilFunc] 154)).cell? ⟨k.heap.size,0,none⟩=some .nilFunc:=cellAt O 0 rfl;have a3:(k.alloc (Obj.cells #[.nilFunc] 154)).frozen? ⟨k.heap.size,0,none⟩=false:=(by unfold World.frozen?;rw [O];rfl);have HN:=H_ O;clear O g;go_wp2_with (with_reducible show wpList _ _ _ ({ dst:=none,op:=Op.store 154 _ _,type:=_,pos:=_,after:=_,guard:=_ } :: _) _ _;refine zcs rfl 154 _ _ rfl k.heap.size 0 .nilFunc (.func 134) #[] #[.pointer (some ⟨w.heap.size+1,0,none⟩)] rfl rfl (Tryz.sizeOf154 _) a1 a3 ?_);go_meet
  case rel=>exact ⟨by rw [t.out],H_ (by rw [t.out];first | (rw [zaa HN.out];rfl) | exact zad _ _ _ rfl),H_ (by first | exact ((Fr.refl No k).alloc _).setCell (p:=⟨k.heap.size,0,none⟩) (.inr (Nat.le_refl _)) _ | exact (Fr.refl No k).alloc _)⟩
 case rest =>
 obtain ⟨rfl,W,S⟩:=hcut;generalize u:wc=i at *;clear u g;have n:=W.out;have q:=S.out;have n0:i.cell? ⟨f,0,none⟩=some (.func (.func 134) #[] #[.pointer (some ⟨w.heap.size+1,0,none⟩)]):=cellAt n 0 rfl;have ln:=zab n;go_upto_region 4 with fail;obtain ⟨c,o⟩:∃ c,c=i.heap.size:=⟨_,rfl⟩;have y:=H_ o;have K:f<c:=by rw [o];exact ln
 have N:=zad i (Obj.cells #[.func (.func 134) #[] #[.pointer (some ⟨w.heap.size+1,0,none⟩)],.nilFunc,.bool false] 157) _ rfl;have F:(i.alloc (Obj.cells #[.func (.func 134) #[] #[.pointer (some ⟨w.heap.size+1,0,none⟩)],.nilFunc,.bool false] 157)).cell? ⟨i.heap.size,1,none⟩=some .nilFunc:=cellAt N 1 rfl;have I:(i.alloc (Obj.cells #[.func (.func 134) #[] #[.pointer (some ⟨w.heap.size+1,0,none⟩)],.nilFunc,.bool false] 157)).frozen? ⟨i.heap.size,1,none⟩=false:=by unfold World.frozen?;rw [N];rfl
 have HC:=H_ N;clear N
 go_cut [5] (fun s5 wx=>s5=.pointer (some ⟨c,0,none⟩)/\Hid (wx.heap[c]?=some (.cells #[.func (.func 134) #[] #[.pointer (some ⟨w.heap.size+1,0,none⟩)],.func (.func 136) #[] #[.pointer (some ⟨f,0,none⟩),.pointer (some ⟨w.heap.size+1,0,none⟩)],.bool false] 157 (0,0)))/\Hid (Fr No i wx))
 case first =>
  clear o K;go_wp2_with (with_reducible show wpList _ _ _ ({ dst:=none,op:=Op.store 155 _ _,type:=_,pos:=_,after:=_,guard:=_ } :: _) _ _;refine zcs rfl 155 _ _ rfl i.heap.size 1 .nilFunc (.func 136) #[] #[.pointer (some ⟨f,0,none⟩),.pointer (some ⟨w.heap.size+1,0,none⟩)] rfl rfl (Tryz.sizeOf155 _) F I ?_);go_meet
  case rel=>exact ⟨by rw [y.out],H_ (by rw [y.out];first | (rw [zaa HC.out];rfl) | exact zad _ _ _ rfl),H_ (by first | exact ((Fr.refl No i).alloc _).setCell (p:=⟨i.heap.size,1,none⟩) (.inr (Nat.le_refl _)) _ | exact (Fr.refl No i).alloc _)⟩
 case rest =>
 obtain ⟨rfl,P,T⟩:=hcut;generalize u:wc=B at *;clear u o F I;have D:=P.out;have l:=T.out;clear ln;have ln:f<c:=K;have m:=s.out;have r:Fr No w B:=R.out.trans0 (q.trans0 l)
 have C:(wrC c f (w.heap.size+1)).At B [] (fun x=>x=c\/x=f\/x=w.heap.size+1):=by
  refine ⟨.slice none 0 0,⟨.pointer none,.inl rfl,(q.trans0 l).heap HB.out id,World.ownsRowF_nil _ _ _ _,by simp [Value.ownBlock]⟩,⟨157,D⟩,⟨154,l.heap n id⟩,by omega,by omega,by omega,by simp [Value.ownBlock],by simp [Value.ownBlock],fun x=>by simp [Value.ownBlock]⟩
 have E:Calls Tryz.prog 96 #[.pointer (some ⟨c,0,none⟩),.pointer (some ⟨w.heap.size,0,none⟩)] B (fun Z w'=>Z=.returned (.tuple #[])/\StP (wrC c f (w.heap.size+1)) B (fun x=>x=c\/x=f\/x=w.heap.size+1) w.heap.size 42 (.slice v kvs.length d) (.slice ea evs.length a) (stB rev mark kvs evs) rev mark kvs evs w'):=zgr (wrC_ok c f (w.heap.size+1)) B [] (fun x=>x=c\/x=f\/x=w.heap.size+1) w.heap.size 42 rev mark (.slice v kvs.length d) (.slice ea evs.length a) kvs evs kvs.length evs.length (stB rev mark kvs evs) rev mark kvs evs
  C ((q.trans0 l).heap HX.out id) (by omega) (HK.out.fr0 r) (HE.out.fr0 r) (fun b hb=>by have:=V.out b hb;exact ⟨by omega,by omega⟩) (fun b hb=>by have:=Q.out b hb;exact ⟨by omega,by omega⟩) z.out (by rw [zzaf];exact StW.wr rev mark kvs evs) hsz (by omega) (by omega)
 have Y:=H_ E;have A:=H_ r;clear E C D n q l r n0 m;go_upto_region 6 with (go_at_call 96;(with_reducible refine Y.out.mono ?_);rintro Z w5 ⟨rfl,M⟩);obtain ⟨F5,aw,av,a5,g5,k5,e5,f5,n5,_⟩:=M;obtain ⟨v5,b5,_,_,_,_,_,_,_,a0⟩:=a5;have hS:=zlf w5 (w.heap.size+1) _ v5 b5 (stB_ne rev mark kvs evs);have aq:=A.out.size;have m:=s.out
 have a4:∀ x,v5.ownBlock=some x->w.heap.size<=x:=fun x hx=>by
  rcases n5 x ((a0 x).2 (.inr (.inr (.inr hx)))) with (h | h | h) | h <;> omega
 have HS:=H_ hS;have U:=H_ f5;clear hS f5 b5 k5 e5 g5 n5;go_wp2_with (go_at_call 138;refine HS.out.mono ?_;rintro Z w6 ⟨rfl,a2⟩);go_ret;refine ⟨rfl,((A.out.mono fun _ _ h=>h.elim).trans U.out fun j hj h=>?_).trans a2 fun j hj h=>?_⟩
 · rcases h with (h | h | h) | h | h | h
   · omega
   · omega
   · omega
   · omega
   · exact .inl h
   exact .inr h
 have:=a4 j h
 omega
theorem zea (l:List UInt8) (a b:Nat):(⟨l.toArray⟩:ByteArray).extract a b=⟨((l.drop a).take (b-a)).toArray⟩:=by
 apply ByteArray.ext;rw [ByteArray.data_extract];simp []
def rdK (s:Rd) (n:Int):Rd×List UInt8:=if n<0\/(s.1.length:Int)<n then ((s.1,true),[]) else ((s.1.drop n.toNat,s.2),s.1.take n.toNat)
theorem rdN_K (s:Rd):rdN s=((rdK s 8).1,numR (rdK s 8).2):=by
 unfold rdN rdK;by_cases h:s.1.length<8
 · rw [if_pos h,if_pos (.inr (by omega))]
   have a:numR []=0:=(by simp [numR,valN,wrap64]);dsimp only;rw [a]
 rw [if_neg h,if_neg (by omega)]
 rfl
theorem rdT_K (s:Rd):rdT s=((rdK (rdN s).1 (rdN s).2).1,⟨(rdK (rdN s).1 (rdN s).2).2.toArray⟩):=by
 unfold rdT rdK;dsimp only
 split <;> rfl
set_option maxHeartbeats 4000000 in
theorem zil (w:World) (lb cb c:Nat) (l:List UInt8) (bad:Bool) (f0 f1:Value) (n:Int) (h1:Has w lb [.string ⟨l.toArray⟩]) (h2:Has w cb [.pointer (some ⟨c,0,none⟩)]) (h3:Has w c [f0,f1,.bool bad]) (hlc:lb≠c) (_hcc:cb≠c) (_hl:l.length<=1099511627776) :
 Calls Tryz.prog 93 (#[.int .i64 n] ++ #[.pointer (some ⟨lb,0,none⟩),.pointer (some ⟨cb,0,none⟩)]) w fun en w'=>en=.returned (.string ⟨(rdK (l,bad) n).2.toArray⟩)/\Has w' lb [.string ⟨(rdK (l,bad) n).1.1.toArray⟩]/\Has w' c [f0,f1,.bool (rdK (l,bad) n).1.2]/\Fr (fun x=>x=lb\/x=c) w w':=by
 have r:=h1.cell 0 rfl;have s:=h2.cell 0 rfl;have t:=h3.cell 2 rfl;have u:=h1.free 0;have v:=h3.free 2;have y:=h1.lt;have z:=h2.lt;have A:=h3.lt;have q:(⟨l.toArray⟩:ByteArray).size=l.length:=by simp [ByteArray.size]
 have f:=H_ h1;have g:=H_ h3;clear h1 h2 h3
 have b:∀ (Z:ByteArray),Z=⟨l.toArray⟩->Has ((w.setCell ⟨c,2,none⟩ (.bool true)).setCell ⟨lb,0,none⟩ (.string Z)) lb [.string ⟨l.toArray⟩]/\Has ((w.setCell ⟨c,2,none⟩ (.bool true)).setCell ⟨lb,0,none⟩ (.string Z)) c [f0,f1,.bool true]/\Fr (fun x=>x=lb\/x=c) w ((w.setCell ⟨c,2,none⟩ (.bool true)).setCell ⟨lb,0,none⟩ (.string Z)):=fun Z hZ=>by
  subst hZ;exact ⟨(f.out.other ⟨c,2,none⟩ _ hlc).set 0 _,(g.out.set 2 (.bool true)).other ⟨lb,0,none⟩ _ (fun e=>hlc e.symm),(((Fr.refl _ w).setCell (p:=⟨c,2,none⟩) (.inl (.inr rfl)) _).setCell (p:=⟨lb,0,none⟩) (.inl (.inl rfl)) _)⟩
 have a:=H_ b;clear b;by_cases hn:n<0
 · have i:decide (n<0)=true:=decide_eq_true hn
   have d:Hid (rdK (l,bad) n=((l,true),[])):=H_ (by unfold rdK;rw [if_pos (.inl hn)]);go_enter Tryz.func93,Tryz.ntmps93;go_wp2_with fail;go_ret;rw [d.out];exact ⟨rfl,a.out _ (by rw [zea];simp)⟩
 have i:decide (n<0)=false:=decide_eq_false hn
 by_cases hb:(l.length:Int)<n
 · have j:decide (n > (l.length:Int))=true:=decide_eq_true hb
   have d:Hid (rdK (l,bad) n=((l,true),[])):=H_ (by unfold rdK;rw [if_pos (.inr hb)]);go_enter Tryz.func93,Tryz.ntmps93;go_wp2_with fail;go_ret;rw [d.out];exact ⟨rfl,a.out _ (by rw [zea];simp)⟩
 have j:decide (n > (l.length:Int))=false:=decide_eq_false hb
 have o:0<=n:=(by omega);have d:Hid (rdK (l,bad) n=((l.drop n.toNat,bad),l.take n.toNat)):=H_ (by unfold rdK;rw [if_neg (by rintro (h | h);exact hn h;exact hb h)]);go_enter Tryz.func93,Tryz.ntmps93;go_wp2_with fail;go_ret;rw [d.out];have k:(⟨l.toArray⟩:ByteArray).extract 0 n.toNat=⟨(l.take n.toNat).toArray⟩:=(by rw [zea];simp)
 have m:(⟨l.toArray⟩:ByteArray).extract n.toNat l.length=⟨(l.drop n.toNat).toArray⟩:=by
  rw [zea,List.take_of_length_le (by rw [List.length_drop];omega)]
 rw [k,m];exact ⟨rfl,f.out.set 0 _,g.out.other ⟨lb,0,none⟩ _ (fun e=>hlc e.symm),(Fr.refl _ w).setCell (p:=⟨lb,0,none⟩) (.inl (.inl rfl)) _⟩
theorem Fr.freezeAt {S:Nat->Prop} {a w:World} (h:Fr S a w) (p:Addr) (n:Nat) (hg:S p.block\/a.heap.size<=p.block):Fr S a (w.freeze p n):=by
 unfold World.freeze
 split
 · exact h
 refine ⟨h.os,h.tape,h.output,by simpa using h.size,fun i hi hs=>?_⟩
 rw [<-h.block i hi hs];simp only [Array.getElem?_modify]
 split
 · rename_i e
   rcases hg with b | b
   · exact absurd (e▸b) hs
   exact absurd hi (by omega)
 rfl
theorem zvs:∀ (l:List UInt8) (v:Nat),l.foldl (fun v d=>v * 256+d.toNat) v<(v+1) * 256 ^ l.length:=by
 intro l
 induction l with
 | nil=>intro v;simp
 | cons d l ih =>
   intro v;rw [List.foldl_cons,List.length_cons,Nat.pow_succ];have a:=ih (v * 256+d.toNat);have e:=d.toNat_lt;have b:(v * 256+d.toNat+1) * 256 ^ l.length<=((v+1) * 256) * 256 ^ l.length:=Nat.mul_le_mul_right _ (by omega);have c:(v+1) * (256 ^ l.length * 256)=((v+1) * 256) * 256 ^ l.length:=(by rw [Nat.mul_comm (256 ^ l.length) 256,Nat.mul_assoc]);omega
theorem zvq {ks:List UInt8} {k:Nat} (hk:k<ks.length) (h8:ks.length<=8):valN (ks.take k)<72057594037927936:=by
 have h:=zvs (ks.take k) 0;have a:(ks.take k).length=k:=by rw [List.length_take];omega
 rw [a] at h;have b:(256:Nat) ^ k<=256 ^ 7:=Nat.pow_le_pow_right (by decide) (by omega);have c:(256:Nat) ^ 7=72057594037927936:=rfl;have d:valN (ks.take k)<(0+1) * 256 ^ k:=h;omega
theorem zvr {ks:List UInt8} {k:Nat} (hk:k<ks.length):valN (ks.take (k+1))=valN (ks.take k) * 256+(ks[k]?.getD 0).toNat:=by
 rw [List.take_add_one,List.getElem?_eq_getElem hk,Option.toList_some,zol]
 rfl
theorem wrap_u64 (n:Int):IntKind.u64.wrap n=n % 18446744073709551616:=by simp [IntKind.wrap,IntKind.bits,IntKind.signed]
theorem zjo (n:Int) (h0:0<=n) (h1:n<2 ^ 64):IntKind.u64.wrap n=n:=by rw [wrap_u64];omega
theorem zzal {V d:Nat} (hV:V<72057594037927936) (hd:d<256):bits BinOp.or IntKind.u64 (IntKind.u64.wrap ((V:Int) * 256)) (IntKind.u64.wrap (d:Int))=((V * 256+d:Nat):Int):=by
 rw [zjo _ (by omega) (by omega),zjo _ (by omega) (by omega),bits_join .u64 64 (by decide) zjo 8 _ _ (by omega) (by omega) (by omega) (by omega) (by omega) (by omega)];omega
set_option maxHeartbeats 4000000 in
theorem zkd (w:World) (lb cb c tb:Nat) (l:List UInt8) (bad:Bool) (f0 f1:Value) (g i:Nat) (e:TypeId) (cs:List Value) (n0:Int) (h1:Has w lb [.string ⟨l.toArray⟩]) (h2:Has w cb [.pointer (some ⟨c,0,none⟩)]) (h3:Has w c [f0,f1,.bool bad]) (h4:Has w tb [.func (.func 93) #[] #[.pointer (some ⟨lb,0,none⟩),.pointer (some ⟨cb,0,none⟩)]])
 (hlc:lb≠c) (hcc:cb≠c) (hl:l.length<=1099511627776) (hg:w.heap[g]?=some (.cells cs.toArray e (0,0))) (hi:cs[i]?=some (.int .i64 n0)) (hgl:g≠lb) (hgc:g≠c) :
 Calls Tryz.prog 94 (#[.pointer (some ⟨g,i,none⟩)] ++ #[.pointer (some ⟨tb,0,none⟩)]) w fun en w'=>en=.returned (.tuple #[])/\Has w' lb [.string ⟨(rdN (l,bad)).1.1.toArray⟩]/\Has w' c [f0,f1,.bool (rdN (l,bad)).1.2]/\w'.heap[g]?=some (.cells (cs.set i (.int .i64 (rdN (l,bad)).2)).toArray e (0,0))/\Fr (fun x=>x=lb\/x=c\/x=g) w w':=by
 have T:=h4.cell 0 rfl;have lt:=h4.lt
 have A:(rdK (l,bad) 8).2.length<=8:=by
  unfold rdK
  split
  · simp
  simp;omega
 have I:=H_ (zil w lb cb c l bad f0 f1 8 h1 h2 h3 hlc hcc hl);have G:=H_ hg;have H:=H_ hi;clear h1 h2 h3 hg hi;rw [rdN_K];generalize rdK (l,bad) 8=K at *;obtain ⟨⟨R,M⟩,ks⟩:=K;dsimp only at *;have D:(⟨ks.toArray⟩:ByteArray).size=ks.length:=by simp [ByteArray.size]
 go_enter Tryz.func94,Tryz.ntmps94;go_wp2_with (go_at_call 93;refine I.out.mono ?_;rintro en w1 ⟨rfl,E,F,v⟩;have z:=Lib.run_convert_string_bytes (P:=Tryz.prog) w1 9 90 5 ⟨ks.toArray⟩ Tryz.underlying9 Tryz.underlying90 Tryz.underlying5);have a:Fr No w1 (Lib.bytesWorld w1 5 ⟨ks.toArray⟩):=((Fr.refl No w1).drew.alloc _).freezeAt _ _ (.inr (Nat.le_refl _));have f:=fun j (hj:j<(⟨ks.toArray⟩:ByteArray).size)=>Lib.bytesWorld_cell w1 5 ⟨ks.toArray⟩ j hj;clear z;generalize Lib.bytesWorld w1 5 ⟨ks.toArray⟩=J at *;have s:=H_ f;have m:=a.heap (v.heap G.out (by rintro (h | h);exact hgl h;exact hgc h)) id;have b:=H_ m;have n:=H_ (E.fr a id);have o:=H_ (F.fr a id);have r:=H_ (v.trans0 a);clear f E F v a m
 go_loopg [3,10] ks.length (fun q s3 s10 wr=>∃ k:Nat,s3=.int .u64 (valN (ks.take k):Int)/\s10=.int .i64 k/\k+q=ks.length/\wr=J)
 case atStart=>exact ⟨0,rfl,rfl,by simp,rfl⟩
 case round =>
  obtain ⟨k,rfl,rfl,Q,rfl⟩:=hrel
  cases gk with
  | zero =>
    have C:¬ (k:Int)<(ks.length:Int):=(by omega);have B:ks.take k=ks:=List.take_of_length_le (by omega);rw [B];have N:wr.cell? ⟨g,i,none⟩=some (.int .i64 n0):=cellAt b.out i (by simpa using H.out);have O:wr.frozen? ⟨g,i,none⟩=false:=(by unfold World.frozen?;rw [b.out];rfl);have S:=zab b.out;go_wp2_with fail;refine bodyPost_end (results_none rfl _ _ _) rfl ⟨rfl,?_,?_,?_,?_⟩
    · exact n.out.other ⟨g,i,none⟩ _ (fun e=>hgl e.symm)
    · exact o.out.other ⟨g,i,none⟩ _ (fun e=>hgc e.symm)
    · rw [zaa b.out]
      simp [numR]
    exact (r.out.mono fun x _ h=>by
     rcases h with h | h
     · exact .inl h
     exact .inr (.inl h)).setCell (p:=⟨g,i,none⟩) (.inl (.inr (.inr rfl))) _
  | succ q =>
    have C:(k:Int)<(ks.length:Int):=(by omega);have y:=s.out k (by rw [D];omega);have L:=World.block_lt_of_cell? _ _ y;have u:=H_ (zzal (zvq (k:=k) (by omega) A) (d:=(ks[k]?.getD 0).toNat) (UInt8.toNat_lt _));have t:=H_ (zvr (ks:=ks) (k:=k) (by omega));go_wp2_with fail;go_roundg q
    case rel=>exact ⟨k+1,by rw [u.out,t.out],by go_num,by omega,rfl⟩
    case measure=>omega
end Go.Proofs.YthljnnjpmdgkoaaGreat