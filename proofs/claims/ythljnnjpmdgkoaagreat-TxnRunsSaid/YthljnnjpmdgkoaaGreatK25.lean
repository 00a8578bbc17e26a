/- Own lemmas. -/
import Derived.Test.YthljnnjpmdgkoaaGreatK23
import Derived.Test.YthljnnjpmdgkoaaGreatK24
import Derived.Test.YthljnnjpmdgkoaaGreatK17
import Derived.Test.YthljnnjpmdgkoaaGreatK06
import Derived.Deep.DeepCutAuto
namespace Go.Proofs.YthljnnjpmdgkoaaGreat
open Go Go.Proofs Go.RowKit
set_option maxRecDepth 100000
structure TreeDl (TA:zaq):Prop where
 del:∀ {w t T F} (key:ByteArray),TA w t T F->Calls Tryz.prog 103 #[.pointer (some ⟨t,0,none⟩),.string key] w fun e w'=>e=.returned (zcw (getT T key))/\∃ F',TA w' t (delT T key) F'/\Fr F w w'/\(∀ b,F' b->F b\/w.heap.size<=b)
structure CompGk (S:St) (rev:Int):Prop where
 r1:rev<=S.rev
 r2:S.mark<rev
 evs:0<S.events.length
 nodup:(S.T.map (·.2)).Nodup
 srt:Sorted S.T
 hist:∀ p∈S.T,∀ H,S.past p.2=some H->Fits (compK rev H.gens)/\∃ l:List Int,l.length<=1099511627/\∀ r,H.kvs r≠none->r∈l
def hist8 (rev:Int) (H:Hist):Hist:={ H with gens:=compK rev H.gens }
theorem zxm {rev:Int} {H:Hist} {out:List Int} (h:∀ r,r∈out↔goneK (hist8 rev H) rev r) (r:Int):(if r∈out then none else (H.kvs r).map kvV)=((compH rev H).kvs r).map kvV:=by
 have a:goneK (hist8 rev H) rev r↔H.kvs r≠none/\r<=rev/\r≠(atK (compK rev H.gens) rev).1.2.1:=Iff.rfl;unfold compH;dsimp only;by_cases hr:r∈out
 · have:=a.1 ((h r).1 hr)
   rw [if_pos hr,if_pos ⟨this.2.1,this.2.2⟩]
   rfl
 rw [if_neg hr]
 split
 · rename_i hc
   cases hk:H.kvs r with
   | none=>rfl
   | some y=>exact absurd ((h r).2 (a.2 ⟨by rw [hk];simp,hc⟩)) hr
 rfl
theorem zxw {out:List Int} {k:Nat} {c:Int} (hc:out[k]?=some c) (f:Int->Option Value):(fun m=>if m=c then none else (fun r=>if r∈out.take k then none else f r) m)=fun r=>if r∈out.take (k+1) then none else f r:=by
 funext m
 rw [List.take_add_one,hc];by_cases h:m=c
 · simp [h]
 simp [h]
set_option maxHeartbeats 16000000 in
theorem zkr {TA:zaq} {N:Nat} (hT:TreeOk TA N) (hTD:TreeDl TA) {n:Nat} (hn:n<=1099511627) (w:World) (s:Nat) (S:St) (F:Nat->Prop) (hS:zak TA w s S F) (hok:StOk n S) (hN:S.T.length<=1099511627) (rev:Int) (hc:CompGk S rev) :
 Calls Tryz.prog 50 #[.pointer (some ⟨s,0,none⟩),.int .i64 rev] w fun e w'=>e=.returned (.int .i64 0)/\∃ F',zak TA w' s (compS rev S) F'/\Fr F w w'/\(∀ b,F' b->F b\/w.heap.size<=b):=by
 obtain ⟨t,p,ev,hp,FT,FH,a,hF⟩:=hS;have c0:=a.obj.cell 0 rfl;have c1:=a.obj.cell 1 rfl;have c3:=a.obj.cell 3 rfl;have c4:=a.obj.cell 4 rfl;have ls:=a.obj.lt;have r1:=hc.r1;have r2:=hc.r2;have eF:=hok.ev;have eD:∀ (fn:Fn) (first cap:Array Value) (w:World),(Instr.makeFunc fn first cap).run Tryz.prog w=.ok (.func fn first cap) w:=fun _ _ _ _=>rfl;have E:=H_ a;have Z:=H_ hF;have HC:=H_ hc;have b5:=H_ hok;clear a hF hc hok;go_enter Tryz.func50,Tryz.ntmps50;go_upto_region 3 with fail;have ap:=zad w (Obj.cells #[.int .i64 rev] 3) _ rfl;have ah:Fr No w (w.alloc (Obj.cells #[.int .i64 rev] 3)):=(Fr.refl No w).alloc _;generalize w.alloc (Obj.cells #[.int .i64 rev] 3)=W0 at ap ah ⊢
 have b0:W0.cell? ⟨w.heap.size,0,none⟩=some (.int .i64 rev):=cellAt ap 0 rfl;have d3:=ah.cell0 c3;have d4:=ah.cell0 c4;have lb:=zaa ap;have cm:s<W0.heap.size:=Nat.lt_of_lt_of_le ls ah.size
 go_quiet (fail)
 have hq:=Fr.drewN No W0 nq;have b1:=hq.cell0 b0;have e4:=hq.cell0 d4;have aQ:w.heap.size<(W0.drewN nq).heap.size:=lb;have aY:s<(W0.drewN nq).heap.size:=cm;have bY:Fr No w (W0.drewN nq):=ah.trans0 hq;have bj:=hq.heap ap id;generalize W0.drewN nq=O at *;clear b0 d3 d4 lb cm hq ah ap;go_upto_region 5 with fail
 go_quiet (fail)
 have hq:=Fr.drewN No O nq;have al:Fr No w (O.drewN nq):=bY.trans0 hq;have X:=hq.heap bj id;generalize O.drewN nq=W2 at al X hq ⊢
 have a1:Has W2 s [.pointer (some ⟨t,0,none⟩),.map (some p),.int .i64 S.next,.int .i64 S.rev,.int .i64 S.mark,ev]:=E.out.obj.fr al id;have dV:=al.size;have f4:=a1.free 4;have d4:=a1.cell 4 rfl;have ax:=a1.lt;have b2:W2.cell? ⟨w.heap.size,0,none⟩=some (.int .i64 rev):=cellAt X 0 rfl;have aK:=zaa X;clear b1 e4 aQ aY bY bj hq;go_upto_region 8 with fail;have K:=a1.set 4 (.int .i64 rev);have aI:Fr (fun b=>b=s) W2 (W2.setCell ⟨s,4,none⟩ (.int .i64 rev)):=(Fr.refl _ W2).setAt 4 _;have aB:=aI.heap X (fun e=>by have y:w.heap.size=s:=e;omega);have aH:Fr (fun b=>b=s) w (W2.setCell ⟨s,4,none⟩ (.int .i64 rev)):=(al.mono fun _ _ h=>h.elim).trans aI fun _ _ h=>h;generalize W2.setCell ⟨s,4,none⟩ (.int .i64 rev)=W3 at K aB aH ⊢
 have aG:SlF W3 101 13 evC ev S.events:=E.out.events.fr aH fun b hb e=>E.out.ds.2.1 (by have y:b=s:=e;rw [<-y];exact hb);have c5:=K.cell 5 rfl;have f5:=K.free 5;have dA:=K.lt;have ei:=aH.size;obtain ⟨ea,cv,rfl,eP,eR,eQ⟩:=aG.shape;have bb:=H_ aG;have b3:=H_ K;have aM:=H_ aB;have cp:=H_ aH;clear f4 d4 ax b2 aK a1 aI X al aG K aB aH
 go_upto_region 9 with (first
  | (go_at_call 99;refine (zhi W3 _ S.events bb.out HC.out.evs (by omega)).mono ?_;rintro e w4 ⟨cg,co,eh,rfl,cb,bO,et⟩)
  | (go_at_call 98
     have cF:=bO.heap aM.out id;have e0:=zaa aM.out;refine (zqb w4 _ S.events w.heap.size rev (by simp [World.cell?,cF]) cb (fun e=>by simp [Value.ownBlock] at e;omega) (by omega)).mono ?_;rintro e w5 ⟨dv,rfl,a2,ca,av⟩;obtain ⟨da,l,rfl,_,_,_⟩:=a2.shape;have b4:=H_ a2;have aP:Hid (∀ b,(Value.slice da (S.events.filter (keptB rev)).length l).ownBlock=some b->W3.heap.size<=b):=H_ (fun b hb=>by have:=av b hb;simp [Value.ownBlock] at this;omega);have C:Fr No W3 w5:=bO.trans ca fun b hb h=>by simp [Value.ownBlock] at h;omega
     have dm:=C.free0 c5 f5;have d6:=C.cell0 c5;have cZ:s<w5.heap.size:=Nat.lt_of_lt_of_le dA C.size))
 have aU:Has (w5.setCell ⟨s,5,none⟩ (.slice da (S.events.filter (keptB rev)).length l)) s [.pointer (some ⟨t,0,none⟩),.map (some p),.int .i64 S.next,.int .i64 S.rev,.int .i64 rev,.slice da (S.events.filter (keptB rev)).length l]:=(b3.out.fr C id).set 5 _;have a8:Fr (fun b=>b=s) w5 (w5.setCell ⟨s,5,none⟩ (.slice da (S.events.filter (keptB rev)).length l)):=(Fr.refl _ w5).setAt 5 _;have aq:Fr (fun b=>b=s) w (w5.setCell ⟨s,5,none⟩ (.slice da (S.events.filter (keptB rev)).length l)):=(cp.out.trans0 C).trans a8 fun _ _ h=>h;have ba:=a8.heap (C.heap aM.out id) (fun e=>by have y:w.heap.size=s:=e;omega)
 have bl:SlF (w5.setCell ⟨s,5,none⟩ (.slice da (S.events.filter (keptB rev)).length l)) 101 13 evC (.slice da (S.events.filter (keptB rev)).length l) (S.events.filter (keptB rev)):=b4.out.fr a8 fun b hb e=>by have y:b=s:=e;have:=aP.out b hb;omega
 have bg:=H_ bl;clear bl;generalize w5.setCell ⟨s,5,none⟩ (.slice da (S.events.filter (keptB rev)).length l)=W6 at *;have a3:TA W6 t S.T FT:=hT.fr E.out.tree aq fun b hb e=>E.out.ds.1 (by have y:b=s:=e;rw [<-y];exact hb)
 have b7:MapAt W6 p fun i=>(hp i).map fun h=>.pointer (some ⟨h,0,none⟩):=E.out.map.fr aq fun e=>by
  have y:p=s:=e;exact E.out.map.apart E.out.obj y
 have L:∀ i H,S.past i=some H->∃ h,hp i=some h/\HistAt W6 h H (FH i):=fun i H hi=>by
  obtain ⟨h,h1,h2⟩:=E.out.hist i H hi;exact ⟨h,h1,h2.fr aq fun b hb e=>E.out.ds.2.2 i (by have y:b=s:=e;rw [<-y];exact hb)⟩
 have cN:=aU.cell 0 rfl;have eE:=aU.lt;have am:=fun W (h:Fr No W6 W)=>hT.range (w:=W) (t:=t) (T:=S.T) (F:=FT) ⟨#[]⟩ ⟨#[]⟩ (hT.fr a3 h fun _ _ s=>s);simp only [zho] at am;have V:=fun W (h:Fr No W6 W)=>hT.len (w:=W) (t:=t) (T:=S.T) (F:=FT) (hT.fr a3 h fun _ _ s=>s);have b8:=H_ am;have b9:=H_ V;have cz:=H_ aU;have bs:=H_ aq;have cx:=H_ ba;have cA:=H_ b7;have ce:=H_ L;clear am V aU aq ba b7 L a3 a8 C dm d6 cZ cb bO a2 ca av
 go_region_held3 (fun W=>W.cell? ⟨s,0,none⟩=some (.pointer (some ⟨t,0,none⟩)))
  (first | assumption | exact aW.cell0 cN)
  (first
    | (go_at_call 61;refine (b9.out _ (by (repeat (first | with_reducible exact Fr.refl _ _ | with_reducible refine Fr.drew ?_));done)).mono ?_;rintro e w' ⟨rfl,rfl⟩)
    | (go_at_call 60;refine (b8.out _ (by (repeat (first | with_reducible exact Fr.refl _ _ | with_reducible refine Fr.drew ?_));done)).mono ?_;rintro e w7 ⟨pv,rfl,bF,aW,cC⟩;obtain ⟨pa,ch,rfl,ae,eM,cO⟩:=bF.shape))
 have aE:Fr F w W6:=bs.out.mono fun b _ e=>by
  have y:b=s:=e;rw [y];exact (Z.out s).2 (.inl rfl)
 have U:Fr No W6 w7:=(by first | exact aW | exact (Fr.refl No W6).drew.trans0 aW);have aC:∀ b,F b->b<w.heap.size:=fun b hb=>E.out.lt hT b ((Z.out b).1 hb);have f0:w.heap.size<=W6.heap.size:=aE.size;have bd:∀ b,(Value.slice pa S.T.length ch).ownBlock=some b->W6.heap.size<=b:=fun b hb=>by have:=cC b hb;have h':W6.heap.size<=b:=this;omega
 -- the store behind the events were cut
 have J:=aP.out;have cM:∀ b,(Value.slice ea S.events.length cv).ownBlock=some b->b<w.heap.size:=E.out.events.lt
 have bL:StoreR TA W6 s t p (.slice da (S.events.filter (keptB rev)).length l) hp FT FH (compTo rev S 0):=by
  rw [zqd]
  exact {
   obj:=cz.out
   tree:=hT.fr E.out.tree bs.out fun b hb e=>E.out.ds.1 (by have y:b=s:=e;rw [<-y];exact hb)
   map:=cA.out
   events:=bg.out
   hist:=ce.out
   gone:=E.out.gone
   ds:=⟨E.out.ds.1,fun h=>by have:=J s h;omega,E.out.ds.2.2⟩
   dp:=⟨E.out.dp.1,fun h=>by have:=J p h;have:=E.out.map.lt;omega,E.out.dp.2.2⟩
   dt:=fun b hb=>⟨fun h=>by have:=J b h;have:=hT.lt E.out.tree b hb;omega,(E.out.dt b hb).2⟩
   de:=fun b hb i h=>by have:=J b hb;have:=aC b ((Z.out b).2 (.inr (.inr (.inr (.inr ⟨i,h⟩)))));omega
   dh:=E.out.dh }
 have cn:=bL.fr hT U fun _ _ h=>h
 have hG:∀ b,storeF s p (.slice da (S.events.filter (keptB rev)).length l) FT FH b->(F b\/W3.heap.size<=b)/\b<W6.heap.size:=fun b hb=>by
  refine ⟨?_,bL.lt hT b hb⟩;rcases hb with h | h | h | h | h
  · exact .inl ((Z.out b).2 (.inl h))
  · exact .inl ((Z.out b).2 (.inr (.inl h)))
  · exact .inl ((Z.out b).2 (.inr (.inr (.inl h))))
  · exact .inr (J b h)
  exact .inl ((Z.out b).2 (.inr (.inr (.inr (.inr h)))))
 have cS:=U.heap cx.out id;have aL:Fr F w w7:=aE.trans0 U;have bx:=H_ aL;have dN:=H_ cn;have aR:=H_ hG;have cl:=H_ cS;have dz:=H_ bF;have dn:=H_ bd;have du:=H_ aC;have dM:=H_ cO;have ek:W6.heap.size<=w7.heap.size:=U.size
 have cY:Hid (s<w.heap.size/\∀ i H,S.past i=some H->(Lit.int .i64 i).wf=true):=H_ ⟨ls,fun i H hi=>by
  have:=b5.out.ids i H hi;have:=b5.out.next;exact wf64 (by omega) (by omega)⟩
 have eK:w.heap.size<W3.heap.size:=zaa aM.out;clear aE U aC bd bF cO aL bL cn hG cS cC aW cN J cM b8 b9 cz bs cx cA ce bb b3 aM cp bg b4 aP;generalize ck:(Value.slice da (S.events.filter (keptB rev)).length l)=B at *;clear ck;go_wp2
 go_loopg [52] S.T.length (fun gg s52 wr=>∃ (i:Nat) (ae:Int->Option Nat) (v:Nat->Prop) (u:Int->Nat->Prop),s52=.int .i64 i/\i+gg=S.T.length/\Hid (StoreR TA wr s t p B ae v u (compTo rev S i)) ∧
  Hid (∀ b,storeF s p B v u b->storeF s p B FT FH b\/w7.heap.size<=b)/\Hid (Fr (storeF s p B FT FH) w7 wr))
 case atStart=>exact ⟨0,hp,FT,FH,rfl,by simp,dN,H_ (fun b h=>.inl h),H_ (Fr.refl _ _)⟩
 case round =>
  obtain ⟨i,ae,v,u,rfl,hi,HR,A,ad⟩:=hrel
  have I:∀ {W:World},Fr (storeF s p B FT FH) w7 W->Fr F w W:=fun {W} h=>bx.out.trans h fun b hb hx=>by
   rcases (aR.out b hx).1 with h | h
   · exact h
   omega
  have ci:Hid (∀ {W:World},Fr (storeF s p B FT FH) w7 W->Fr F w W):=H_ I;clear I
  cases gk with
  | zero =>
    have db:¬ (i:Int)<(S.T.length:Int):=(by omega);have dJ:i=S.T.length:=(by omega);subst dJ;go_wp2;go_ret;refine ⟨rfl,storeF s p B v u,⟨t,p,B,ae,v,u,HR.out,fun b=>Iff.rfl⟩,ci.out ad.out,fun b hb=>?_⟩;rcases A.out b hb with h | h
    · rcases (aR.out b h).1 with h | h
      · exact .inl h
      exact .inr (by omega)
    exact .inr (by omega)
  | succ gg =>
    have db:(i:Int)<(S.T.length:Int):=(by omega);obtain ⟨gb,go,rfl⟩:=dM.out (by omega);obtain ⟨⟨key,id⟩,hx⟩:∃ q,S.T[i]?=some q:=⟨_,List.getElem?_eq_getElem (by omega)⟩;have aw:=dz.out.fr ad.out (fun b hb h=>by have:=dn.out b hb;have:=(aR.out b h).2;omega);have x0:=aw.cell0 zag i hx rfl;have x1:=aw.cell zag i 1 hx rfl;obtain ⟨H,hH⟩:=b5.out.id _ (List.mem_of_getElem? hx);dsimp only at hH;obtain ⟨c9,c2⟩:=HC.out.hist _ (List.mem_of_getElem? hx) H hH;have cG:(compTo rev S i).past id=some H:=(zqe HC.out.nodup hx).trans hH;obtain ⟨h,bD,L⟩:=HR.out.hist id H cG;have bz:(Lit.int .i64 id).wf=true:=cY.out.2 id H hH;have bk:=(b5.out.hist _ _ hH).1;obtain ⟨g,m,FK,b,c8⟩:=L
    have cB:((ae id).map fun h=>Value.pointer (some ⟨h,0,none⟩)).getD (.pointer none)=.pointer (some ⟨h,0,none⟩):=(by rw [bD];rfl);have c1:=HR.out.obj.cell 1 rfl;have h0:=b.obj.cell 0 rfl
    have bP:¬ storeF s p B FT FH w.heap.size:=fun hb=>by
     rcases (aR.out _ hb).1 with h | h
     · have:=du.out _ h;omega
     omega
    have cR:¬ storeF s p B v u w.heap.size:=fun hb=>by
     have h7:=zaa cl.out;rcases A.out _ hb with h | h
     · exact bP h
     omega
    have a6:=ad.out.heap cl.out bP;have bn:=cellAt a6 0 rfl;have cj:=HR.out.obj.lt;have bV:=b.obj.lt;have cr:=zaa a6
    have cP:∀ W,Fr No wr W->W.cell? ⟨s,1,none⟩=some (.map (some p))/\(Instr.lookup 105 (.map (some p)) (.int .i64 id) false).run Tryz.prog W=.ok (.pointer (some ⟨h,0,none⟩)) W/\W.cell? ⟨h,0,none⟩=some (.pointer (some ⟨g,0,none⟩))/\W.cell? ⟨w.heap.size,0,none⟩=some (.int .i64 rev):=by
     intro W hW;refine ⟨hW.cell0 c1,?_,hW.cell0 h0,hW.cell0 bn⟩;have:=MapAt.look (P:=Tryz.prog) (t:=105) (HR.out.map.fr hW fun h=>h) Tryz.underlying105 Tryz.underlying3 bz (zero142 _);rw [cB] at this;exact this
    have cf:=fun W (hW:Fr No wr W)=>zhd W g H.gens H.last rev FK (b.key.fr hW fun _ _ h=>h) (bk.fits hn);have cH:∀ b,u id b->storeF s p B v u b:=fun b hb=>.inr (.inr (.inr (.inr ⟨_,hb⟩)));have aX:=H_ cH;have bt:=H_ cP;have ay:=H_ cf;have di:=H_ c9;have dH:=H_ c2;have o:=H_ b;have ab:=H_ c8;have HX:=H_ hx;have bZ:=H_ hH;have cy:=H_ bD;have cq:=H_ bz;have eI:=H_ a6;clear cB cP cf b c8 hx c9 c2 bk hH cG bn h0 c1 aw bD bz cH a6 bP;go_upto_region 12 with fail;have ag:=zad wr (Obj.cells #[.string key,.int .i64 id] 122) _ rfl;have Q:Fr No wr (wr.alloc (Obj.cells #[.string key,.int .i64 id] 122)):=(Fr.refl No wr).alloc _;generalize wr.alloc (Obj.cells #[.string key,.int .i64 id] 122)=O at ag Q ⊢
    have k1:=cellAt ag 1 rfl;have lk:=zaa ag;have aY:s<O.heap.size:=Nat.lt_of_lt_of_le cj Q.size;have cE:h<O.heap.size:=Nat.lt_of_lt_of_le bV Q.size;have aQ:w.heap.size<O.heap.size:=Nat.lt_of_lt_of_le cr Q.size;obtain ⟨q1,q2,q3,q4⟩:=bt.out O Q;have bW:(Instr.lookup 105 (.map (some p)) (.int .i64 id) false).run Tryz.prog O.drew=.ok (.pointer (some ⟨h,0,none⟩)) O.drew:=(bt.out O.drew Q.drew).2.1
    go_region_held3 (fun W=>W.cell? ⟨s,1,none⟩=some (.map (some p))/\W.cell? ⟨wr.heap.size,1,none⟩=some (.int .i64 id)/\(Instr.lookup 105 (.map (some p)) (.int .i64 id) false).run Tryz.prog W=.ok (.pointer (some ⟨h,0,none⟩)) W)
     (first | exact ⟨q1,k1,q2⟩ | exact ⟨q1,k1,bW⟩)
     (fail)
    have aa:Fr No wr O.drew:=Q.drew;have an:O.drew.heap[wr.heap.size]?=some (.cells #[.string key,.int .i64 id] 122 (0,0)):=ag;have ax:s<O.drew.heap.size:=aY;have bI:h<O.drew.heap.size:=cE;have aK:w.heap.size<O.drew.heap.size:=aQ;have bK:wr.heap.size<O.drew.heap.size:=lk;generalize O.drew=W2 at aa an ax bI aK bK ⊢
    have y0:=o.out.obj.fr aa (fun h=>h) |>.cell 0 rfl;have y1:=(bt.out W2 aa).2.2.2;have d0:=H_ an;clear q1 q2 q3 q4 bW k1 ag Q lk aY cE aQ an;go_upto_region 13 with fail;have bH:¬ FK w.heap.size:=fun hb=>cR (aX.out _ ((ab.out _).2 (.inr (.inr hb))));have nh:¬ FK h:=o.out.d1;have be:=aa.drew;have cs:=H_ aa;have a5:=H_ be;clear aa be;by_cases hck:compK rev H.gens = []
    · rw [hck] at ay
      simp only [List.length_nil,Nat.lt_irrefl,decide_false] at ay
      go_region_held3 (fun W=>W.cell? ⟨h,0,none⟩=some (.pointer (some ⟨g,0,none⟩))/\W.cell? ⟨w.heap.size,0,none⟩=some (.int .i64 rev))
       (first | exact ⟨y0,y1⟩ | exact ⟨z.cell y0 nh,z.cell y1 bH⟩)
       (first | (go_at_call 102;refine (ay.out _ (by first | with_reducible exact cs.out | with_reducible exact a5.out)).mono ?_;rintro e Y ⟨rfl,z,D,ai,d⟩))
      have f:Fr FK wr Y:=(a5.out.mono fun _ _ h=>h.elim).trans z fun _ _ h=>h;have aN:HistAt Y h (hist8 rev H) (fun b=>b=h\/b=m\/D b):=⟨g,m,D,⟨o.out.obj.fr f o.out.d1,by unfold hist8;rw [hck];exact ai,o.out.map.fr f o.out.d2,fun h'=>o.out.d1 (d _ h'),fun h'=>o.out.d2 (d _ h')⟩,fun b=>Iff.rfl⟩;have au:Fr (u id) wr Y:=f.mono fun b _ h=>(ab.out b).2 (.inr (.inr h));have aT:=HR.out.setHist hT cy.out au aN (fun b hb=>.inl ((ab.out b).2 (hb.imp (fun h=>h) (Or.imp (fun h=>h) (d b)))));have z0:=aT.obj.cell 0 rfl;have a7:=z.heap (show W2.drew.heap[wr.heap.size]?=_ from d0.out) (fun hb=>by have:=o.out.key.lt _ hb;omega);have z1:=cellAt a7 0 rfl;have eA:=zaa a7;have d9:s<Y.heap.size:=Nat.lt_of_lt_of_le cj f.size
      have cu:=fun W (hW:Fr No Y W)=>hTD.del (w:=W) (t:=t) (T:=(compTo rev S i).T) (F:=v) key (hT.fr aT.tree hW fun _ _ h=>h);have dg:=H_ cu;have dl:=H_ aT;have bo:=H_ au;have cw:=H_ a7;have dD:¬ v s:=HR.out.ds.1;have cD:¬ v wr.heap.size:=fun hb=>by have:=hT.lt HR.out.tree _ hb;omega
      clear f aN ai z cu aT au a7 y0 y1 ax bI aK bK d;go_upto_region 14 with fail
      go_region_held3 (fun W=>W.cell? ⟨s,0,none⟩=some (.pointer (some ⟨t,0,none⟩))/\W.cell? ⟨wr.heap.size,0,none⟩=some (.string key))
       (first | exact ⟨z0,z1⟩ | exact ⟨M.cell z0 dD,M.cell z1 cD⟩)
       (first | (go_at_call 103;refine (dg.out _ (by (repeat (first | with_reducible exact Fr.refl _ _ | with_reducible refine Fr.drew ?_));done)).mono ?_;rintro e w9 ⟨rfl,df,bX,M,bJ⟩))
      have R:Fr v Y w9:=(by first | exact M | exact ((Fr.refl No Y).drew.mono fun _ _ h=>h.elim).trans M fun _ _ h=>h);have ar:=dl.out.setTree hT R bX bJ;have u1:=ar.obj.cell 1 rfl;have aA:=R.heap cw.out cD;have u2:=cellAt aA 1 rfl;have eG:=zaa aA;have eo:s<w9.heap.size:=Nat.lt_of_lt_of_le d9 R.size;obtain ⟨dC,cI,r1,r2,r3⟩:=ar.map.drop (P:=Tryz.prog) Tryz.underlying105 Tryz.underlying3 cq.out 0;obtain ⟨ey,dK,r4,r5,r6⟩:=(ar.map.fr (Fr.refl No w9).drew fun h=>h).drop (P:=Tryz.prog) Tryz.underlying105 Tryz.underlying3 cq.out 0;have dj:=H_ ar;have R1:=H_ r1;have R2:=H_ r2;have R4:=H_ r4;have R5:=H_ r5;have bi:=H_ R;have dF:=H_ bJ;clear ar R aA bX M bJ z0 z1 r1 r2 r4 r5;go_upto_region 15 with fail
      go_region
      have bN:=H_ hck;clear hck;go_wp2;go_roundg gg
      case rel =>
       have hq:Fr No w9 w9.drew:=(Fr.refl No w9).drew;have dB:=(dj.out.fr hT hq fun _ _ h=>h).dropHist hT id R5.out R4.out
       have he:compTo rev S (i+1) = { { { compTo rev S i with past:=fun i_1=>if i_1=id then some (hist8 rev H) else (compTo rev S i).past i_1 } with T:=delT (compTo rev S i).T key } with past:=fun i_1=>if i_1=id then none else if i_1=id then some (hist8 rev H) else (compTo rev S i).past i_1 }:=by
        rw [zqg HC.out.srt HX.out bZ.out bN.out];dsimp only
        congr 1
        funext j
        by_cases hj:j=id <;> simp [hj]
       have f1:=ad.out.size;have ez:=bo.out.size;have ew:=bi.out.size;refine ⟨i+1,_,df,_,by go_num,by omega,H_ (by rw [he];exact dB),H_ fun b hb=>?_,H_ ((((ad.out.trans bo.out fun b hb h=>?_).trans bi.out fun b hb h=>?_).trans0 hq).trans R5.out fun b hb h=>?_)⟩
       · rcases hb with h | h | h | h | ⟨j,hj,h⟩
         · exact A.out b (.inl h)
         · exact A.out b (.inr (.inl h))
         · rcases dF.out b h with h | h
           · exact A.out b (.inr (.inr (.inl h)))
           exact .inr (by have h':Y.heap.size<=b:=h;omega)
         · exact A.out b (.inr (.inr (.inr (.inl h))))
         rw [if_neg hj] at h
         exact A.out b (aX.out b |> fun _=>.inr (.inr (.inr (.inr ⟨j,h⟩))))
       · rcases A.out b (aX.out b h) with h | h
         · exact h
         omega
       · rcases A.out b (.inr (.inr (.inl h))) with h | h
         · exact h
         omega
       have h':b=p:=h
       exact .inr (.inl h')
      case measure=>omega
    have V:0<(compK rev H.gens).length:=List.length_pos_iff.2 hck
    rw [decide_eq_true V] at ay
    go_region_held3 (fun W=>W.cell? ⟨h,0,none⟩=some (.pointer (some ⟨g,0,none⟩))/\W.cell? ⟨w.heap.size,0,none⟩=some (.int .i64 rev))
     (first | exact ⟨y0,y1⟩ | exact ⟨z.cell y0 nh,z.cell y1 bH⟩)
     (first | (go_at_call 102;refine (ay.out _ (by first | with_reducible exact cs.out | with_reducible exact a5.out)).mono ?_;rintro e Y ⟨rfl,z,D,ai,d⟩))
    have f:Fr FK wr Y:=(a5.out.mono fun _ _ h=>h.elim).trans z fun _ _ h=>h;have aN:HistAt Y h (hist8 rev H) (fun b=>b=h\/b=m\/D b):=⟨g,m,D,⟨o.out.obj.fr f o.out.d1,ai,o.out.map.fr f o.out.d2,fun h'=>o.out.d1 (d _ h'),fun h'=>o.out.d2 (d _ h')⟩,fun b=>Iff.rfl⟩;have bU:=zlz Y h (hist8 rev H) rev (fun b=>b=h\/b=m\/D b) aN di.out dH.out;have dk:=H_ bU;have dS:=H_ ai;have aO:=H_ d;have bf:=H_ f;have eX:h<Y.heap.size:=Nat.lt_of_lt_of_le bV f.size;have eZ:w.heap.size<Y.heap.size:=Nat.lt_of_lt_of_le cr f.size;have eB:=z.cell (show W2.drew.cell? ⟨w.heap.size,0,none⟩=some (.int .i64 rev) from y1) bH;clear f aN ai z bU d y0 y1 ax bI aK bK V
    go_wp2_with (go_at_call 104;refine dk.out.mono ?_;rintro e w9 ⟨dv,G,rfl,a2,M,av,bC⟩;obtain ⟨oa,cK,rfl,dL,a1,K⟩:=a2.shape);have az:Fr FK wr w9:=bf.out.trans0 M;have bq:MapAt w9 m fun r=>(H.kvs r).map kvV:=o.out.map.fr az o.out.d2
    have bh:∀ c∈G,(Lit.int .i64 c).wf=true:=fun c hc=>by
     have h1:H.kvs c≠none:=((bC c).1 hc).1;obtain ⟨es,dq,e1,e2,e3,e4⟩:=bq
     cases hkv:H.kvs c with
     | none=>exact absurd hkv h1
     | some x =>
       obtain ⟨en,he,hk,_⟩:=e4 c (kvV x) (by simp [hkv]);obtain ⟨n',cJ,dd,_⟩:=e3 en he;rw [hk] at cJ;cases cJ
       exact dd
    have aF:=H_ az;have dG:=H_ M;have d7:Hid (MapAt w9 m fun r=>if r∈G.take 0 then none else (H.kvs r).map kvV):=H_ (by simpa using bq);have b4:=H_ a2;have dR:Hid (∀ b,(Value.slice oa G.length cK).ownBlock=some b->Y.heap.size<=b):=H_ av;have d5:=H_ bC;have cQ:=H_ bh;have b3:=H_ K;have bN:=H_ hck;clear az bq a2 av bh K bC M hck;obtain ⟨wo,dI⟩:∃ wo,wo=wr:=⟨_,rfl⟩;subst dI
    go_loopg [87] G.length (fun g2 s87 wr2=>∃ k:Nat,s87=.int .i64 k/\k+g2=G.length/\Hid (Fr (fun b=>b=m) w9 wr2)/\Hid (MapAt wr2 m fun r=>if r∈G.take k then none else (H.kvs r).map kvV))
    case atStart=>exact ⟨0,rfl,by simp,H_ (Fr.refl _ w9),d7⟩
    case round =>
     obtain ⟨k,rfl,hk,af,cL⟩:=hrel;have dr:u id m:=(ab.out m).2 (.inr (.inl rfl))
     cases gk with
     | zero =>
       have dw:¬ (k:Int)<(G.length:Int):=(by omega)
       have ct:MapAt wr m fun r=>((compH rev H).kvs r).map kvV:=by
        have h1:=cL.out;rw [List.take_of_length_le (by omega)] at h1;have h2:(fun r=>if r∈G then none else (H.kvs r).map kvV)=fun r=>((compH rev H).kvs r).map kvV:=funext fun r=>zxm d5.out r;rw [h2] at h1;exact h1
       have I:Fr (u id) wo wr:=(aF.out.mono fun b _ h=>(ab.out b).2 (.inr (.inr h))).trans af.out fun b _ e=>by
        have y:b=m:=e;rw [y];exact dr
       have cd:¬ D h:=fun h'=>o.out.d1 (aO.out _ h');have bu:¬ D m:=fun h'=>o.out.d2 (aO.out _ h');have cc:HistAt wr h (compH rev H) (fun b=>b=h\/b=m\/D b):=⟨g,m,D,⟨(o.out.obj.fr aF.out o.out.d1).fr af.out fun e=>o.out.map.apart o.out.obj (by have y:h=m:=e;exact y.symm),(dS.out.fr dG.out fun _ _ h=>h).fr af.out fun b hb e=>bu (by have y:b=m:=e;rw [<-y];exact hb),ct,cd,bu⟩,fun b=>Iff.rfl⟩;have a0:∀ b,(b=h\/b=m\/D b)->u id b:=fun b hb=>(ab.out b).2 (hb.imp (fun h=>h) (Or.imp (fun h=>h) (aO.out b)));have c6:=HR.out.setHist hT cy.out I cc fun b hb=>.inl (a0 b hb);have d8:=H_ c6;have bv:=H_ I;have dP:=H_ a0;clear c6 I a0 cc ct cd bu;go_wp2;go_roundg gg
       case rel =>
        refine ⟨i+1,ae,v,_,by go_num,by omega,H_ (by rw [zqf HX.out bZ.out bN.out];exact d8.out),H_ fun b hb=>?_,H_ (ad.out.trans bv.out fun b hb h=>?_)⟩
        · refine A.out b ?_
          rcases hb with h | h | h | h | ⟨j,h⟩
          · exact .inl h
          · exact .inr (.inl h)
          · exact .inr (.inr (.inl h))
          · exact .inr (.inr (.inr (.inl h)))
          refine .inr (.inr (.inr (.inr ⟨j,?_⟩)))
          by_cases hj:j=id
          · rw [if_pos hj] at h;rw [hj];exact dP.out b h
          rw [if_neg hj] at h;exact h
        rcases A.out b (aX.out b h) with h | h
        · exact h
        omega
       case measure=>omega
     | succ g2 =>
       obtain ⟨ob,oo,rfl⟩:=b3.out (by omega);obtain ⟨c,hc⟩:∃ c,G[k]?=some c:=⟨_,List.getElem?_eq_getElem (by omega)⟩;have dw:(k:Int)<(G.length:Int):=(by omega)
       have ag:(k:Int)+1<=9223372036854775807:=by
        have h1:=dL;have h2:=a1;unfold maxLen at h2;omega
       have eg:m<Y.heap.size:=Nat.lt_of_lt_of_le o.out.map.lt bf.out.size
       have bc:=b4.out.fr af.out fun b hb e=>by
        have y:b=m:=e;have:=dR.out b hb;omega
       have z0:=bc.cell1 zeq k hc rfl;have zh:wr.cell? ⟨h,1,none⟩=some (.map (some m)):=((o.out.obj.fr aF.out o.out.d1).fr af.out fun e=>o.out.map.apart o.out.obj (by have y:h=m:=e;exact y.symm)).cell 1 rfl;have ej:h<wr.heap.size:=(by have:=World.block_lt_of_cell? _ _ zh;exact this);obtain ⟨dC,cI,r1,r2,r3⟩:=cL.out.drop (P:=Tryz.prog) Tryz.underlying169 Tryz.underlying3 (cQ.out c (List.mem_of_getElem? hc)) 0;rw [zxw hc] at r1;have R1:=H_ r1;have R2:=H_ r2;clear r1 r2 bc hc;go_wp2;go_roundg g2
       case rel=>exact ⟨k+1,by go_num,by omega,H_ (af.out.trans R2.out fun _ _ h=>h),R1⟩
       case measure=>omega
def rangeE (S:St) (g:Rg):Int:=if askE g≠0 then askE g else whenE S g.rev
set_option maxHeartbeats 4000000 in
theorem zwe {TA:zaq} {N:Nat} (hT:TreeOk TA N) (w:World) (s:Nat) (S:St) (F:Nat->Prop) (hS:zak TA w s S F) (g:Rg) (hks:g.key.size<=1099511627776) (hE:rangeE S g≠0) :
 Calls Tryz.prog 46 #[.pointer (some ⟨s,0,none⟩),rgV g] w fun e w'=>e=.returned (.tuple #[.slice none 0 0,.int .i64 0,.bool false,.int .i64 (rangeE S g)])/\Fr No w w':=by
 have l:=fun W=>zgf W g hks;have j:=fun W (h:Fr No w W)=>zdx W s S F (hS.fr0 hT h) g.rev;unfold rangeE at *;obtain ⟨p,o,i,q,x,u,n⟩:=g;unfold rgV at *;dsimp only at *;generalize askE _=a at *;generalize whenE S i=b at *;have k:=H_ l;have t:=H_ j;clear l j hks hS;by_cases h1:a=0
 · subst h1
   have f:b≠0:=(by simpa using hE);have r:(b==0)=false:=(by simpa using f);rw [if_neg (by simp)];clear hE;go_enter Tryz.func46,Tryz.ntmps46
   go_wp2_with (first
    | (go_at_call 97;refine (k.out _).mono ?_;rintro e w1 ⟨rfl,d⟩
       have c:Fr No w w1:=((Fr.refl No w).alloc _).trans0 d;have m:w1.heap[w.heap.size]?=some (.cells #[.string p,.string o,.int .i64 i,.int .i64 q,.bool x,.bool u,.bool n] 35 (0,0)):=d.heap (zad _ _ _ rfl) id;have y:w1.cell? ⟨w.heap.size,2,none⟩=some (.int .i64 i):=cellAt m 2 rfl)
    | (go_at_call 84;refine (t.out _ c).mono ?_;rintro e z ⟨rfl,rfl⟩))
   (try simp only [Exit.inBlock,Exit.then]);refine bodyPost_ret (zcj rfl _ _ _) rfl ?_
   exact ⟨rfl,c⟩
 have v:(a==0)=false:=by simpa using h1
 rw [if_pos h1];go_enter Tryz.func46,Tryz.ntmps46;go_wp2_with (go_at_call 97;refine (k.out _).mono ?_;rintro e w1 ⟨rfl,d⟩)
 (try simp only [Exit.inBlock,Exit.then]);refine bodyPost_ret (zcj rfl _ _ _) rfl ?_
 exact ⟨rfl,((Fr.refl No w).alloc _).trans0 d⟩
def badB (S:St) (o:Opr):Bool:=o.kind==3&&whenE S o.rg.rev != 0
theorem zrw {S:St} {ops:List Opr} {i:Nat} {p:Opr} (hj:∀ j,j<i->∀ q,ops[j]?=some q->badB S q=false) (hp:ops[i]?=some p) (h3:badB S p=true):whenAll S ops=whenE S p.rg.rev:=by
 have d:ops.find? (badB S)=some p:=by
  have c:=(List.getElem?_eq_some_iff.1 hp).1
  have f:ops=ops.take i++p :: ops.drop (i+1):=by
   have:=List.take_append_drop i ops;rw [List.drop_eq_getElem_cons c,(List.getElem?_eq_some_iff.1 hp).2] at this;exact this.symm
  rw [f,List.find?_append]
  have e:(ops.take i).find? (badB S)=none:=List.find?_eq_none.2 fun q a=>by
   obtain ⟨j,a⟩:=List.mem_iff_getElem?.1 a;have b:=(List.getElem?_eq_some_iff.1 a).1;rw [List.length_take] at b;rw [List.getElem?_take_of_lt (by omega)] at a;rw [hj j (by omega) q a];simp
  rw [e];simp [h3]
 unfold whenAll;have:(fun o:Opr=>o.kind==3&&whenE S o.rg.rev != 0)=badB S:=rfl;rw [this,d]
theorem zmn {S:St} {ops:List Opr} (hj:∀ j,j<ops.length->∀ q,ops[j]?=some q->badB S q=false):whenAll S ops=0:=by
 have b:ops.find? (badB S)=none:=List.find?_eq_none.2 fun q a=>by
  obtain ⟨j,a⟩:=List.mem_iff_getElem?.1 a;rw [hj j (List.getElem?_eq_some_iff.1 a).1 q a];simp
 unfold whenAll;have:(fun o:Opr=>o.kind==3&&whenE S o.rg.rev != 0)=badB S:=rfl;rw [this,b]
set_option maxHeartbeats 4000000 in
theorem zol {TA:zaq} {N:Nat} (hT:TreeOk TA N) (w:World) (s:Nat) (S:St) (F:Nat->Prop) (hS:zak TA w s S F) (v:Value) (ops:List Opr) (hv:SlR w 10 opC v ops)
 (hl:ops.length<=1099511627) (hks:∀ o∈ops,o.rg.key.size<=1099511627776) (he:applyE S ops≠0) :
 Calls Tryz.prog 37 #[.pointer (some ⟨s,0,none⟩),v] w fun e w'=>e=.returned (.tuple #[.slice none 0 0,.slice none 0 0,.int .i64 (applyE S ops)])/\Fr No w w':=by
 have d:=fun W hv=>zez W v ops hv hl hks;obtain ⟨va,V,rfl,Z,a5,n⟩:=hv.shape;have D:=H_ hv;have H:=H_ n;have T:=H_ hS;by_cases hc:checkE ops=0
 · have f:applyE S ops=whenAll S ops:=by unfold applyE;rw [if_neg (by simpa using hc)]
   rw [hc] at d;rw [f] at he ⊢
   have r:=H_ d;have HE:=H_ he;clear hv n hS d hc f he hks;go_enter Tryz.func37,Tryz.ntmps37
   go_wp2_with (first
    | (go_at_call 83;refine (r.out _ (D.out.alloc _)).mono ?_;rintro e w1 ⟨rfl,k⟩
       have O:Fr No w w1:=((Fr.refl No w).alloc _).trans0 k;have K:w1.heap[w.heap.size]?=some (.cells #[.pointer (some ⟨s,0,none⟩)] 25 (0,0)):=k.heap (zad _ _ _ rfl) id;have bA:w1.cell? ⟨w.heap.size,0,none⟩=some (.pointer (some ⟨s,0,none⟩)):=cellAt K 0 rfl))
   go_loopg [29] ops.length (fun g s29 wr=>∃ i:Nat,s29=.int .i64 i/\i+g=ops.length/\Hid (Fr No w1 wr)/\Hid (∀ j,j<i->∀ q,ops[j]?=some q->badB S q=false))
   case atStart=>exact ⟨0,rfl,by simp,H_ (Fr.refl No w1),H_ (by simp)⟩
   case round =>
    obtain ⟨i,rfl,hi,A,J⟩:=hrel;have l:Fr No w wr:=O.trans0 A.out;have bR:=A.out.cell0 bA;have a4:=World.block_lt_of_cell? _ _ bR
    cases gk with
    | zero=>exact absurd (zmn fun j hj=>J.out j (by omega)) HE.out
    | succ g =>
      obtain ⟨gb,go,rfl⟩:=H.out (by omega);obtain ⟨p,c⟩:∃ p,ops[i]?=some p:=⟨_,List.getElem?_eq_getElem (by omega)⟩;have a:=D.out.fr0 l;have x0:=a.cell0 zaf i c rfl;have x1:=a.cell zaf i 1 c rfl;have x2:=a.cell zaf i 2 c rfl;have x3:=a.cell zaf i 3 c rfl;have x4:=a.cell zaf i 4 c rfl;have x5:=a.cell zaf i 5 c rfl;have x6:=a.cell zaf i 6 c rfl;have x7:=a.cell zaf i 7 c rfl;have x8:=a.cell zaf i 8 c rfl;have x9:=a.cell zaf i 9 c rfl;have Y:(i:Int)<(ops.length:Int):=(by omega)
      have x:∀ b,badB S p=b->(b=false->∀ j,j<i+1->∀ q,ops[j]?=some q->badB S q=false)/\(b=true->whenAll S ops=whenE S p.rg.rev):=fun b hb =>
       ⟨fun h j hj q hq=>by
         by_cases hji:j=i
         · subst hji;rw [c] at hq;cases hq;rw [hb,h]
         exact J.out j (by omega) q hq,fun h=>zrw J.out c (by rw [hb,h])⟩
      have m:=H_ x;clear c a x;obtain ⟨B,⟨M,E,t,G,R,Q,C⟩,P,I⟩:=p;by_cases hk:B=3
      · subst hk
        generalize U:whenE S t=u at *;have z:=H_ U;clear U;by_cases hu0:u=0
        · subst hu0
          have y:Hid (badB S ⟨3,⟨M,E,t,G,R,Q,C⟩,P,I⟩=false):=H_ (by unfold badB;dsimp only;rw [z.out];rfl);go_wp2_with (go_at_call 84;refine (zdx _ s S F ((T.out.fr0 hT l).fr0 hT ((Fr.refl No wr).alloc _)) t).mono ?_;rintro e w' ⟨rfl,rfl⟩;rw [z.out]);go_roundg g
          case rel=>exact ⟨i+1,by go_num,by omega,H_ (A.out.alloc _),H_ ((m.out _ y.out).1 rfl)⟩
          case measure=>omega
        have a0:(u==0)=false:=by simpa using hu0
        have y:Hid (badB S ⟨3,⟨M,E,t,G,R,Q,C⟩,P,I⟩=true):=H_ (by unfold badB;dsimp only;rw [z.out];simpa using hu0);go_wp2_with (go_at_call 84;refine (zdx _ s S F ((T.out.fr0 hT l).fr0 hT ((Fr.refl No wr).alloc _)) t).mono ?_;rintro e w' ⟨rfl,rfl⟩;rw [z.out]);go_ret3;refine ⟨?_,l.alloc _⟩;have h1:=(m.out _ y.out).2 rfl;rw [h1]
        rfl
      have L:(B==3)=false:=by simpa using hk
      have y:Hid (badB S ⟨B,⟨M,E,t,G,R,Q,C⟩,P,I⟩=false):=H_ (by unfold badB;dsimp only;rw [L];rfl);go_wp2;go_roundg g
      case rel=>exact ⟨i+1,by go_num,by omega,H_ (A.out.alloc _),H_ ((m.out _ y.out).1 rfl)⟩
      case measure=>omega
 have f:applyE S ops=checkE ops:=by unfold applyE;rw [if_pos hc]
 rw [f] at he ⊢
 have X:(checkE ops==0)=false:=(by simpa using hc);generalize checkE ops=u at *;have r:=H_ d;clear hv n hS d f hks;go_enter Tryz.func37,Tryz.ntmps37;go_wp2_with (go_at_call 83;refine (r.out _ (D.out.alloc _)).mono ?_;rintro e w1 ⟨rfl,k⟩);go_ret3;exact ⟨rfl,((Fr.refl No w).alloc _).trans0 k⟩
set_option maxHeartbeats 4000000 in
theorem zgl {TA:zaq} {N:Nat} (hT:TreeOk TA N) {n:Nat} (hn:n<=1099511627) (w:World) (s:Nat) (S:St) (F:Nat->Prop) (hS:zak TA w s S F) (hok:StOk n S) (hN:S.T.length<=1099511627) (g:Rg)
 (hks:g.key.size<=1099511627776) (hE:rangeE S g=0) :
 Calls Tryz.prog 46 #[.pointer (some ⟨s,0,none⟩),rgV g] w fun e w'=>∃ v,e=.returned (.tuple #[v,.int .i64 (allL S g S.rev).length,.bool (moreB S g S.rev),.int .i64 0])/\SlF w' 99 6 kvC v (getL S g S.rev)/\Fr No w w'/\(∀ b,v.ownBlock=some b->w.heap.size<=b):=by
 have G:=fun W=>zgf W g hks;have C:=fun W (h:Fr No w W)=>zdx W s S F (hS.fr0 hT h) g.rev;have U:=fun W (h:Fr No w W)=>zhz hT hn W s S F (hS.fr0 hT h) hok hN g S.rev hks
 have M:∀ W,Fr No w W->W.cell? ⟨s,3,none⟩=some (.int .i64 S.rev):=fun W hW=>by
  obtain ⟨t,p,ev,hp,FT,FH,a,hF⟩:=hS;exact hW.cell0 (a.obj.cell 3 rfl)
 have A:askE g=0/\whenE S g.rev=0:=by
  unfold rangeE at hE;by_cases h:askE g=0
  · rw [if_neg (by simpa using h)] at hE;exact ⟨h,hE⟩
  rw [if_pos h] at hE;exact absurd hE h
 rw [A.1] at G;rw [A.2] at C;obtain ⟨k,i,m,j,q,o,f⟩:=g;generalize B:allL S ⟨k,i,m,j,q,o,f⟩ S.rev=al at *;generalize u:moreB S ⟨k,i,m,j,q,o,f⟩ S.rev=mo at *;generalize D:getL S ⟨k,i,m,j,q,o,f⟩ S.rev=gl at *;unfold rgV at *;dsimp only at *;have HA:=H_ G;have Y:=H_ C;have Z:=H_ U;have HC:=H_ M;clear G C U M hE A hks hS hok hN B u D;go_enter Tryz.func46,Tryz.ntmps46
 go_upto_region 8 with (first
  | (go_at_call 97;refine (HA.out _).mono ?_;rintro e w1 ⟨rfl,Q⟩
     have d:Fr No w w1:=((Fr.refl No w).alloc _).trans0 Q;have r:w1.heap[w.heap.size]?=some (.cells #[.string k,.string i,.int .i64 m,.int .i64 j,.bool q,.bool o,.bool f] 35 (0,0)):=Q.heap (zad _ _ _ rfl) id;obtain ⟨L,J,H,K,O,P,I⟩:=cells7 r;have lx:=zaa r;have y:=HC.out _ d;have ly:=World.block_lt_of_cell? _ _ y)
  | (go_at_call 84;refine (Y.out _ d).mono ?_;rintro e w2 ⟨rfl,rfl⟩))
 go_region_held (fun W=>W.cell? ⟨s,3,none⟩=some (.int .i64 S.rev)/\W.cell? ⟨w.heap.size,0,none⟩=some (.string k)/\W.cell? ⟨w.heap.size,1,none⟩=some (.string i)/\W.cell? ⟨w.heap.size,2,none⟩=some (.int .i64 m) ∧
  W.cell? ⟨w.heap.size,3,none⟩=some (.int .i64 j)/\W.cell? ⟨w.heap.size,4,none⟩=some (.bool q)/\W.cell? ⟨w.heap.size,5,none⟩=some (.bool o)/\W.cell? ⟨w.heap.size,6,none⟩=some (.bool f))
  (first | exact ⟨y,L,J,H,K,O,P,I⟩ | exact ⟨c.cell0 y,c.cell0 L,c.cell0 J,c.cell0 H,c.cell0 K,c.cell0 O,c.cell0 P,c.cell0 I⟩)
  (first | (go_at_call 89;refine (Z.out _ d.drew).mono ?_;rintro e w3 ⟨v,rfl,E,c,l⟩;obtain ⟨va,R,rfl,V,a3,a0⟩:=E.shape;have X:=H_ E;have x:=H_ l;clear E l))
 go_wp2
 (try simp only [Exit.inBlock,Exit.then]);refine bodyPost_ret (zcj rfl _ _ _) rfl ?_
 have z:=d.size;exact ⟨_,rfl,X.out,d.drew.trans0 c,fun b r=>Nat.le_trans z (x.out b r)⟩
end Go.Proofs.YthljnnjpmdgkoaaGreat