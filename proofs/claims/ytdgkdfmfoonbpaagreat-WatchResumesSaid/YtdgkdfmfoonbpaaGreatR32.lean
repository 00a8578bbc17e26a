/- Own lemmas. -/
import Derived.Test.YtdgkdfmfoonbpaaGreatR31
import Derived.Test.YtdgkdfmfoonbpaaGreatR28
import Derived.Test.YtdgkdfmfoonbpaaGreatR27
import Derived.Deep.RegionLaw
namespace Go.Proofs.YtdgkdfmfoonbpaaGreat
open Go Go.Proofs Go.RowKit
set_option maxRecDepth 100000
theorem zgx {w:World} {b i:Nat} {cs:Array Value} {t:TypeId} {fr:Nat×Nat} {u:Value} (h:w.heap[b]?=some (.cells cs t fr)) (hu:cs[i]?=some u):w.setCell ⟨b,i,none⟩ u=w:=by
 have a:cs.setIfInBounds i u=cs:=by
  apply Array.ext_getElem?;intro k;rw [Array.getElem?_setIfInBounds]
  split
  · rename_i e
    subst e
    split
    · exact hu.symm
    rename_i h2
    rw [Array.getElem?_eq_none (by omega)]
  rfl
 have c:(w.setCell ⟨b,i,none⟩ u).heap=w.heap:=by
  unfold World.setCell;apply Array.ext_getElem?;intro k;dsimp only;rw [Array.getElem?_modify]
  split
  · rename_i e
    subst e;rw [h];simp [a]
  rfl
 have:w.setCell ⟨b,i,none⟩ u = { w with heap:=(w.setCell ⟨b,i,none⟩ u).heap }:=rfl;rw [this,c]
structure TakeOk (D:Doc) (H:Hb) (id:Int) (rev:Int) (ended:Bool):Prop where
 over:ended=true->takeE H id=36/\takeB D H id=⟨[],0,false⟩/\takeH D H id=H
 ok:ended=false->takeE H id=0
 cancel:ended=false->(takeB D H id).cancel=true->(takeB D H id).evs = []/\(takeB D H id).rev=D.mark/\rev+1<D.mark
 more:ended=false->(takeB D H id).cancel=false->rev<=(takeB D H id).rev/\(takeB D H id).rev<=H.fed/\(∀ e∈(takeB D H id).evs,rev<e.kv.mod/\e.kv.mod<=(takeB D H id).rev)/\((takeB D H id).evs.length<=64\/∃ m,∀ e∈(takeB D H id).evs,e.kv.mod=m)
theorem Both.mark {TA:zai} {w:World} {h s k n:Nat} {S:St} {D:Doc} {H:Hb} {B:Nat->Prop} (a:Both TA w h s k n S D H B):Calls Tryz.prog 45 #[.pointer (some ⟨s,0,none⟩)] w fun e w'=>e=.returned (.int .i64 D.mark)/\w=w':=by
 obtain ⟨G,b⟩:=a.store;have:=zct w s S G b
 rwa [a.p.good.cpl.mark] at this
def zft (TA:zai) (w w':World) (h s x k:Nat) (S:St) (D:Doc) (H:Hb) (id:Int) (all got:List Ev) (rev:Int) (ended:Bool) (B X:Nat->Prop):Prop :=
 ∃ B' X',SeenTo TA w w' h s x k S D (takeH D H id) all (if ended=true\/(takeB D H id).cancel=true then got else got++(takeB D H id).evs) (if ended=true\/(takeB D H id).cancel=true then rev else (takeB D H id).rev) (ended||(takeB D H id).cancel) B X B' X'
section
variable {TA:zai} (hT:TreeOk TA 1000000) {w:World} {h s x k:Nat} {S:St} {D:Doc} {H:Hb} {B X:Nat->Prop} {id:Int} {all got:List Ev} {rev:Int}
include hT
set_option maxHeartbeats 8000000 in
theorem zru (hb:Both TA w h s k k S D H B) (hk:k<=200) (hid:(Lit.int .i64 id).wf=true) (hx:SeenAt w x all got rev true X) (hd:∀ b,X b->¬ B b) (ho:TakeOk D H id rev true) :
 Calls Tryz.prog 21 #[.pointer (some ⟨x,0,none⟩),.pointer (some ⟨s,0,none⟩),.pointer (some ⟨h,0,none⟩),.int .i64 id] w fun e w'=>e=.returned (.tuple #[])/\zft TA w w' h s x k S D H id all got rev true B X:=by
 obtain ⟨J,K,Q⟩:=ho.over rfl;have c:=hb.take hT hk id hid;unfold zft;simp only [true_or,if_true,Bool.true_or];rw [J,K] at c;unfold batV at c;dsimp only at c;have l:=H_ c;have j:=H_ hx;have M:=H_ hb;have I:=H_ hd;clear c hx hb hd ho J K Q;go_enter Tryz.func21,Tryz.ntmps21;go_upto_region 1 with (go_at_call 14;(with_reducible refine l.out.mono ?_);rintro e G ⟨U,rfl,t,L,n,q,r,_,_⟩;obtain ⟨F,d,rfl,_⟩:=t.shape;clear t);have f:Fr B w (G.alloc (.cells #[.slice F ([]:List Ev).length d,.int .i64 0,.bool false] 43)):=q.alloc _;have o:=n.fr0 hT ((Fr.refl No G).alloc (.cells #[.slice F ([]:List Ev).length d,.int .i64 0,.bool false] 43));have A:=j.out.fr f I.out;have y:=H_ f;have v:=H_ o;have g:=H_ r;clear f o n q r l
 simp only [List.length_nil] at *;generalize G.alloc (.cells #[.slice F 0 d,.int .i64 0,.bool false] 43)=E at *;obtain ⟨N,O,a,m⟩:=A;have z:=H_ a;have C:=H_ m;have V:E.cell? ⟨x,3,none⟩=some (.bool true):=cellAt a.obj 3 rfl;have W:E.cell? ⟨x,4,none⟩=some (.bool false):=cellAt a.obj 4 rfl;have R:E.frozen? ⟨x,4,none⟩=false:=by unfold World.frozen?;rw [a.obj];simp
 have T:=zac a.obj;have P:=zgx a.obj (i:=4) (u:=.bool false) rfl;clear a m;go_wp2;exact bodyPost_ret (results_none rfl _ _ _) rfl ⟨rfl,L,X,v.out,⟨N,O,z.out,C.out⟩,y.out.mono fun _ _ hb=>.inl hb,g.out,fun _ hb=>.inl hb,fun b hb hx=>(g.out b hx).elim (I.out b hb) fun h=>by have:=j.out.lt b hb;omega⟩
set_option maxHeartbeats 8000000 in
theorem zmu (hb:Both TA w h s k k S D H B) (hk:k<=200) (hid:(Lit.int .i64 id).wf=true) (hx:SeenAt w x all got rev false X) (hd:∀ b,X b->¬ B b) (ho:TakeOk D H id rev false) (hc:(takeB D H id).cancel=true) (hr : -1<=rev/\rev<=4611686018427387903) :
 Calls Tryz.prog 21 #[.pointer (some ⟨x,0,none⟩),.pointer (some ⟨s,0,none⟩),.pointer (some ⟨h,0,none⟩),.int .i64 id] w fun e w'=>e=.returned (.tuple #[])/\zft TA w w' h s x k S D H id all got rev false B X:=by
 obtain ⟨c1,c2,c3⟩:=ho.cancel rfl hc;have o1:=ho.ok rfl;have l:=hb.take hT hk id hid;unfold zft;simp only [hc,or_true,if_true,Bool.or_true];rw [o1] at l;unfold batV at l;rw [c1,c2,hc] at l;have E:=H_ l;have A:=H_ hx;have aj:=H_ hb;have HD:=H_ hd;clear l hx hb hd ho o1 c1 c2 hc;go_enter Tryz.func21,Tryz.ntmps21;go_upto_region 1 with (go_at_call 14;(with_reducible refine E.out.mono ?_);rintro e m ⟨tv,rfl,P,B2,I,M,O,_,_⟩;obtain ⟨r,c,rfl,_⟩:=P.shape;clear P);simp only [List.length_nil] at *;have L:=zae m (.cells #[.slice r 0 c,.int .i64 D.mark,.bool true] 43) _ rfl;have q:Fr B w (m.alloc (.cells #[.slice r 0 c,.int .i64 D.mark,.bool true] 43)):=M.alloc _;have J:=I.fr0 hT ((Fr.refl No m).alloc (.cells #[.slice r 0 c,.int .i64 D.mark,.bool true] 43))
 have U:=A.out.fr q HD.out;have t:=H_ q;have o:=H_ J;have y:=H_ O;have g:=H_ L;clear q J I M O E L;generalize m.alloc (.cells #[.slice r 0 c,.int .i64 D.mark,.bool true] 43)=a at *;obtain ⟨av,gv,d,G⟩:=U;have z:=H_ d;have F:=H_ G;have v2:a.cell? ⟨x,2,none⟩=some (.int .i64 rev):=cellAt d.obj 2 rfl;have v3:a.cell? ⟨x,3,none⟩=some (.bool false):=cellAt d.obj 3 rfl;have v4:a.cell? ⟨x,4,none⟩=some (.bool false):=cellAt d.obj 4 rfl;have y0:a.cell? ⟨m.heap.size,0,none⟩=some (.slice r 0 c):=cellAt g.out 0 rfl;have y1:a.cell? ⟨m.heap.size,1,none⟩=some (.int .i64 D.mark):=cellAt g.out 1 rfl;have y2:a.cell? ⟨m.heap.size,2,none⟩=some (.bool true):=cellAt g.out 2 rfl;have lx:=zac d.obj;have ly:=zac g.out;have j:=d.obj
 have v:Hid (Calls Tryz.prog 45 #[.pointer (some ⟨s,0,none⟩)] a.drew fun e w'=>e=.returned (.int .i64 D.mark)/\w'=a.drew):=H_ ((o.out.fr0 hT (Fr.refl No a).drew).mark.mono fun e w' ⟨h1,h2⟩=>⟨h1,h2.symm⟩);have a0:a.drew.setCell ⟨x,4,none⟩ (.bool false)=a.drew:=zgx (w:=a.drew) j (i:=4) (u:=.bool false) rfl
 have f4:a.drew.frozen? ⟨x,4,none⟩=false:=by
  have:a.drew.heap[x]?=_:=j;unfold World.frozen?;rw [this];simp
 have u2:a.drew.cell? ⟨x,2,none⟩=some (.int .i64 rev):=v2;have u4:a.drew.cell? ⟨x,4,none⟩=some (.bool false):=v4;have z0:a.drew.cell? ⟨m.heap.size,0,none⟩=some (.slice r 0 c):=y0;have z1:a.drew.cell? ⟨m.heap.size,1,none⟩=some (.int .i64 D.mark):=y1;have a4:x<a.drew.heap.size:=lx;have a5:m.heap.size<a.drew.heap.size:=ly;have a2:IntKind.i64.wrap (rev+1)=rev+1:=by rw [IntKind.wrap_i64];omega
 have d1:decide (rev+1 ≥ D.mark)=false:=decide_eq_false (by omega);have d2:decide (D.mark<=rev+1)=false:=decide_eq_false (by omega);clear d G j;go_upto_region 4 with fail;clear v2 v3 v4 y0 y1 y2;refine zba (C:=fun Z=>Z=a.drew) (by kernel_rfl) (by kernel_rfl) rfl ?_
 repeat (refine (wpQuiet_step (fun K hK=>?_):_)
         go_simp
         first
          | (refine hK _ ?_;clear hK K)
          | (refine ⟨.int .i64 D.mark,?lk,hK _ ?_⟩
             case lk=>exact v.out
             clear hK K)
          | (apply Exists.intro
             refine ⟨fun W hW=>?_,hK _ ?_⟩
             (first
               | exact rfl
               | (subst hW;go_simp;exact rfl))
             clear hK K))
 refine (wpQuiet_nil ?_:_);intro w9 a1;subst a1;have f:=H_ (z.out.fr0 (Fr.refl No a).drew);have R:=H_ (o.out.fr0 hT (Fr.refl No a).drew);have T:Hid (Fr (fun b=>B b\/X b) w a.drew):=H_ ((t.out.mono fun _ _ hb=>.inl hb).drew);clear v a0 f4 u2 u4 z0 z1 a4 a5 a2 d1 d2 z o t g lx ly;generalize a.drew=W4 at *;have v3:W4.cell? ⟨x,3,none⟩=some (.bool false):=cellAt f.out.obj 3 rfl;have f3:W4.frozen? ⟨x,3,none⟩=false:=by unfold World.frozen?;rw [f.out.obj];simp
 have lx:=zac f.out.obj;go_wp2;obtain ⟨Y,N⟩:=f.out.put 3 (.bool true) (rev':=rev) (ended':=true) rfl;have Q:X x:=(F.out x).2 (.inl rfl);have n:∀ b,X b->¬ B2 b:=fun b hb hx=>(y.out b hx).elim (HD.out b hb) fun h=>by have:=A.out.lt b hb;omega
 exact bodyPost_ret (results_none rfl _ _ _) rfl ⟨rfl,B2,X,R.out.fr hT N fun b hb e=>by have V:b=x:=e;rw [V] at hb;exact n x Q hb,⟨av,gv,Y,F.out⟩,T.out.trans N fun b _ e=>by have V:b=x:=e;rw [V];exact .inr Q,y.out,fun _ hb=>.inl hb,n⟩
set_option maxHeartbeats 16000000 in
theorem zrw (hb:Both TA w h s k k S D H B) (hk:k<=200) (hid:(Lit.int .i64 id).wf=true) (hx:SeenAt w x all got rev false X) (hd:∀ b,X b->¬ B b) (ho:TakeOk D H id rev false) (hc:(takeB D H id).cancel=false) (hlen:got.length+(takeB D H id).evs.length<=2300000000) :
 Calls Tryz.prog 21 #[.pointer (some ⟨x,0,none⟩),.pointer (some ⟨s,0,none⟩),.pointer (some ⟨h,0,none⟩),.int .i64 id] w fun e w'=>e=.returned (.tuple #[])/\zft TA w w' h s x k S D H id all got rev false B X:=by
 obtain ⟨m1,m2,m3,m4⟩:=ho.more rfl hc;have o1:=ho.ok rfl;have a1:=hb.take hT hk id hid;have bo:=(zeo D H id).2.2;unfold zft;have aN:¬ (False\/(takeB D H id).cancel=true):=by rw [hc];simp
 simp only [Bool.false_eq_true,if_neg aN,Bool.false_or];rw [o1] at a1;unfold batV at a1;clear ho o1 aN;generalize takeH D H id=H' at *;generalize takeB D H id=tb at *;obtain ⟨a,E,tc⟩:=tb;dsimp only at *;subst hc;have M3:=H_ m3;have M4:=H_ m4;have ay:=H_ a1;have aa:=H_ hx;have HD:=H_ hd;clear a1 hx hb hd m3 m4;obtain ⟨i0,b4,bb,bc,bd⟩:=info_parts info72;go_enter Tryz.func21,Tryz.ntmps21;go_upto_region 1 with (go_at_call 14;(with_reducible refine ay.out.mono ?_);rintro e i ⟨tv,rfl,ag,B2,aJ,U,aL,aP,aO⟩;obtain ⟨ta,d,rfl,bK,b8,aQ⟩:=ag.shape);have aK:=zae i (.cells #[.slice ta a.length d,.int .i64 E,.bool false] 43) _ rfl;have M:Fr No i (i.alloc (.cells #[.slice ta a.length d,.int .i64 E,.bool false] 43)):=(Fr.refl No i).alloc _;have aY:=aa.out.fr (U.trans0 M) HD.out
 have an:=H_ (U.trans0 M);have aX:=H_ U;have a8:=H_ (aJ.fr0 hT M);have au:=H_ aL;have I:=H_ aK;have az:=H_ (ag.fr0 M);have bz:=H_ aP;have bx:=H_ aO;have ax:=H_ aQ;unfold maxLen at b8;clear aJ U aL ay aK M aP aO aQ ag;generalize i.alloc (.cells #[.slice ta a.length d,.int .i64 E,.bool false] 43)=f at *;obtain ⟨av,gv,N,aI⟩:=aY;obtain ⟨ga,o,b3,bE,b0,_⟩:=N.sg.shape;subst b3;unfold maxLen at b0;have a9:=H_ N;have J:=H_ aI;have v3:f.cell? ⟨x,3,none⟩=some (.bool false):=cellAt N.obj 3 rfl;have y2:f.cell? ⟨i.heap.size,2,none⟩=some (.bool false):=cellAt I.out 2 rfl;have lx:=zac N.obj;have ly:=zac I.out;clear N aI;go_upto_region 6 with fail
 have u2:f.drew.cell? ⟨x,2,none⟩=some (.int .i64 rev):=cellAt (a9.out.fr0 (Fr.refl No f).drew).obj 2 rfl;have z1:f.drew.cell? ⟨i.heap.size,1,none⟩=some (.int .i64 E):=cellAt ((Fr.refl No f).drew.heap I.out fun h=>h) 1 rfl;have ar:Hid (Calls Tryz.prog 16 #[.pointer (some ⟨h,0,none⟩)] f.drew fun e w'=>e=.returned (.int .i64 H'.fed)/\w'=f.drew):=H_ ((a8.out.fr0 hT (Fr.refl No f).drew).fedC.mono fun e w' ⟨h1,h2⟩=>⟨h1,h2.symm⟩);have a2:x<f.drew.heap.size:=lx;have O:i.heap.size<f.drew.heap.size:=ly;have d1:decide (E<rev)=false:=decide_eq_false (by omega);have d2:decide (E > H'.fed)=false:=decide_eq_false (by omega);have d3:decide (H'.fed<E)=false:=decide_eq_false (by omega);clear v3 y2;refine zba (C:=fun Z=>Z=f.drew) (by kernel_rfl) (by kernel_rfl) rfl ?_
 repeat (refine (wpQuiet_step (fun K hK=>?_):_)
         go_simp
         first
          | (refine hK _ ?_;clear hK K)
          | (refine ⟨.int .i64 H'.fed,?lk,hK _ ?_⟩
             case lk=>exact ar.out
             clear hK K)
          | (apply Exists.intro
             refine ⟨fun W hW=>?_,hK _ ?_⟩
             (first
               | exact rfl
               | (subst hW;go_simp;exact rfl))
             clear hK K))
 refine (wpQuiet_nil ?_:_);intro w9 t;subst t;have u:=H_ (a9.out.fr0 (Fr.refl No f).drew);have al:=H_ (a8.out.fr0 hT (Fr.refl No f).drew);have ao:Hid (Fr B w f.drew):=H_ an.out.drew;have A:=H_ (az.out.fr0 (Fr.refl No f).drew);have j:=H_ ((Fr.refl No f).drew.heap I.out fun h=>h);clear ar u2 z1 a2 O d1 d2 d3 a9 a8 an I az lx ly;generalize f.drew=W4 at *;go_wp2_with fail
 go_loopg [10] a.length (fun g s10 wq=>∃ n:Nat,s10=.int .i64 n/\n+g=a.length/\Hid (Fr No W4 wq))
 case atStart=>exact ⟨0,rfl,by omega,H_ (Fr.refl _ _)⟩
 case round =>
  obtain ⟨n,rfl,hn,P⟩:=hrel;have y0:wr.cell? ⟨i.heap.size,0,none⟩=some (.slice ta a.length d):=cellAt (P.out.heap j.out fun h=>h) 0 rfl;have ly:=zac (P.out.heap j.out fun h=>h);have z0:wr.drew.cell? ⟨i.heap.size,0,none⟩=some (.slice ta a.length d):=y0;have O:i.heap.size<wr.drew.heap.size:=ly
  cases gk with
  | zero =>
    have b6:¬ (n:Int)<(a.length:Int):=(by omega);go_upto_region 13 with fail;have F:Hid (Fr No W4 wr.drew):=H_ P.out.drew
    go_cut [144] (fun s144 wx=>s144=.bool false/\Hid (wr.drew=wx))
    case first =>
     as_aux_lemma =>
     by_cases h64:a.length<=64
     · have d1:decide ((a.length:Int) > 64)=false:=decide_eq_false (by omega)
       have d2:decide ((64:Int)<a.length)=false:=decide_eq_false (by omega);go_wp2_with fail;refine zba (C:=fun Z=>Z=wr.drew) (by kernel_rfl) (by kernel_rfl) rfl ?_
       repeat (refine (wpQuiet_step (fun K hK=>?_):_)
               go_simp
               first
                | (refine hK _ ?_;clear hK K)
                | (apply Exists.intro
                   refine ⟨fun W hW=>?_,hK _ ?_⟩
                   (first
                     | exact rfl
                     | (subst hW;go_simp;exact rfl))
                   clear hK K))
       refine (wpQuiet_nil ?_:_);intro w9 t;subst t;go_wp2;go_meet
       case rel=>exact ⟨rfl,H_ rfl⟩
     obtain ⟨m,hm⟩:=M4.out.resolve_left h64
     obtain ⟨gb,og,rfl⟩:=ax.out (by omega);obtain ⟨y,hy⟩:∃ y,a[0]?=some y:=⟨_,List.getElem?_eq_getElem (by omega)⟩;obtain ⟨z,hz⟩:∃ z,a[a.length-1]?=some z:=⟨_,List.getElem?_eq_getElem (by omega)⟩;have G:=(A.out.fr0 P.out.drew).toR zaa
     have e4:wr.drew.cell? ⟨gb,og+1+3,none⟩=some (.int .i64 m):=by
      have h1:wr.drew.cell? ⟨gb,og+0 * 13+4,none⟩=some (.int .i64 y.kv.mod):=G.of_add zaa 0 4 hy rfl;rw [hm y (List.mem_of_getElem? hy)] at h1;simpa using h1
     have e5:wr.drew.cell? ⟨gb,og+(a.length-1) * 13+1+3,none⟩=some (.int .i64 m):=by
      have h1:wr.drew.cell? ⟨gb,og+(a.length-1) * 13+4,none⟩=some (.int .i64 z.kv.mod):=G.of_add zaa (a.length-1) 4 hz rfl;rw [hm z (List.mem_of_getElem? hz)] at h1;exact h1
     have be:=World.block_lt_of_cell? _ _ e4;have d1:decide ((a.length:Int) > 64)=true:=decide_eq_true (by omega);have d2:decide ((64:Int)<a.length)=true:=decide_eq_true (by omega);have bL:IntKind.i64.wrap ((a.length:Int)-1)=((a.length-1:Nat):Int):=(by rw [IntKind.wrap_i64];omega);have bG:(0:Int)<a.length:=(by omega);have bH:(0:Int)<=((a.length-1:Nat):Int):=(by omega);have bI:((a.length-1:Nat):Int)<(a.length:Int):=(by omega);have bJ:0<a.length:=(by omega);clear G hy hz hm;go_wp2_with fail;refine zba (C:=fun Z=>Z=wr.drew) (by kernel_rfl) (by kernel_rfl) rfl ?_
     repeat (refine (wpQuiet_step (fun K hK=>?_):_)
             go_simp
             first
              | (refine hK _ ?_;clear hK K)
              | (apply Exists.intro
                 refine ⟨fun W hW=>?_,hK _ ?_⟩
                 (first
                   | exact rfl
                   | (subst hW;go_simp;exact rfl))
                 clear hK K))
     refine (wpQuiet_nil ?_:_);intro w9 t;subst t;go_wp2;go_meet
     case rel=>exact ⟨rfl,H_ rfl⟩
    case rest =>
    obtain ⟨rfl,HX⟩:=hcut;have aR:=HX.out;clear HX;rw [<-aR];clear aR;have v:=H_ (u.out.fr0 F.out);have am:=H_ (al.out.fr0 hT F.out);have ap:Hid (Fr B w wr.drew):=H_ (ao.out.trans0 F.out);have aA:=H_ (A.out.fr0 F.out);have l:=H_ (F.out.heap j.out fun h=>h);clear P F y0 ly z0 O u al ao A j;generalize wr.drew=q at *;go_upto_region 15 with fail;have aB:=H_ (aA.out.fr0 (Fr.refl No q).drew);have c:=H_ (v.out.fr0 (Fr.refl No q).drew);have x1:q.drew.cell? ⟨x,1,none⟩=some (.slice ga got.length o):=cellAt c.out.obj 1 rfl;have bh:q.cell? ⟨x,1,none⟩=some (.slice ga got.length o):=cellAt v.out.obj 1 rfl;have y0:q.drew.cell? ⟨i.heap.size,0,none⟩=some (.slice ta a.length d):=cellAt ((Fr.refl No q).drew.heap l.out fun h=>h) 0 rfl
    have bi:q.cell? ⟨i.heap.size,0,none⟩=some (.slice ta a.length d):=cellAt l.out 0 rfl;have lx:x<q.heap.size:=zac v.out.obj;have ly:i.heap.size<q.heap.size:=zac l.out;have a2:x<q.drew.heap.size:=lx;have O:i.heap.size<q.drew.heap.size:=ly;have af:(Value.slice ga got.length o).ownBlock≠some x:=v.out.d2
    go_region_law (refine zbh rfl _ _ 41 rfl 72 i0 _ 13 136 Tryz.underlying41 b4 bb bc bd rfl (by decide) zaa zpg (.slice ga got.length o) (.slice ta a.length d) got a rfl rfl c.out.sg aB.out (by unfold maxLen;omega) (by omega) ?_;intro nv w8 a0 r L;obtain ⟨Q,R,rfl,_⟩:=a0.shape;have Y:=r.heap c.out.obj af;have x8:=r.cell x1 af;have z8:w8.frozen? ⟨x,1,none⟩=false:=by { unfold World.frozen?;rw [Y];simp };have bf:=zac Y)
    all_goals
     simp only [List.length_append] at a0 L
     have aM:(w8.setCell ⟨x,1,none⟩ (.slice Q (got.length+a.length) R)).heap[x]?=some (.cells #[av,.slice Q (got.length+a.length) R,.int .i64 rev,.bool false,.bool false] 56 (0,0)):=by
      rw [zab Y 1 _];simp
     have V:Fr (fun b=>b=x) w8 (w8.setCell ⟨x,1,none⟩ (.slice Q (got.length+a.length) R)):=Fr.setCell (p:=⟨x,1,none⟩) (Fr.refl (fun b=>b=x) w8) (.inl rfl) _;have ae:∀ b,(Value.slice Q (got.length+a.length) R).ownBlock=some b->b≠x:=fun b hb e=>(L b hb).elim (fun h=>af (by rw [h,e])) fun h=>by rw [e] at h;omega
     have a5:=(c.out.sa.fr r fun b hb e=>c.out.d3 b hb e).fr V fun b hb e=>c.out.d1 (by rw [hb,e]);have aH:SeenR (w8.setCell ⟨x,1,none⟩ (.slice Q (got.length+a.length) R)) x av (.slice Q (got.length+a.length) R) all (got++a) rev false:=⟨aM,a5,a0.fr V fun b hb e=>ae b hb e,c.out.d1,fun e=>ae x e rfl,fun b hb hg=>(L b hg).elim (fun h=>c.out.d3 b hb h) fun h=>by have:=c.out.sa.lt b hb;omega⟩;have ad:∀ b,(Value.slice ga got.length o).ownBlock=some b->X b:=fun b hb=>(J.out b).2 (.inr (.inr hb));have aE:Fr X q (w8.setCell ⟨x,1,none⟩ (.slice Q (got.length+a.length) R)):=((((Fr.refl No q).drew).mono fun _ _ h=>h.elim).trans r fun b _ hb=>ad b hb).trans V fun b _ e=>(J.out b).2 (.inl e)
     have aG:∀ b,seenF x av (.slice Q (got.length+a.length) R) b->X b\/q.heap.size<=b:=fun b hb=>by
      rcases hb with h | h | h
      · exact .inl ((J.out b).2 (.inl h))
      · exact .inl ((J.out b).2 (.inr (.inl h)))
      exact (L b h).imp (ad b) fun h=>h
     have T:=H_ aH;have aq:=H_ aE;have aw:=H_ aG;clear aM V ae a5 aH ad aE aG a0 r L Y x8 z8 bf x1 bh y0 bi lx ly a2 O;generalize w8.setCell ⟨x,1,none⟩ (.slice Q (got.length+a.length) R)=W9 at *;have v2:W9.cell? ⟨x,2,none⟩=some (.int .i64 rev):=cellAt T.out.obj 2 rfl;have f2:W9.frozen? ⟨x,2,none⟩=false:=(by unfold World.frozen?;rw [T.out.obj];simp);have lx:=zac T.out.obj;have bp:i.heap.size<q.heap.size:=zac l.out;have y9:W9.cell? ⟨i.heap.size,1,none⟩=some (.int .i64 E):=cellAt (aq.out.heap l.out fun hx=>by have:=aa.out.lt _ hx;have:=aX.out.size;omega) 1 rfl;have ly:=World.block_lt_of_cell? _ _ y9;go_wp2;obtain ⟨b7,r⟩:=T.out.put 2 (.int .i64 E) (rev':=E) (ended':=false) rfl;have b9:X x:=(J.out x).2 (.inl rfl);have bN:=ap.out.size
     have aF:Fr X q (W9.setCell ⟨x,2,none⟩ (.int .i64 E)):=aq.out.trans r fun b _ e=>by have e':b=x:=e;rw [e'];exact b9
     have a4:∀ b,X b->¬ B2 b:=fun b hb hx=>(au.out b hx).elim (HD.out b hb) fun h=>by have:=aa.out.lt b hb;omega
     exact bodyPost_end (results_none rfl _ _ _) rfl ⟨rfl,B2,seenF x av (.slice Q (got.length+a.length) R),am.out.fr hT aF fun b hb hx=>a4 b hx hb,⟨av,_,b7,fun b=>Iff.rfl⟩,(ap.out.mono fun _ _ hb=>.inl hb).trans aF fun b _ hb=>.inr hb,au.out,fun b hb=>(aw.out b hb).imp (fun h=>h) fun h=>by omega,fun b hb hx=>(aw.out b hb).elim (fun h=>a4 b h hx) fun h=>by have:=am.out.lt hT b hx;omega⟩
  | succ g =>
    as_aux_lemma =>
    have b6:(n:Int)<(a.length:Int):=(by omega);have bM:IntKind.i64.wrap (n:Int)=n:=(by rw [IntKind.wrap_i64];omega);have bq:IntKind.i64.wrap ((n:Int)+1)=n+1:=(by rw [IntKind.wrap_i64];omega);have bF:(0:Int)<=n:=(by omega);obtain ⟨gb,og,rfl⟩:=ax.out (by omega);obtain ⟨y,hy⟩:∃ y,a[n]?=some y:=⟨_,List.getElem?_eq_getElem (by omega)⟩;have G:=(A.out.fr0 P.out.drew).toR zaa;have e4:wr.drew.cell? ⟨gb,og+n * 13+1+3,none⟩=some (.int .i64 y.kv.mod):=G.of_add zaa n 4 hy rfl;have be:=World.block_lt_of_cell? _ _ e4;obtain ⟨b1,b2⟩:=M3.out y (List.mem_of_getElem? hy);have u2:wr.drew.cell? ⟨x,2,none⟩=some (.int .i64 rev):=cellAt (u.out.fr0 P.out.drew).obj 2 rfl;have z1:wr.drew.cell? ⟨i.heap.size,1,none⟩=some (.int .i64 E):=cellAt (P.out.drew.heap j.out fun h=>h) 1 rfl
    have a2:x<wr.drew.heap.size:=zac (u.out.fr0 P.out.drew).obj;have d1:decide (y.kv.mod<=rev)=false:=decide_eq_false (by omega);have d2:decide (y.kv.mod > E)=false:=decide_eq_false (by omega);have d3:decide (E<y.kv.mod)=false:=decide_eq_false (by omega);clear G hy;go_upto_region 11 with fail;refine zba (C:=fun Z=>Z=wr.drew) (by kernel_rfl) (by kernel_rfl) rfl ?_
    repeat (refine (wpQuiet_step (fun K hK=>?_):_)
            go_simp
            first
             | (refine hK _ ?_;clear hK K)
             | (apply Exists.intro
                refine ⟨fun W hW=>?_,hK _ ?_⟩
                (first
                  | exact rfl
                  | (subst hW;go_simp;exact rfl))
                clear hK K))
    refine (wpQuiet_nil ?_:_);intro w9 t;subst t;go_wp2;go_roundg g
    case rel=>exact ⟨n+1,by go_num,by omega,H_ P.out.drew⟩
    case measure=>omega
end
theorem zdf {t:Wt} {e:Ev} (h:e.kv.mod<t.frm):wantB t e=false:=by
 unfold wantB;rw [decide_eq_true h];simp
theorem zgo {t:Wt} {l:List Ev} (h:∀ e∈l,wantB t e=false):wantsW t l = []:=by
 unfold wantsW;rw [List.filter_eq_nil_iff.2 fun e he=>by rw [h e he];decide]
 rfl
def fromW (t:Wt) (f:Int):Wt:=⟨t.key,t.end_,f,t.np,t.nd,t.prev⟩
theorem zji {t:Wt} {f:Int} {e:Ev} (h1:t.frm<=e.kv.mod) (h2:f<=e.kv.mod):wantB (fromW t f) e=wantB t e:=by
 unfold wantB fromW;dsimp only;rw [decide_eq_false (by omega:¬ e.kv.mod<f),decide_eq_false (by omega:¬ e.kv.mod<t.frm)]
theorem SnInv.open {w t:Wt} {r0 fed:Int} {all:List Ev} (hw:∀ e:Ev,r0<e.kv.mod->wantB w e=wantB t e) (hp:w.prev=t.prev) (h0:0<=r0) (_h1:r0<=fed) (_h2:r0<t.frm) {p:Int} (hp1:r0+1<=p) (hp2:p<=fed+1) (hp3:p<=t.frm) :
 SnInv t r0 all fed ⟨w,[],p⟩ r0 [] where
 wt:=hw
 pv:=hp
 lb:=Int.le_refl _
 lb0:=h0
 p1:=hp1
 p2:=hp2
 got:=(zgo fun e he=>zdf (by
  have:=(List.mem_filter.1 he).2;simp at this;omega)).symm
 low:=fun e he=>zdf (by omega)
 buf:=(zgo fun e he=>zdf (by
  have:=(zgt.1 he).2.2;dsimp only at this;omega)).symm
 len:=by simp
theorem SnInv.openW {w:Wt} {H:Hb} {all:List Ev} (hf:0<=w.frm) (hF:0<=H.fed) :
 SnInv (if w.frm=0 then fromW w (H.fed+1) else w) (min ((if w.frm=0 then fromW w (H.fed+1) else w).frm-1) H.fed) all H.fed (openS H w) (min ((if w.frm=0 then fromW w (H.fed+1) else w).frm-1) H.fed) []:=by
 unfold openS;by_cases h0:w.frm=0
 · rw [if_pos h0,if_neg (by omega)]
   have e:(fromW w (H.fed+1)).frm=H.fed+1:=rfl;rw [e,show min (H.fed+1-1) H.fed=H.fed by omega];exact SnInv.open (fun e he=>(zji (by omega) (by omega)).symm) rfl hF (Int.le_refl _) (by rw [e];omega) (by omega) (by omega) (by rw [e];omega)
 rw [if_neg h0]
 split
 · rename_i h1
   rw [show min (w.frm-1) H.fed=w.frm-1 by omega];exact SnInv.open (fun _ _=>rfl) rfl (by omega) (by omega) (by omega) (by omega) (by omega) (by omega)
 rename_i h1
 rw [show min (w.frm-1) H.fed=H.fed by omega];exact SnInv.open (fun _ _=>rfl) rfl hF (Int.le_refl _) (by omega) (by omega) (by omega) (by omega)
theorem SnInv.openV {t:Wt} {H:Hb} {all:List Ev} {r:Int} (h0:0<=r) (h1:r<=H.fed):SnInv (fromW t (max (r+1) t.frm)) r all H.fed (openS H (fromW t (max (r+1) t.frm))) r []:=by
 unfold openS;have e:(fromW t (max (r+1) t.frm)).frm=max (r+1) t.frm:=rfl
 split
 · rename_i h2
   exact SnInv.open (fun _ _=>rfl) rfl h0 h1 (by rw [e];omega) (by rw [e];omega) (by rw [e] at h2 ⊢;omega) (by rw [e];omega)
 rename_i h2
 exact SnInv.open (fun _ _=>rfl) rfl h0 h1 (by rw [e];omega) (by omega) (by omega) (by rw [e] at h2 ⊢;omega)
theorem zjj (c:Int) (t:Wt) (l:List Ev):upto c (wantsW t l)=wantsW t (upto c l):=by
 unfold upto wantsW;rw [List.filter_map,List.filter_filter,List.filter_filter]
 congr 1
 refine List.filter_congr fun e _=>?_
 show (decide ((handE t e).kv.mod<=c)&&wantB t e)=(wantB t e&&decide (e.kv.mod<=c))
 rw [zmd,Bool.and_comm]
theorem zrm {a c:Int} (l:List Ev):upto a (upto c l)=upto (min a c) l:=by
 unfold upto;rw [List.filter_filter];refine List.filter_congr fun e _=>?_;rw [<-Bool.decide_and];exact decide_eq_decide.2 (by omega)
theorem ztz {a b c:Int} (l:List Ev):upto a (btw b c l)=btw b (min a c) l:=by
 unfold upto btw;rw [List.filter_filter];refine List.filter_congr fun e _=>?_;rw [<-Bool.decide_and,<-Bool.decide_and,<-Bool.decide_and];exact decide_eq_decide.2 (by omega)
def SnW (t:Wt) (b0:Int) (all:List Ev) (H:Hb) (id:Int) (rev:Int) (got:List Ev) (ended:Bool):Prop :=
 (ended=false/\∃ s,getH H.L id=some s/\SnInv t b0 all H.fed s rev got)\/(ended=true/\getH H.L id=none/\got=wantsW t (upto rev all)/\rev<=H.fed)
theorem SnW.got {t:Wt} {b0:Int} {all:List Ev} {H:Hb} {id rev:Int} {got:List Ev} {ended:Bool} (h:SnW t b0 all H id rev got ended):got=wantsW t (upto rev all)/\rev<=H.fed:=by
 rcases h with ⟨_,s,_,h⟩ | ⟨_,_,a,b⟩
 · have a:=h.p1
   have b:=h.p2;exact ⟨h.got,by omega⟩
 exact ⟨a,b⟩
theorem zkl (L:List (Int×Sm)) (i:Int):getH (delH L i) i=none:=by rw [zhl,if_pos rfl]
theorem SnW.take {t:Wt} {b0:Int} {all:List Ev} {H:Hb} {id rev:Int} {got:List Ev} {ended:Bool} (h:SnW t b0 all H id rev got ended) {D:Doc} (ht:Told D all) (hf:H.fed<=D.rev) :
 TakeOk D H id rev ended/\SnW t b0 all (takeH D H id) id (if ended=true\/(takeB D H id).cancel=true then rev else (takeB D H id).rev) (if ended=true\/(takeB D H id).cancel=true then got else got++(takeB D H id).evs) (ended||(takeB D H id).cancel):=by
 rcases h with ⟨rfl,s,c,h⟩ | ⟨rfl,c,q,r⟩
 · have d:=(zeo D H id).2.2
   have k:takeE H id=0:=(by unfold takeE;rw [c,if_neg (by simp)]);rcases h.take ht hf c with ⟨a,f,g,i⟩ | ⟨a,f,g,i,m,v,n,o⟩
   · refine ⟨⟨fun e=>(by cases e),fun _=>k,fun _ _=>⟨f,g,i⟩,fun _ e=>(by rw [a] at e;cases e)⟩,?_⟩
     rw [if_pos (.inr a),if_pos (.inr a),a,Bool.or_true];refine .inr ⟨rfl,?_,h.got,by have:=h.p1;have:=h.p2;rw [d];omega⟩;have b:=a;unfold takeB at b;unfold takeH;rw [c] at b ⊢
     dsimp only at b ⊢
     split
     · rename_i h3;rw [if_pos h3] at b;cases b
     rename_i h3
     rw [if_neg h3] at b
     split
     · exact zkl _ _
     rename_i h4;rw [if_neg h4] at b;cases b
   refine ⟨⟨fun e=>(by cases e),fun _=>k,fun _ e=>(by rw [a] at e;cases e),fun _ _=>⟨f,g,i,m⟩⟩,?_⟩
   have l:¬ ((false:Bool)=true\/(takeB D H id).cancel=true):=(by rw [a];simp);rw [if_neg l,if_neg l,a];exact .inl ⟨rfl,v,n,by rw [d];exact o⟩
 have j:takeH D H id=H:=by unfold takeH;rw [c]
 have u:takeB D H id=⟨[],0,false⟩:=(by unfold takeB;rw [c]);refine ⟨⟨fun _=>⟨by unfold takeE;rw [if_pos c],u,j⟩,fun e=>(by cases e),fun e=>(by cases e),fun e=>(by cases e)⟩,?_⟩;rw [if_pos (.inl rfl),if_pos (.inl rfl),j];exact .inr ⟨by simp,c,q,r⟩
theorem zjp (D:Doc) (H:Hb) (i:Int):getH (feed1 D H).L i=(getH H.L i).map (lookS D (H.fed+1)):=by
 unfold feed1 getH;dsimp only
 induction H.L with
 | nil=>rfl
 | cons p L ih =>
   rw [List.map_cons,List.find?_cons,List.find?_cons];dsimp only
   cases hp:p.1==i with
   | true=>rfl
   | false=>exact ih
theorem SnW.feed1 {t:Wt} {b0:Int} {all:List Ev} {H:Hb} {id rev:Int} {got:List Ev} {ended:Bool} (h:SnW t b0 all H id rev got ended) {D:Doc} (ht:Told D all):SnW t b0 all (feed1 D H) id rev got ended:=by
 rcases h with ⟨rfl,s,a,h⟩ | ⟨rfl,a,b,c⟩
 · exact .inl ⟨rfl,lookS D (H.fed+1) s,by rw [zjp,a];rfl,h.look ht⟩
 exact .inr ⟨rfl,by rw [zjp,a];rfl,b,by show rev<=H.fed+1;omega⟩
theorem SnW.feed {t:Wt} {b0:Int} {all:List Ev} {H:Hb} {id rev:Int} {got:List Ev} {ended:Bool} (h:SnW t b0 all H id rev got ended) {D:Doc} (ht:Told D all):SnW t b0 all (feedH D H) id rev got ended:=by
 unfold feedH;generalize (D.rev-H.fed).toNat=n
 induction n generalizing H with
 | zero=>exact h
 | succ n ih=>exact ih (h.feed1 ht)
theorem SnW.more {t:Wt} {b0:Int} {all:List Ev} {H:Hb} {id rev:Int} {got:List Ev} {ended:Bool} (h:SnW t b0 all H id rev got ended) {E:List Ev} (hE:∀ e∈E,H.fed<e.kv.mod):SnW t b0 (all++E) H id rev got ended:=by
 rcases h with ⟨rfl,s,a,h⟩ | ⟨rfl,a,c,d⟩
 · exact .inl ⟨rfl,s,a,h.more hE⟩
 refine .inr ⟨rfl,a,?_,d⟩
 have b:upto rev E = []:=List.filter_eq_nil_iff.2 fun e he=>by have:=hE e he;simp;omega
 rw [zdr,b,List.append_nil];exact c
theorem SnW.does {t:Wt} {b0:Int} {all:List Ev} {H:Hb} {id rev:Int} {got:List Ev} {ended:Bool} (h:SnW t b0 all H id rev got ended) {k:Nat} {S:St} {D:Doc} (hg:Good k S D) (hk:k<=200) {q:CalQ} (hq:fewCal q=true) (ht:Told D all) (hf:H.fed<=D.rev) :
 SnW t b0 (evsD D (doD S D q) all) H id rev got ended:=by
 obtain ⟨_,a,_⟩:=Told.does hg hk hq ht;unfold evsD
 split
 · rename_i hup
   exact h.more fun e he=>by have:=(a hup).2.2 e he;omega
 exact h
theorem zvh {k:Nat} {S:St} {D:Doc} (hg:Good k S D) (hk:k<=200) {q:CalQ} (hq:fewCal q=true) (all:List Ev):(evsD D (doD S D q) all).length<=all.length+11000000:=by
 unfold evsD
 split
 · have a:=zgf (hg.does hk hq) (doD S D q).rev
   have b:=(hg.does hk hq).ok.ev;rw [List.length_append];omega
 omega
theorem zbp {P:Program} {ops:Array Oper} {rest:List Oper} {op:Oper} {a:Act} {w:World} {Q:Exit->Act->World->Prop} (hw:Region.wanted op (yielded ops a.tmps)=true) (ty:TypeId) (x:Operand) (ho:op.op=.load ty x)
 (b o:Nat) (hx:a.eval x=.pointer (some ⟨b,o,none⟩)) (cs:List Value) (hc:w.rangeAt b o cs) (hu:(P.underlying ty).map TypeDesc.isRow=some true) (hi:(P.info? ty).map (·.size)=some cs.length)
 (h:wpList P ops Q rest (a.put op.dst (.agg cs.toArray)) w):wpList P ops Q (op :: rest) a w:=by
 obtain ⟨d,c,e⟩:=row_of hu;refine wpList_step fun K hK=>?_;simp only [hw,if_true];exact wp_load_mid ty x ho b o hx cs d hc c e hi (hK _ _ h)
theorem zrj {a:Int} (h:(Lit.int .i64 a).wf=true) : -9223372036854775808<=a/\a<=9223372036854775807:=by
 simp [Lit.wf,IntKind.min,IntKind.max,IntKind.signed,IntKind.bits] at h;omega
structure PreC (TA:zai) (w W:World) (h s x bw k:Nat) (S:St) (D:Doc) (H:Hb) (B X:Nat->Prop) (all got:List Ev) (rev:Int) (ended:Bool) (t:Wt):Prop where
 both:Both TA W h s k k S D H B
 seen:SeenAt W x all got rev ended X
 dis:∀ b,X b->¬ B b
 nb:∀ b,B b->w.heap.size<=b
 nx:∀ b,X b->w.heap.size<=b
 told:Told D all
 len:all.length<=k * 11000000
 fr:Fr No w W
 wb:W.heap[bw]?=some (.cells (wtC t).toArray 29 (0,0))
 lw:w.heap.size<=bw
 wB:¬ B bw
 wX:¬ X bw
section
variable {TA:zai} (hT:TreeOk TA 1000000) {w W W':World} {h s x bw k k':Nat} {S S':St} {D D':Doc} {H H':Hb} {B X B' X':Nat->Prop} {all got all' got':List Ev} {rev rev':Int} {ended ended':Bool} {t:Wt}
include hT
theorem PreC.fr0 (a:PreC TA w W h s x bw k S D H B X all got rev ended t) (hf:Fr No W W'):PreC TA w W' h s x bw k S D H B X all got rev ended t :=
 { a with both:=a.both.fr0 hT hf,seen:=a.seen.fr0 hf,fr:=a.fr.trans0 hf,wb:=hf.heap a.wb fun h=>h }
omit hT in
theorem PreC.goes (a:PreC TA w W h s x bw k S D H B X all got rev ended t) (b:SeenTo TA W W' h s x k' S' D' H' all' got' rev' ended' B X B' X') (ht:Told D' all') (hl:all'.length<=k' * 11000000) :
 PreC TA w W' h s x bw k' S' D' H' B' X' all' got' rev' ended' t:=by
 obtain ⟨b1,b2,c,d,e,f⟩:=b;have i:=a.fr.size;have g:=zac a.wb;exact { both:=b1,seen:=b2,dis:=f,nb:=fun b hb=>(d b hb).elim (a.nb b) fun h=>(by omega),nx:=fun b hb=>(e b hb).elim (a.nx b) fun h=>(by omega),told:=ht,len:=hl,fr:=a.fr.trans c fun b hb h=>h.elim (fun h=>by have:=a.nb b h;omega) fun h=>(by have:=a.nx b h;omega),wb:=c.heap a.wb fun h=>h.elim a.wB a.wX,lw:=a.lw,wB:=fun h=>(d _ h).elim a.wB fun h=>(by omega),wX:=fun h=>(e _ h).elim a.wX fun h=>(by omega) }
omit hT in
theorem PreC.mono (a:PreC TA w W h s x bw k S D H B X all got rev ended t) (hk:k<=k'):PreC TA w W h s x bw k' S D H B X all got rev ended t :=
 { a with both:=a.both.mono hk hk,len:=Nat.le_trans a.len (Nat.mul_le_mul_right _ hk) }
end
theorem zio (D:Doc) (H:Hb) {i j:Int} (h:j≠i):getH (takeH D H i).L j=getH H.L j:=by
 unfold takeH
 split
 · rfl
 rename_i s hs
 split
 · dsimp only
   rw [zeb hs,if_neg h]
 split
 · dsimp only
   rw [zhl,if_neg h]
 dsimp only
 rw [zeb hs,if_neg h]
theorem SnW.other {t:Wt} {b0:Int} {all:List Ev} {H H':Hb} {id rev:Int} {got:List Ev} {ended:Bool} (h:SnW t b0 all H id rev got ended) (h1:getH H'.L id=getH H.L id) (h2:H'.fed=H.fed):SnW t b0 all H' id rev got ended:=by
 rcases h with ⟨rfl,s,a,h⟩ | ⟨rfl,a,b,c⟩
 · exact .inl ⟨rfl,s,h1.trans a,by rw [h2];exact h⟩
 exact .inr ⟨rfl,h1.trans a,b,by rw [h2];exact c⟩
theorem SnW.takeOther {t:Wt} {b0:Int} {all:List Ev} {H:Hb} {id rev:Int} {got:List Ev} {ended:Bool} (h:SnW t b0 all H id rev got ended) (D:Doc) {i:Int} (hi:id≠i):SnW t b0 all (takeH D H i) id rev got ended :=
 h.other (zio D H hi) (zeo D H i).2.2
theorem SnW.openOther {t:Wt} {b0:Int} {all:List Ev} {H:Hb} {id rev:Int} {got:List Ev} {ended:Bool} (h:SnW t b0 all H id rev got ended) (hk:HbOk H) (v:Wt) (hi:id<=H.last):SnW t b0 all (openH H v) id rev got ended:=by
 have a:getH H.L (H.last+1)=none:=hk.none (.inl (by omega));refine h.other ?_ rfl
 show getH (H.L++[(H.last+1,openS H v)]) id=_
 rw [zga a,if_neg (by omega)]
theorem SnW.low {t:Wt} {b0:Int} {all:List Ev} {H:Hb} {id rev:Int} {got:List Ev} (h:SnW t b0 all H id rev got false):b0<=rev/\0<=b0/\rev<=H.fed:=by
 rcases h with ⟨_,s,c,h⟩ | ⟨h,_⟩
 · have a:=h.p1
   have b:=h.p2;exact ⟨h.lb,h.lb0,by omega⟩
 cases h
theorem zjm {t:Wt} {f:Int} (h:openE t=0) (hf:0<=f):openE (fromW t f)=0:=by
 unfold openE at h ⊢
 unfold fromW;dsimp only;by_cases h1:askE ⟨t.key,t.end_,0,0,false,false,false⟩=0
 · rw [if_neg (by simpa using h1),if_neg (by omega)]
 rw [if_pos h1] at h
 exact absurd h h1
theorem znb {t:Wt} {all0 more all:List Ev} {r0 r ry:Int} {got0 got gy:List Ev} (e0:got0=wantsW t (upto r0 all0)) (hall:all=all0++more) (hm:∀ e∈more,r0<e.kv.mod) (hup:ModUp all)
 (e1:got=wantsW t (upto r all)) (hr:r0<=r) (e2:gy=wantsW (fromW t (max (r0+1) t.frm)) (upto ry all)) (hry:r0<=ry):upto (min r ry) (got.drop got0.length)=upto (min r ry) gy:=by
 have a:got0=wantsW t (upto r0 all):=by
  rw [e0,hall,zdr];have:upto r0 more = []:=List.filter_eq_nil_iff.2 fun e he=>by have:=hm e he;simp;omega
  rw [this,List.append_nil]
 have f:got=got0++wantsW t (btw r0 r all):=by
  rw [e1,zcm hr hup,zay,<-a]
 rw [f,List.drop_left,zjj,ztz,e2,zjj,zrm];rw [show min (min r ry) ry=min r ry by omega,show min (min r ry) r=min r ry by omega];rw [zcm (b:=r0) (c:=min r ry) (by omega) hup,zay]
 have g:wantsW (fromW t (max (r0+1) t.frm)) (upto r0 all) = []:=zgo fun e he=>zdf (by
  have:=(List.mem_filter.1 he).2;simp at this
  show e.kv.mod<max (r0+1) t.frm
  omega)
 rw [g,List.nil_append];unfold wantsW
 have d:(btw r0 (min r ry) all).filter (wantB (fromW t (max (r0+1) t.frm)))=(btw r0 (min r ry) all).filter (wantB t):=List.filter_congr fun e he=>by
  have i:=(zgt.1 he).2.1;by_cases hf:t.frm<=e.kv.mod
  · exact zji hf (by omega)
  rw [zdf (t:=t) (by omega),zdf]
  show e.kv.mod<max (r0+1) t.frm
  omega
 rw [d]
 rfl
section
variable {TA:zai} (hT:TreeOk TA 1000000) {w W W':World} {h s x y bw k k':Nat} {S S':St} {D D':Doc} {H H':Hb} {B X Y B' X' Y':Nat->Prop} {all got all' got':List Ev} {rev rev':Int} {ended ended':Bool} {t:Wt}
include hT
theorem zhx (hb:Both TA W h s k k S D H B) (hk:k<=199) {a0:List Ev} (hx:SeenAt W x a0 got rev ended X) (hd:∀ b,X b->¬ B b) (ht:Told D all) (hlen:all.length<=k * 11000000) {t':Wt} {b0 id:Int} (hid:(Lit.int .i64 id).wf=true) (hs:SnW t' b0 all H id rev got ended) :
 Calls Tryz.prog 21 #[.pointer (some ⟨x,0,none⟩),.pointer (some ⟨s,0,none⟩),.pointer (some ⟨h,0,none⟩),.int .i64 id] W fun e W'=>e=.returned (.tuple #[])/\∃ B' X' got' rev' ended',
  SeenTo TA W W' h s x k S D (takeH D H id) a0 got' rev' ended' B X B' X'/\SnW t' b0 all (takeH D H id) id rev' got' ended'/\rev<=rev':=by
 have f:=hb.p.fed;obtain ⟨d,j⟩:=hs.take ht f;have m:=hb.p.sizes (by omega)
 have key:∀ W',zft TA W W' h s x k S D H id a0 got rev ended B X->∃ B' X' got' rev' ended',SeenTo TA W W' h s x k S D (takeH D H id) a0 got' rev' ended' B X B' X'/\SnW t' b0 all (takeH D H id) id rev' got' ended'/\rev<=rev':=by
  rintro W' ⟨B',X',i⟩;refine ⟨B',X',_,_,_,i,j,?_⟩
  split
  · exact Int.le_refl _
  rename_i hn
  have a:ended=false:=by cases ended with | true=>exact absurd (.inl rfl) hn | false=>rfl
  have c:(takeB D H id).cancel=false:=by cases hc:(takeB D H id).cancel with | true=>exact absurd (.inr hc) hn | false=>rfl
  exact (d.more a c).1
 cases hen:ended with
 | true =>
   subst hen;exact (zru hT hb (by omega) hid hx hd d).mono fun e W' ⟨a,c⟩=>⟨a,key W' c⟩
 | false =>
   subst hen
   cases hc:(takeB D H id).cancel with
   | true =>
     have l : -1<=rev/\rev<=4611686018427387903:=by
      have:=hs.low;omega
     exact (zmu hT hb (by omega) hid hx hd d hc l).mono fun e W' ⟨a,c⟩=>⟨a,key W' c⟩
   | false =>
     have g:got.length+(takeB D H id).evs.length<=2300000000:=by
      have a:=j.got.1;rw [hc] at a;have c:=congrArg List.length a;rw [if_neg (by simp),List.length_append] at c;have n:=zcd t' (upto (takeB D H id).rev all);have o:(upto (takeB D H id).rev all).length<=all.length:=List.length_filter_le _ _;rw [if_neg (by simp)] at c;omega
     exact (zrw hT hb (by omega) hid hx hd d hc g).mono fun e W' ⟨a,c⟩=>⟨a,key W' c⟩
theorem PreC.stepTo (hTD:TreeDl TA) (a:PreC TA w W h s x bw k S D H B X all got rev ended t) (hk:k<=199) {q:ActQ} (hq1:fewCal q.call=true) (hq2:q.w.key.size<=3000) (hfr:(Lit.int .i64 q.w.frm).wf=true) (ho:SlR w 10 opC q.call.1.ops q.call.2.1) (hks:SlR w 1 strC q.call.1.keys q.call.2.2) :
 Calls Tryz.prog 22 #[.pointer (some ⟨x,0,none⟩),.pointer (some ⟨s,0,none⟩),.pointer (some ⟨h,0,none⟩),.agg (actC q).toArray] W fun e W'=>e=.returned (.tuple #[])/\∃ S' D' H' B' X' more,
  PreC TA w W' h s x bw (k+1) S' D' H' B' X' (all++more) got rev ended t/\SeenTo TA W W' h s x (k+1) S' D' H' (all++more) got rev ended B X B' X'/\H'.last=H.last/\(∀ e∈more,D.rev<e.kv.mod)/\D.rev<=D'.rev/\(∀ t' b0 id r g e,SnW t' b0 all H id r g e->SnW t' b0 (all++more) H' id r g e):=by
 have d:=a.len;have n:all.length<=2300000000:=by omega
 refine (zpq hT (actF hT hTD a.both (by omega) hq1 hq2 hfr ho hks a.nb a.fr) a.both hk hq1 a.seen a.dis a.told n).mono ?_;rintro e W' ⟨rfl,B',X',b⟩;have l:=a.both.p.good;have j:=a.both.p.fed;by_cases h2:kindN q.kind<=2
 · rw [if_pos h2,if_pos h2,if_pos h2,if_neg (by omega)] at b
   have A:=Told.does l (by omega) hq1 a.told;have i:=zvh l (by omega) hq1 all;have m:(evsD D (doD S D q.call) all).length<=(k+1) * 11000000:=(by rw [Nat.succ_mul];exact Nat.le_trans i (Nat.add_le_add_right d _));have f:=fun t' b0 id r g e (hs:SnW t' b0 all H id r g e)=>hs.does l (by omega) hq1 a.told j;have c:=a.goes b A.1 m
   have y:∃ more,evsD D (doD S D q.call) all=all++more/\(∀ e∈more,D.rev<e.kv.mod)/\D.rev<=(doD S D q.call).rev:=by
    obtain ⟨_,C,z⟩:=A;unfold evsD;by_cases hup:D.rev<(doD S D q.call).rev
    · rw [if_pos hup]
      exact ⟨_,rfl,fun e he=>by have:=(C hup).2.2 e he;omega,z⟩
    rw [if_neg hup]
    exact ⟨[],(List.append_nil _).symm,fun e he=>by simp at he,z⟩
   obtain ⟨more,o,u,v⟩:=y;rw [o] at b c f;exact ⟨rfl,_,_,_,B',X',more,c,b,rfl,u,v,f⟩
 rw [if_neg h2,if_neg h2,if_neg h2] at b
 have c:=a.goes b a.told (Nat.le_trans d (Nat.mul_le_mul_right _ (Nat.le_succ k)));refine ⟨rfl,_,_,_,B',X',[],by rw [List.append_nil];exact c,by rw [List.append_nil];exact b,?_,fun e he=>by simp at he,Int.le_refl _,fun t' b0 id r g e hs=>?_⟩
 · split
   · exact (zti D H).2
   rfl
 rw [List.append_nil]
 split
 · exact hs.feed a.told
 exact hs
end
structure Two (TA:zai) (w W:World) (h s x y bw k:Nat) (S:St) (D:Doc) (H:Hb) (B X Y:Nat->Prop) (all gx:List Ev) (rx:Int) (ex:Bool) (gy:List Ev) (ry:Int) (ey:Bool) (t:Wt):Prop where
 p:PreC TA w W h s x bw k S D H B X all gx rx ex t
 sy:SeenAt W y [] gy ry ey Y
 yB:∀ b,Y b->¬ B b
 yX:∀ b,Y b->¬ X b
 ny:∀ b,Y b->w.heap.size<=b
 wY:¬ Y bw
section
variable {TA:zai} {w W W':World} {h s x y bw k k':Nat} {S S':St} {D D':Doc} {H H':Hb} {B X Y B' X' Y':Nat->Prop} {all gx all' gx' gy gy':List Ev} {rx rx' ry ry':Int} {ex ex' ey ey':Bool} {t:Wt}
theorem Two.fr0 (hT:TreeOk TA 1000000) (a:Two TA w W h s x y bw k S D H B X Y all gx rx ex gy ry ey t) (hf:Fr No W W'):Two TA w W' h s x y bw k S D H B X Y all gx rx ex gy ry ey t :=
 { a with p:=a.p.fr0 hT hf,sy:=a.sy.fr0 hf }
theorem Two.mono (a:Two TA w W h s x y bw k S D H B X Y all gx rx ex gy ry ey t) (hk:k<=k'):Two TA w W h s x y bw k' S D H B X Y all gx rx ex gy ry ey t :=
 { a with p:=a.p.mono hk }
theorem Two.goX (a:Two TA w W h s x y bw k S D H B X Y all gx rx ex gy ry ey t) (b:SeenTo TA W W' h s x k' S' D' H' all' gx' rx' ex' B X B' X') (c:PreC TA w W' h s x bw k' S' D' H' B' X' all' gx' rx' ex' t):Two TA w W' h s x y bw k' S' D' H' B' X' Y all' gx' rx' ex' gy ry ey t:=by
 obtain ⟨_,_,f,g,i,_⟩:=b;have d:=a.sy.lt;exact { p:=c,sy:=a.sy.fr f fun b hb e=>e.elim (a.yB b hb) (a.yX b hb),yB:=fun b hb e=>(g b e).elim (a.yB b hb) fun h=>(by have:=d b hb;omega),yX:=fun b hb e=>(i b e).elim (a.yX b hb) fun h=>(by have:=d b hb;omega),ny:=a.ny,wY:=a.wY }
theorem Two.goY (a:Two TA w W h s x y bw k S D H B X Y all gx rx ex gy ry ey t) (b:SeenTo TA W W' h s y k S D H' [] gy' ry' ey' B Y B' Y'):Two TA w W' h s x y bw k S D H' B' X Y' all gx rx ex gy' ry' ey' t:=by
 obtain ⟨b1,b2,c,d,f,i⟩:=b;have m:=a.p.fr.size;have j:=zac a.p.wb;have g:=a.p.seen.lt;have l:PreC TA w W' h s x bw k S D H' B' X all gx rx ex t:={ both:=b1,seen:=a.p.seen.fr c fun b hb e=>e.elim (a.p.dis b hb) fun e=>a.yX b e hb,dis:=fun b hb e=>(d b e).elim (a.p.dis b hb) fun h=>(by have:=g b hb;omega),nb:=fun b hb=>(d b hb).elim (a.p.nb b) fun h=>(by omega),nx:=a.p.nx,told:=a.p.told,len:=a.p.len,fr:=a.p.fr.trans c fun b hb h=>h.elim (fun h=>by have:=a.p.nb b h;omega) fun h=>(by have:=a.ny b h;omega),wb:=c.heap a.p.wb fun h=>h.elim a.p.wB a.wY,lw:=a.p.lw,wB:=fun h=>(d _ h).elim a.p.wB fun h=>(by omega),wX:=a.p.wX }
 exact { p:=l,sy:=b2,yB:=i,yX:=fun b hb e=>(f b hb).elim (fun h=>a.yX b h e) fun h=>(by have:=g b e;omega),ny:=fun b hb=>(f b hb).elim (a.ny b) fun h=>(by omega),wY:=fun h=>(f _ h).elim a.wY fun h=>(by omega) }
end
end Go.Proofs.YtdgkdfmfoonbpaaGreat