/- Own lemmas. -/
import Derived.Test.YtdgkdfmfoonbpaaGreatQ39
import Derived.ProofKit
import Derived.Deep.Slices
import Derived.Deep.Fields
import Derived.ChangeSame
namespace Go.Proofs.YtdgkdfmfoonbpaaGreat
open Go Go.Proofs Go.RowKit
set_option maxRecDepth 100000
set_option maxHeartbeats 16000000
def RtTo (w w':World) (x:Nat) (G:Nat->Prop) (D:Doc) (H:Hb) (id:Int) (e:Ending):Prop :=
 ∃ v,e=.returned (.tuple #[batV v (takeB D H id),.int .i64 (takeE H id)])/\SlF w' 72 13 evC v (takeB D H id).evs/\RhTo w w' x (takeH D H id) G
def wTake (w:World) (D:Doc) (u1 u2:Value):World:=(w.alloc (Obj.cells #[.int .i64 D.rev,.int .i64 D.mark,u1,u2] 76)).alloc (Obj.cells #[.slice none 0 0,.int .i64 0,.bool false] 86)
theorem zed (w:World) (D:Doc) (u1 u2:Value):Fr No w (wTake w D u1 u2)/\(wTake w D u1 u2).heap[w.heap.size]?=some (.cells #[.int .i64 D.rev,.int .i64 D.mark,u1,u2] 76 (0,0))/\(wTake w D u1 u2).heap[w.heap.size+1]?=some (.cells #[.slice none 0 0,.int .i64 0,.bool false] 86 (0,0))/\(wTake w D u1 u2).heap.size=w.heap.size+2 :=
 ⟨((Fr.refl No w).alloc _).alloc _,zar (zad w _ _ rfl) _,zad _ _ _ (Array.size_push ..).symm,(Array.size_push ..).trans (congrArg (· + 1) (Array.size_push ..))⟩
theorem zso {w:World} {x:Nat} {v:Value} {P:List ((Int×Sm)×Value)} {H:Hb} {G:Nat->Prop} (h:RhR w x v P H G) (hlen:P.length<=100000) (D:Doc) (a1 a2:Option Addr) (n1 k1 n2 k2:Nat) (id:Int) (hl:H.L.findIdx? (fun p=>p.1==id)=none) :
 Calls Tryz.prog 33 #[.pointer (some ⟨x,0,none⟩),docV D (.slice a1 n1 k1) (.slice a2 n2 k2),.int .i64 id] w fun e w'=>RtTo w w' x G D H id e:=by
 have y:Hid (takeE H id=36/\takeB D H id=⟨[],0,false⟩/\takeH D H id=H):=H_ (by unfold takeE takeB takeH;rw [znp hl];exact ⟨if_pos rfl,rfl,rfl⟩);obtain ⟨n,_,a,_⟩:=zed w D (.slice a1 n1 k1) (.slice a2 n2 k2);have c:=zfh (h.fr0 n) hlen id
 rw [show idxH H.L id = -1 by unfold idxH;rw [hl]] at c;have s:=H_ h
 have i:=H_ c;have d:(w.alloc (Obj.cells #[.int .i64 D.rev,.int .i64 D.mark,.slice a1 n1 k1,.slice a2 n2 k2] 76)).alloc (Obj.cells #[.slice none 0 0,.int .i64 0,.bool false] 86)=wTake w D (.slice a1 n1 k1) (.slice a2 n2 k2):=rfl;have k:=H_ d;clear h c hl d;unfold docV;go_enter Tryz.func33,Tryz.ntmps33;go_upto_region 1 with fail;rw [k.out];generalize wTake w D (.slice a1 n1 k1) (.slice a2 n2 k2)=W at *;have J:W.cell? ⟨w.heap.size+1,0,none⟩=some (.slice none 0 0):=cellAt a 0 rfl;have K:W.cell? ⟨w.heap.size+1,1,none⟩=some (.int .i64 0):=cellAt a 1 rfl;have M:W.cell? ⟨w.heap.size+1,2,none⟩=some (.bool false):=cellAt a 2 rfl;have I:=zab a;have g:∀ j,W.frozen? ⟨w.heap.size+1,j,none⟩=false:=fun j=>by unfold World.frozen?;rw [a];rfl
 have C:=g 0;have E:=g 1;have F:=g 2;obtain ⟨Z,o,q,f⟩:=zdm a (.slice none 0 0) (.int .i64 0) (.bool false);have u:=H_ o;have b:=H_ q;have l:=H_ f;have t:=H_ n;clear o q f g a n;go_wp2_with (go_at_call 63;(with_reducible refine i.out.mono ?_);rintro e w1 ⟨rfl,rfl⟩);rw [<-u.out];have N:Z.cell? ⟨w.heap.size+1,0,none⟩=some (.slice none 0 0):=cellAt b.out 0 rfl;have O:Z.cell? ⟨w.heap.size+1,1,none⟩=some (.int .i64 0):=cellAt b.out 1 rfl;have Q:Z.cell? ⟨w.heap.size+1,2,none⟩=some (.bool false):=cellAt b.out 2 rfl;refine bodyPost_ret (v:=.tuple #[batV (.slice none 0 0) ⟨[],0,false⟩,.int .i64 36]) (w:=Z) (by rw [results_cell_tmp rfl];go_simp;rfl) rfl ?_
 have m:Fr No w Z:=t.out.trans l.out fun j hj e=>by
  have B:j=w.heap.size+1:=e;omega
 obtain ⟨z,r,A⟩:=y.out;exact ⟨.slice none 0 0,by rw [z,r],by rw [r];exact SlF.nil _ _ _ _,by rw [A];exact s.out.to m⟩
structure Rt (w:World) (x:Nat) (P:List ((Int×Sm)×Value)) (H:Hb) (G:Nat->Prop) (id:Int) (i ga oa cap:Nat) (s:Sm) (u:Value):Prop where
 r:RhR w x (.slice (some ⟨ga,oa,none⟩) P.length cap) P H G
 at_:P[i]?=some ((id,s),u)
 get:getH H.L id=some s
 idx:idxH H.L id=i
 set_:∀ s',setH H.L id s'=H.L.set i (id,s')
theorem rt_of {w:World} {x:Nat} {v:Value} {P:List ((Int×Sm)×Value)} {H:Hb} {G:Nat->Prop} (h:RhR w x v P H G) (hk:HbOk H) {id:Int} {i:Nat} (hl:H.L.findIdx? (fun p=>p.1==id)=some i) :
 ∃ ga oa cap s u,v=.slice (some ⟨ga,oa,none⟩) P.length cap/\Rt w x P H G id i ga oa cap s u:=by
 obtain ⟨s,c,f⟩:=zno hl;have d:(P.map (·.1))[i]?=some (id,s):=by rw [h.map];exact c
 rw [List.getElem?_map] at d;obtain ⟨p,e,b⟩:=Option.map_eq_some_iff.1 d;obtain ⟨j,_⟩:=gS_ e;obtain ⟨a,cap,rfl,k,l,g⟩:=h.sl.shape;obtain ⟨ga,oa,rfl⟩:=g (by omega);exact ⟨ga,oa,cap,s,p.2,rfl,h,by rw [e,<-b],f,by unfold idxH;rw [hl],fun s'=>set_at hk.up c s'⟩
theorem zzac {w W w3 Z:World} {x g:Nat} {H:Hb} {G:Nat->Prop} (h1:Fr No w W) (h2:RhTo W w3 x H G) (h3:Fr (fun j=>j=g) w3 Z) (hg:w.heap.size<=g/\g<W.heap.size) (hG:∀ b,G b->b<w.heap.size):RhTo w Z x H G:=by
 obtain ⟨⟨v,P,a⟩,f⟩:=h2;have i:=h1.size;have k:=f.size;have l:=h3.size
 have d:∀ b,growG G W w3 b->b≠g:=fun b c e=>by
  rcases c with c | c
  · have:=hG b c
    omega
  omega
 refine ⟨⟨v,P,(a.fr (Y:=fun j=>j=g) h3 d).more (fun b c=>c.imp (fun h=>h) fun h=>⟨by omega,by omega⟩) fun b c=>?_⟩,?_⟩
 · rcases c with c | c
   · have:=hG b c
     omega
   exact c.2
 refine ((h1.mono (T:=G) fun _ _ h=>h.elim).trans f fun _ _ h=>h).trans h3 fun j hj e=>?_
 have m:j=g:=e;omega
theorem row130:(Tryz.prog.underlying 130).map TypeDesc.isRow=some true:=by kernel_rfl
theorem info130l (x:(Int×Sm)×Value):(Tryz.prog.info? 130).map (·.size)=some (rsC x).length:=by rw [zaj];kernel_rfl
theorem zvk {w:World} {x:Nat} {P:List ((Int×Sm)×Value)} {H:Hb} {G:Nat->Prop} {id:Int} {i ga oa cap:Nat} {s:Sm} {u:Value} (t:Rt w x P H G id i ga oa cap s u) (hlen:P.length<=100000) (D:Doc) (a1 a2:Option Addr) (n1 k1 n2 k2:Nat) (hb:0<s.buf.length) (hp0:0<=s.place) (hp1:s.place<=4000001) :
 Calls Tryz.prog 33 #[.pointer (some ⟨x,0,none⟩),docV D (.slice a1 n1 k1) (.slice a2 n2 k2),.int .i64 id] w fun e w'=>RtTo w w' x G D H id e:=by
 have hq:Hid (takeE H id=0/\takeB D H id=⟨s.buf,s.place-1,false⟩/\takeH D H id=⟨H.fed,H.last,H.L.set i (id,⟨s.w,[],s.place⟩)⟩):=H_ (by unfold takeE takeB takeH;rw [t.get];exact ⟨if_neg (by simp),if_pos hb,by dsimp only;rw [if_pos hb,t.set_]⟩);obtain ⟨hf,_,K,Q⟩:=zed w D (.slice a1 n1 k1) (.slice a2 n2 k2);have a4:=H_ Q;clear Q;have V:=t.r.fr0 hf;have B:=zfh V hlen id
 rw [t.idx] at B;obtain ⟨hi,_⟩:=gS_ t.at_;obtain ⟨l,a,M,a8,a9,aa⟩:=(V.buf _ (gM_ t.at_)).1.shape;dsimp only at M;subst M;have f:=H_ t;have g:=H_ V
 have X:=H_ B;have N:(w.alloc (Obj.cells #[.int .i64 D.rev,.int .i64 D.mark,.slice a1 n1 k1,.slice a2 n2 k2] 76)).alloc (Obj.cells #[.slice none 0 0,.int .i64 0,.bool false] 86)=wTake w D (.slice a1 n1 k1) (.slice a2 n2 k2):=rfl;have F:=H_ N;have ao:¬ (i:Int)<0:=by omega
 have ap:(0:Int)<=(i:Int):=by omega
 have aq:(i:Int)<(P.length:Int):=by omega
 have au:IntKind.i64.wrap (s.place-1)=s.place-1:=by rw [IntKind.wrap_i64];omega
 have am:(0:Int)<(s.buf.length:Int):=by omega
 clear t V B N a8 a9 aa;unfold docV;go_enter Tryz.func33,Tryz.ntmps33;go_upto_region 1 with fail;rw [F.out];clear F;generalize wTake w D (.slice a1 n1 k1) (.slice a2 n2 k2)=W at *;go_upto_region 4 with (go_at_call 63;(with_reducible refine X.out.mono ?_);rintro e w1 ⟨rfl,rfl⟩);have c2:W.cell? ⟨x,2,none⟩=some (.slice (some ⟨ga,oa,none⟩) P.length cap):=cellAt g.out.obj 2 rfl;have lx:=zab g.out.obj;have C:=g.out.sl.toR zaj;have RG:=H_ (C.rangeAt zaj i f.out.at_);have lg:ga<W.heap.size:=gB_ _ _ (C.cell0 zaj i f.out.at_ rfl);have a5:=H_ (g.out.ones _ (gM_ f.out.at_));have o:=H_ (zad W (.cells (rsC ((id,s),.slice l s.buf.length a)).toArray 130) _ rfl)
 have q:Hid (Fr No W (W.alloc (.cells (rsC ((id,s),.slice l s.buf.length a)).toArray 130))):=H_ ((Fr.refl No W).alloc _);clear C
 go_upto_region 5 with (first
  | (with_reducible show wpList _ _ _ ({ dst:=some 27,op:=_,type:=_,pos:=_,after:=_,guard:=_ } :: _) _ _
     refine zax rfl 130 _ rfl ga (oa+i * 9) rfl (rsC ((id,s),.slice l s.buf.length a)) RG.out row130 (info130l _) ?_)
  | (with_reducible show wpList _ _ _ ({ dst:=none,op:=_,type:=_,pos:=_,after:=_,guard:=_ } :: _) _ _
     refine zbl rfl rfl 130 _ _ rfl _ (rsC ((id,s),.slice l s.buf.length a)) rfl rfl (info130l _) (by rw [zaj];rfl) a5.out ?_))
 clear c2 lx lg RG;have k:=H_ (g.out.fr0 q.out);have n:=q.out.heap K fun h=>h;generalize W.alloc (.cells (rsC ((id,s),.slice l s.buf.length a)).toArray 130)=S at *;have k7:S.cell? ⟨W.heap.size,7,none⟩=some (.slice l s.buf.length a):=cellAt o.out 7 rfl;have lb:=zab o.out;have c2:S.cell? ⟨x,2,none⟩=some (.slice (some ⟨ga,oa,none⟩) P.length cap):=cellAt k.out.obj 2 rfl;have lx:=zab k.out.obj;have r7:S.cell? ⟨ga,oa+i * 9+7,none⟩=some (.slice l s.buf.length a):=(k.out.sl.toR zaj).of_add zaj i 7 f.out.at_ rfl;have f7:=k.out.sl.free (oa+i * 9+7);have lg:=gB_ _ _ r7;go_upto_region 7 with fail;obtain ⟨J,m⟩:=k.out.emptied f.out.at_;have an:ga<w.heap.size:=f.out.r.lt ga (f.out.r.own.2.2 ga rfl);have c:=m.heap n fun e=>by omega
 have d:=m.heap o.out fun e=>by have:=a4.out;omega
 have a3:=H_ J;have a0:=H_ m;clear k7 lb c2 lx r7 f7 lg J m n;generalize S.setCell ⟨ga,oa+i * 9+7,none⟩ (.slice none 0 0)=E at *;have k7:E.cell? ⟨W.heap.size,7,none⟩=some (.slice l s.buf.length a):=cellAt d 7 rfl;have k8:E.cell? ⟨W.heap.size,8,none⟩=some (.int .i64 s.place):=cellAt d 8 rfl;have lb:=zab d;have y0:E.cell? ⟨w.heap.size+1,0,none⟩=some (.slice none 0 0):=cellAt c 0 rfl;have y1:E.cell? ⟨w.heap.size+1,1,none⟩=some (.int .i64 0):=cellAt c 1 rfl;have y2:E.cell? ⟨w.heap.size+1,2,none⟩=some (.bool false):=cellAt c 2 rfl;have ly:=zab c;have U:∀ j,E.frozen? ⟨w.heap.size+1,j,none⟩=false:=fun j=>by unfold World.frozen?;rw [c];rfl
 have f0:=U 0;have f1:=U 1;have f2:=U 2;obtain ⟨Z,hZ,hz,R⟩:=zdm c (.slice l s.buf.length a) (.int .i64 (s.place-1)) (.bool false);have HZ:=H_ hZ;have z:=H_ hz;have I:=H_ R;have HF:=H_ hf;clear hZ hz R U K hf c d;go_wp2;rw [<-HZ.out];have z0:Z.cell? ⟨w.heap.size+1,0,none⟩=some (.slice l s.buf.length a):=cellAt z.out 0 rfl;have z1:Z.cell? ⟨w.heap.size+1,1,none⟩=some (.int .i64 (s.place-1)):=cellAt z.out 1 rfl;have z2:Z.cell? ⟨w.heap.size+1,2,none⟩=some (.bool false):=cellAt z.out 2 rfl;refine bodyPost_ret (v:=.tuple #[batV (.slice l s.buf.length a) ⟨s.buf,s.place-1,false⟩,.int .i64 0]) (w:=Z) (by rw [results_cell_tmp rfl];go_simp;rfl) rfl ?_;obtain ⟨q1,q2,q3⟩:=hq.out;have O:∀ y,y<w.heap.size->y≠w.heap.size+1:=fun y hy=>by omega
 have A:Fr (fun y=>y=ga) w Z:=((((HF.out.trans0 q.out).mono (T:=fun y=>y=ga) fun _ _ h=>h.elim).trans a0.out fun _ _ h=>h)).trans I.out fun j hj e=>absurd e (O j hj);obtain ⟨b1,b2⟩:=f.out.r.buf _ (gM_ f.out.at_);rw [RtTo,q1,q2,q3];refine ⟨_,rfl,b1.fr A fun b hb e=>(b2 b hb).2.2 (by rw [e];rfl),⟨_,_,(a3.out.fr (Y:=fun y=>y=w.heap.size+1) I.out fun b hb e=>?_).more (fun b hb=>.inl hb) fun b hb=>?_⟩,A.mono fun y _ e=>by rw [e];exact f.out.r.own.2.2 ga rfl⟩
 · exact O b (f.out.r.lt b hb) e
 rcases hb with hb | hb
 · exact nL_ (f.out.r.lt b hb) A.size
 exact hb.2
theorem zsp {w:World} {x:Nat} {P:List ((Int×Sm)×Value)} {H:Hb} {G:Nat->Prop} {id:Int} {i ga oa cap:Nat} {s:Sm} {u:Value} (t:Rt w x P H G id i ga oa cap s u) (hk:HbOk H) (hlen:P.length<=100000) (D:Doc) (a1 a2:Option Addr) (n1 k1 n2 k2:Nat) (hb:¬ 0<s.buf.length) (hg1:s.place<=H.fed) (hg2:s.place<D.mark) :
 Calls Tryz.prog 33 #[.pointer (some ⟨x,0,none⟩),docV D (.slice a1 n1 k1) (.slice a2 n2 k2),.int .i64 id] w fun e w'=>RtTo w w' x G D H id e:=by
 have hq:Hid (takeE H id=0/\takeB D H id=⟨[],D.mark,true⟩/\takeH D H id=closeH H id):=H_ (by unfold takeE takeB takeH closeH;rw [t.get];exact ⟨if_neg (by simp),by dsimp only;rw [if_neg hb,if_pos ⟨hg1,hg2⟩],by dsimp only;rw [if_neg hb,if_pos ⟨hg1,hg2⟩,if_neg (by simp)]⟩);obtain ⟨hf,O,M,S⟩:=zed w D (.slice a1 n1 k1) (.slice a2 n2 k2);have ai:=H_ S;clear S;have X:=t.r.fr0 hf;have A:=zfh X hlen id
 rw [t.idx] at A;obtain ⟨hi,_⟩:=gS_ t.at_;obtain ⟨E,b,Q,a7,a8,a9⟩:=(X.buf _ (gM_ t.at_)).1.shape;dsimp only at Q;subst Q;have I:=H_ t;have HK:=H_ hk;have d:=H_ X
 have Y:=H_ A;have R:(w.alloc (Obj.cells #[.int .i64 D.rev,.int .i64 D.mark,.slice a1 n1 k1,.slice a2 n2 k2] 76)).alloc (Obj.cells #[.slice none 0 0,.int .i64 0,.bool false] 86)=wTake w D (.slice a1 n1 k1) (.slice a2 n2 k2):=rfl;have J:=H_ R;have ap:¬ (i:Int)<0:=by omega
 have aq:(0:Int)<=(i:Int):=by omega
 have ar:(i:Int)<(P.length:Int):=by omega
 have am:¬ (0:Int)<(s.buf.length:Int):=by omega
 have an:decide (s.place<=H.fed)=true:=dT_ hg1;have ao:decide (s.place<D.mark)=true:=dT_ hg2;clear t X A R a7 a8 a9 hk;unfold docV;go_enter Tryz.func33,Tryz.ntmps33;go_upto_region 1 with fail;rw [J.out];clear J;generalize wTake w D (.slice a1 n1 k1) (.slice a2 n2 k2)=W at *;go_upto_region 4 with (go_at_call 63;(with_reducible refine Y.out.mono ?_);rintro e w1 ⟨rfl,rfl⟩);have c2:W.cell? ⟨x,2,none⟩=some (.slice (some ⟨ga,oa,none⟩) P.length cap):=cellAt d.out.obj 2 rfl;have lx:=zab d.out.obj;have B:=d.out.sl.toR zaj;have RG:=H_ (B.rangeAt zaj i I.out.at_);have lg:ga<W.heap.size:=gB_ _ _ (B.cell0 zaj i I.out.at_ rfl);have L:=H_ (d.out.ones _ (gM_ I.out.at_))
 have l:=H_ (zad W (.cells (rsC ((id,s),.slice E s.buf.length b)).toArray 130) _ rfl);have f:Hid (Fr No W (W.alloc (.cells (rsC ((id,s),.slice E s.buf.length b)).toArray 130))):=H_ ((Fr.refl No W).alloc _);clear B
 go_upto_region 5 with (first
  | (with_reducible show wpList _ _ _ ({ dst:=some 27,op:=_,type:=_,pos:=_,after:=_,guard:=_ } :: _) _ _
     refine zax rfl 130 _ rfl ga (oa+i * 9) rfl (rsC ((id,s),.slice E s.buf.length b)) RG.out row130 (info130l _) ?_)
  | (with_reducible show wpList _ _ _ ({ dst:=none,op:=_,type:=_,pos:=_,after:=_,guard:=_ } :: _) _ _
     refine zbl rfl rfl 130 _ _ rfl _ (rsC ((id,s),.slice E s.buf.length b)) rfl rfl (info130l _) (by rw [zaj];rfl) L.out ?_))
 clear c2 lx lg RG;have y:=H_ (d.out.fr0 (f.out.drew));have o:=H_ (f.out.heap M fun h=>h);have c:=H_ (f.out.heap O fun h=>h);have a3:Hid (Fr No w (W.alloc (.cells (rsC ((id,s),.slice E s.buf.length b)).toArray 130)).drew):=H_ (hf.trans0 f.out.drew);clear M O hf d f L;generalize W.alloc (.cells (rsC ((id,s),.slice E s.buf.length b)).toArray 130)=g at *;have k7:g.cell? ⟨W.heap.size,7,none⟩=some (.slice E s.buf.length b):=cellAt l.out 7 rfl;have lb:=zab l.out;go_upto_region 8 with fail;have k8:g.drew.cell? ⟨W.heap.size,8,none⟩=some (.int .i64 s.place):=cellAt l.out 8 rfl;have l8:W.heap.size<g.drew.heap.size:=lb;have m1:g.drew.cell? ⟨w.heap.size,1,none⟩=some (.int .i64 D.mark):=cellAt c.out 1 rfl;have l1:w.heap.size<g.drew.heap.size:=zab c.out
 have c0:g.drew.cell? ⟨x,0,none⟩=some (.int .i64 H.fed):=cellAt y.out.obj 0 rfl;have l0:x<g.drew.heap.size:=zab y.out.obj;clear k7 lb;refine zak (C:=fun Z=>Z=g.drew) (by kernel_rfl) (by kernel_rfl) rfl ?_
 repeat (refine (wpQuiet_step (fun K hK=>?_):_)
         go_simp
         first
          | (refine hK _ ?_;clear hK K)
          | (apply Exists.intro
             refine ⟨fun W hW=>?_,hK _ ?_⟩
             (first
               | exact rfl
               | (subst hW;go_simp;exact rfl))
             clear hK K))
 refine (wpQuiet_nil ?_:_);intro w9 aa;subst aa;clear k8 l8 m1 l1 c0 l0;have N:=zhh y.out HK.out hlen id;have a0:=H_ N;have q:Hid (g.drew.heap[w.heap.size+1]?=some (.cells #[.slice none 0 0,.int .i64 0,.bool false] 86 (0,0))):=o;have F:Hid (g.drew.heap[w.heap.size]?=some (.cells #[.int .i64 D.rev,.int .i64 D.mark,.slice a1 n1 k1,.slice a2 n2 k2] 76 (0,0))):=c;clear N o c l;generalize g.drew=W2 at *;go_upto_region 10 with (go_at_call 34;(with_reducible refine a0.out.mono ?_);rintro e U ⟨rfl,n⟩);have m:∀ j,w.heap.size<=j->¬ G j:=fun j hj hg=>by have:=I.out.r.lt j hg;omega
 have a:=n.2.heap q.out (m _ (by omega));have k:=n.2.heap F.out (m _ (by omega));have m1:U.cell? ⟨w.heap.size,1,none⟩=some (.int .i64 D.mark):=cellAt k 1 rfl;have l1:=zab k;have y0:U.cell? ⟨w.heap.size+1,0,none⟩=some (.slice none 0 0):=cellAt a 0 rfl;have y1:U.cell? ⟨w.heap.size+1,1,none⟩=some (.int .i64 0):=cellAt a 1 rfl;have y2:U.cell? ⟨w.heap.size+1,2,none⟩=some (.bool false):=cellAt a 2 rfl;have ly:=zab a;have V:∀ j,U.frozen? ⟨w.heap.size+1,j,none⟩=false:=fun j=>by unfold World.frozen?;rw [a];rfl
 have f0:=V 0;have f1:=V 1;have f2:=V 2;obtain ⟨Z,hZ,hz,T⟩:=zdm a (.slice none 0 0) (.int .i64 D.mark) (.bool true);have HZ:=H_ hZ;have z:=H_ hz;have a5:=H_ T;have a4:=H_ n;have ag:=H_ m;clear hZ hz T V a k n m;go_wp2;rw [<-HZ.out];have z0:Z.cell? ⟨w.heap.size+1,0,none⟩=some (.slice none 0 0):=cellAt z.out 0 rfl;have z1:Z.cell? ⟨w.heap.size+1,1,none⟩=some (.int .i64 D.mark):=cellAt z.out 1 rfl;have z2:Z.cell? ⟨w.heap.size+1,2,none⟩=some (.bool true):=cellAt z.out 2 rfl;refine bodyPost_ret (v:=.tuple #[batV (.slice none 0 0) ⟨[],D.mark,true⟩,.int .i64 0]) (w:=Z) (by rw [results_cell_tmp rfl];go_simp;rfl) rfl ?_;obtain ⟨q1,q2,q3⟩:=hq.out;rw [RtTo,q1,q2,q3];refine ⟨_,rfl,SlF.nil _ _ _ _,zzac a3.out a4.out a5.out ⟨by omega,zab q.out⟩ I.out.r.lt⟩
theorem rt_fin {w:World} {x:Nat} {P:List ((Int×Sm)×Value)} {H:Hb} {G:Nat->Prop} {id:Int} {i ga oa cap:Nat} {s:Sm} {u:Value} (t:Rt w x P H G id i ga oa cap s u) {D:Doc} (hb:¬ 0<s.buf.length) (hg:¬ (s.place<=H.fed/\s.place<D.mark))
 {W2 wq Z:World} {q:Int} {O:List Ev} {v p2:Value} {g:Nat} (h1:Fr No w W2) (h2:Fr (fun y=>y=ga) W2 wq) (h3:Fr (fun y=>y=g) wq Z) (hgw:w.heap.size<=g/\g<W2.heap.size)
 (hR:RhR wq x (.slice (some ⟨ga,oa,none⟩) P.length cap) (P.set i ((id,⟨s.w,[],q⟩),p2)) ⟨H.fed,H.last,H.L.set i (id,⟨s.w,[],q⟩)⟩ G) (hc:catchH D H.fed s=(q,O)) (hv:SlF wq 72 13 evC v O) (hn:∀ b,v.ownBlock=some b->W2.heap.size<=b) :
 RtTo w Z x G D H id (.returned (.tuple #[batV v ⟨O,q-1,false⟩,.int .i64 0])):=by
 have d:takeE H id=0:=by unfold takeE;rw [t.get];exact if_neg (by simp)
 have f:takeB D H id=⟨O,q-1,false⟩:=by unfold takeB;rw [t.get];dsimp only;rw [if_neg hb,if_neg hg,hc]
 have k:takeH D H id=⟨H.fed,H.last,H.L.set i (id,⟨s.w,[],q⟩)⟩:=by unfold takeH;rw [t.get];dsimp only;rw [if_neg hb,if_neg hg,hc,t.set_]
 have l:=h1.size;have m:=h2.size;have n:=h3.size;have a:=t.r.lt;rw [RtTo,d,f,k];refine ⟨v,rfl,hv.fr h3 fun b hb e=>?_,⟨_,_,(hR.fr (Y:=fun y=>y=g) h3 fun b hb e=>?_).more (fun b hb=>.inl hb) fun b hb=>?_⟩,?_⟩
 · have c:b=g:=e
   have:=hn b hb;omega
 · have c:b=g:=e
   have:=a b hb;omega
 · rcases hb with hb | hb
   · have:=a b hb
     omega
   exact hb.2
 refine ((h1.mono (T:=G) fun _ _ h=>h.elim).trans h2 fun j _ e=>?_).trans h3 fun j hj e=>?_
 · rw [show j=ga from e]
   exact t.r.own.2.2 ga rfl
 have c:j=g:=e
 omega
theorem zyc {w:World} {x:Nat} {P:List ((Int×Sm)×Value)} {H:Hb} {G:Nat->Prop} {id:Int} {i ga oa cap:Nat} {s:Sm} {u:Value} (t:Rt w x P H G id i ga oa cap s u) (hb:¬ 0<s.buf.length):P.set i ((id,⟨s.w,[],s.place⟩),u)=P/\H.L.set i (id,⟨s.w,[],s.place⟩)=H.L:=by
 obtain ⟨k,g,j⟩:=s;have f:g = []:=gN_ (by simpa using hb);subst f;have a:=t.at_;have c:H.L[i]?=some (id,⟨k,[],j⟩):=by rw [<-t.r.map,List.getElem?_map,a];rfl
 obtain ⟨l,e⟩:=gS_ a;obtain ⟨d,b⟩:=gS_ c;dsimp only;refine ⟨?_,?_⟩
 · rw [<-e,List.set_getElem_self]
 rw [<-b,List.set_getElem_self]
theorem zor {w:World} {x:Nat} {P:List ((Int×Sm)×Value)} {H:Hb} {G:Nat->Prop} {id:Int} {i ga oa cap:Nat} {s:Sm} {u:Value} (t:Rt w x P H G id i ga oa cap s u) (hlen:P.length<=100000) (D:Doc) (a1 a2:Option Addr) (n1 k1 k2:Nat) (hD:SlR w 13 evC (.slice a2 D.events.length k2) D.events) (hDG:0<D.events.length->∀ b,(Value.slice a2 D.events.length k2).ownBlock=some b->¬ G b) (hl:D.events.length<=4000000)
 (hb:¬ 0<s.buf.length) (hg:¬ (s.place<=H.fed/\s.place<D.mark)) (hp0:1<=s.place) (hp1:s.place<=H.fed+1) (hf:H.fed<=D.rev) (hr:D.rev<=4000000) :
 Calls Tryz.prog 33 #[.pointer (some ⟨x,0,none⟩),docV D (.slice a1 n1 k1) (.slice a2 D.events.length k2),.int .i64 id] w fun e w'=>RtTo w w' x G D H id e:=by
 obtain ⟨ar,J,k,be⟩:=zed w D (.slice a1 n1 k1) (.slice a2 D.events.length k2);have bu:=H_ be;clear be;have h1:=t.r.fr0 ar;have ap:=zfh h1 hlen id
 rw [t.idx] at ap;obtain ⟨hi,_⟩:=gS_ t.at_;have b0:=fun W (hW:Fr G w W) r=>zfg W D a1 a2 n1 k1 k2 (hD.frp hW hDG) (by omega) r r;have bm:=H_ b0;obtain ⟨ua,a,bb,bH,bI,bJ⟩:=(h1.buf _ (gM_ t.at_)).1.shape;dsimp only at bb;subst bb;have HT:=H_ t;have aJ:=H_ hb;have ak:=H_ hg;have F:=H_ h1
 have bk:=H_ ap;have bd:(w.alloc (Obj.cells #[.int .i64 D.rev,.int .i64 D.mark,.slice a1 n1 k1,.slice a2 D.events.length k2] 76)).alloc (Obj.cells #[.slice none 0 0,.int .i64 0,.bool false] 86)=wTake w D (.slice a1 n1 k1) (.slice a2 D.events.length k2):=rfl;have aT:=H_ bd;have cn:¬ (i:Int)<0:=by omega
 have co:(0:Int)<=(i:Int):=by omega
 have cp:(i:Int)<(P.length:Int):=by omega
 have ck:¬ (0:Int)<(s.buf.length:Int):=by omega
 clear t h1 ap bd bH bI bJ hb hg b0 hD hDG;unfold docV at *;go_enter Tryz.func33,Tryz.ntmps33;go_upto_region 1 with fail;rw [aT.out];clear aT;generalize wTake w D (.slice a1 n1 k1) (.slice a2 D.events.length k2)=W at *;go_upto_region 4 with (go_at_call 63;(with_reducible refine bk.out.mono ?_);rintro e w1 ⟨rfl,rfl⟩);have c2:W.cell? ⟨x,2,none⟩=some (.slice (some ⟨ga,oa,none⟩) P.length cap):=cellAt F.out.obj 2 rfl;have lx:=zab F.out.obj;have ay:=F.out.sl.toR zaj;have RG:=H_ (ay.rangeAt zaj i HT.out.at_);have lg:ga<W.heap.size:=gB_ _ _ (ay.cell0 zaj i HT.out.at_ rfl);have aV:=H_ (F.out.ones _ (gM_ HT.out.at_));have N:=H_ (zad W (.cells (rsC ((id,s),.slice ua s.buf.length a)).toArray 130) _ rfl)
 have S:Hid (Fr No W (W.alloc (.cells (rsC ((id,s),.slice ua s.buf.length a)).toArray 130))):=H_ ((Fr.refl No W).alloc _);clear ay
 go_upto_region 5 with (first
  | (with_reducible show wpList _ _ _ ({ dst:=some 27,op:=_,type:=_,pos:=_,after:=_,guard:=_ } :: _) _ _
     refine zax rfl 130 _ rfl ga (oa+i * 9) rfl (rsC ((id,s),.slice ua s.buf.length a)) RG.out row130 (info130l _) ?_)
  | (with_reducible show wpList _ _ _ ({ dst:=none,op:=_,type:=_,pos:=_,after:=_,guard:=_ } :: _) _ _
     refine zbl rfl rfl 130 _ _ rfl _ (rsC ((id,s),.slice ua s.buf.length a)) rfl rfl (info130l _) (by rw [zaj];rfl) aV.out ?_))
 clear c2 lx lg RG;have a9:=H_ (F.out.fr0 (S.out.drew));have ae:=H_ (S.out.heap k fun h=>h);have A:=H_ (S.out.heap J fun h=>h);have ai:Hid (Fr No w (W.alloc (.cells (rsC ((id,s),.slice ua s.buf.length a)).toArray 130)).drew):=H_ (ar.trans0 S.out.drew);clear k J ar F S aV;generalize W.alloc (.cells (rsC ((id,s),.slice ua s.buf.length a)).toArray 130)=B at *;have k7:B.cell? ⟨W.heap.size,7,none⟩=some (.slice ua s.buf.length a):=cellAt N.out 7 rfl;have lb:=zab N.out;go_upto_region 8 with fail;have k8:B.drew.cell? ⟨W.heap.size,8,none⟩=some (.int .i64 s.place):=cellAt N.out 8 rfl;have l8:W.heap.size<B.drew.heap.size:=lb;have m1:B.drew.cell? ⟨w.heap.size,1,none⟩=some (.int .i64 D.mark):=cellAt A.out 1 rfl;have l1:w.heap.size<B.drew.heap.size:=zab A.out
 have c0:B.drew.cell? ⟨x,0,none⟩=some (.int .i64 H.fed):=cellAt a9.out.obj 0 rfl;have l0:x<B.drew.heap.size:=zab a9.out.obj;clear k7 lb
 go_cut [58] (fun s58 wx=>s58=.bool false/\Hid (B.drew=wx))
 case first =>
  as_aux_lemma =>
  rcases (show (s.place<=H.fed/\¬ s.place<D.mark)\/¬ s.place<=H.fed by have:=ak.out;omega) with ⟨e1,e2⟩ | e1
  · have bC:decide (s.place<=H.fed)=true:=dT_ e1
    have cl:decide (s.place<D.mark)=false:=dF_ e2;clear e1 e2;refine zak (C:=fun Z=>Z=B.drew) (by kernel_rfl) (by kernel_rfl) rfl ?_
    repeat (refine (wpQuiet_step (fun K hK=>?_):_)
            go_simp
            first
             | (refine hK _ ?_;clear hK K)
             | (apply Exists.intro
                refine ⟨fun W hW=>?_,hK _ ?_⟩
                (first
                  | exact rfl
                  | (subst hW;go_simp;exact rfl))
                clear hK K))
    refine (wpQuiet_nil ?_:_);intro w9 aC;subst aC;go_wp2;go_meet
    case rel=>exact ⟨rfl,H_ rfl⟩
  have bC:decide (s.place<=H.fed)=false:=dF_ e1
  clear e1;refine zak (C:=fun Z=>Z=B.drew) (by kernel_rfl) (by kernel_rfl) rfl ?_
  repeat (refine (wpQuiet_step (fun K hK=>?_):_)
          go_simp
          first
           | (refine hK _ ?_;clear hK K)
           | (apply Exists.intro
              refine ⟨fun W hW=>?_,hK _ ?_⟩
              (first
                | exact rfl
                | (subst hW;go_simp;exact rfl))
              clear hK K))
  refine (wpQuiet_nil ?_:_);intro w9 aC;subst aC;go_wp2;go_meet
  case rel=>exact ⟨rfl,H_ rfl⟩
 case rest =>
 obtain ⟨rfl,HX⟩:=hcut;have a3:=HX.out;rw [<-a3];clear HX a3 m1 l1 c0 l0;have af:Hid (B.drew.heap[w.heap.size+1]?=some (.cells #[.slice none 0 0,.int .i64 0,.bool false] 86 (0,0))):=ae;have aL:Hid (B.drew.heap[w.heap.size]?=some (.cells #[.int .i64 D.rev,.int .i64 D.mark,.slice a1 n1 k1,.slice a2 D.events.length k2] 76 (0,0))):=A;have aK:Hid (B.drew.heap[W.heap.size]?=some (.cells (rsC ((id,s),.slice ua s.buf.length a)).toArray 130 (0,0))):=N;clear ae A N;generalize B.drew=V at *;have az:=zyc HT.out aJ.out;have b9:=a9.out;have aQ:Hid (RhR V x (.slice (some ⟨ga,oa,none⟩) P.length cap) (P.set i ((id,⟨s.w,[],s.place⟩),.slice ua s.buf.length a)) ⟨H.fed,H.last,H.L.set i (id,⟨s.w,[],s.place⟩)⟩ G):=H_ (by rw [az.1,az.2];exact b9)
 have cm:ga<w.heap.size:=HT.out.r.lt ga (HT.out.r.own.2.2 ga rfl);clear az b9 a9
 apply_assumption
 go_upto_block 0 with fail
 clear k8 l8
 go_cut [10] (fun s10 wx=>∃ (q:Int) (O:List Ev),0<=q/\q<=4000001/\Hid (catchH D H.fed s=(q,O))/\Hid (SlF wx 72 13 evC s10 O)/\Hid (∀ b,s10.ownBlock=some b->V.heap.size<=b)/\Hid (∃ p2,RhR wx x (.slice (some ⟨ga,oa,none⟩) P.length cap) (P.set i ((id,⟨s.w,[],q⟩),p2)) ⟨H.fed,H.last,H.L.set i (id,⟨s.w,[],q⟩)⟩ G)/\Hid (Fr (fun y=>y=ga) V wx))
 case first =>
  go_wp2_with fail
  go_loopg [10,11] (H.fed-s.place+1).toNat (fun gg s10 s11 wr=>∃ (q:Int) (O:List Ev),s11=.int .i64 q/\gg=(H.fed-q+1).toNat/\s.place<=q/\q<=H.fed+1/\O.length<=4000064/\Hid (catchN D H.fed s.w (H.fed-q+1).toNat (decide (q=s.place)) q O=catchH D H.fed s)/\Hid (SlF wr 72 13 evC s10 O)/\Hid (∀ b,s10.ownBlock=some b->V.heap.size<=b)/\Hid (∃ p2,RhR wr x (.slice (some ⟨ga,oa,none⟩) P.length cap) (P.set i ((id,⟨s.w,[],q⟩),p2)) ⟨H.fed,H.last,H.L.set i (id,⟨s.w,[],q⟩)⟩ G)/\Hid (Fr (fun y=>y=ga) V wr)/\(q=s.place->O.length=0))
  case atStart=>exact ⟨s.place,[],rfl,rfl,by omega,by omega,by simp,H_ (by rw [decide_eq_true rfl];rfl),H_ (SlF.nil _ _ _ _),H_ (by simp [Value.ownBlock]),H_ ⟨_,aQ.out⟩,H_ (Fr.refl _ _),fun _=>rfl⟩
  case round =>
   obtain ⟨q,O,rfl,aw,b8,cs,cj,HC,HO,HN,U,f,aZ⟩:=hrel;obtain ⟨p2,hR⟩:=U.out;have c0:wr.cell? ⟨x,0,none⟩=some (.int .i64 H.fed):=cellAt hR.obj 0 rfl;have lx:=zab hR.obj;have I:=H_ hR;clear hR U aQ
   cases gk with
   | zero =>
     have ab:¬ q<=H.fed:=(by omega);have c:=HC.out;rw [ztt ab] at c;have R:=H_ c.symm;clear c HC aw;go_wp2_with fail;go_meet
     case rel=>exact ⟨q,O,by omega,by omega,R,HO,HN,H_ ⟨_,I.out⟩,f⟩
   | succ g =>
     obtain ⟨sa,l,rfl,aD,c1,aE⟩:=HO.out.shape;have ab:q<=H.fed:=(by omega);have bo:=H_ aw;clear aw;have aq:=zpz (D:=D) (r:=q) (by omega) (by omega) (by have:=ak.out;omega);have aY:Fr G w wr:=(ai.out.mono (T:=G) fun _ _ h=>h.elim).trans f.out fun j _ e=>by rw [show j=ga from e];exact HT.out.r.own.2.2 ga rfl
     have ev:=bm.out wr aY q;rw [zjb,aq] at ev
     have bD:(evsAt D q).length<=4000000:=by
      unfold evsAt
      split <;> first | exact nT_ (List.length_filter_le _ _) hl | exact Nat.zero_le _
     have a4:w.heap.size≠ga/\W.heap.size≠ga:=(by have:=bu.out;omega);have J:=f.out.heap aL.out a4.1;have Q:=H_ (f.out.heap aK.out a4.2);obtain ⟨d0,d1,d2,d3⟩:=cells4 J;have ld:=zab J;have c:=HC.out;generalize hE:evsAt D q=E at *;generalize hM:wantsW s.w E=M at *;have cq:M.length<=4000000:=(by rw [<-hM];exact nT_ (zcf _ _) bD);have EV:=H_ ev;have bl:=H_ aq;have aM:=H_ hE;have HM:=H_ hM;have br:=H_ aZ;have aP:=H_ b8;clear ev aq hE hM J aY c aD aE aZ a4;go_upto_region 16 with (go_at_call 61;(with_reducible refine EV.out.mono ?_);rintro e w1 ⟨la,lc,rfl,bc,aB⟩);clear c0 lx d0 d1 d2 d3 ld EV;have aS:=H_ aB;have d:=aB.heap Q.out fun h=>h;have bR:w1.cell? ⟨W.heap.size,1,none⟩=some (.string s.w.key):=cellAt d 1 rfl
     have bS:w1.cell? ⟨W.heap.size,2,none⟩=some (.string s.w.end_):=cellAt d 2 rfl;have bT:w1.cell? ⟨W.heap.size,3,none⟩=some (.int .i64 s.w.frm):=cellAt d 3 rfl;have bU:w1.cell? ⟨W.heap.size,4,none⟩=some (.bool s.w.np):=cellAt d 4 rfl;have bV:w1.cell? ⟨W.heap.size,5,none⟩=some (.bool s.w.nd):=cellAt d 5 rfl;have bW:w1.cell? ⟨W.heap.size,6,none⟩=some (.bool s.w.prev):=cellAt d 6 rfl;have lb:=zab d;have n:=zgc w1 s.w (.slice la E.length lc) E (bc.toR zaa) (by omega);rw [HM.out] at n;unfold wtC at n;clear bc aB d;go_upto_region 17 with (go_at_call 23;(with_reducible refine n.mono ?_);rintro e w4 ⟨vy,rfl,aA,b4,bF⟩);clear bR bS bT bU bV bW lb n;have m:Hid (Fr No wr w4):=H_ (aS.out.trans0 b4);obtain ⟨ya,yc,rfl,bM,cv,bN⟩:=aA.shape;have aR:=H_ aA
     have X:=m.out.heap Q.out fun h=>h;have k8:w4.cell? ⟨W.heap.size,8,none⟩=some (.int .i64 s.place):=cellAt X 8 rfl;have lb:=zab X;have bL:IntKind.i64.wrap ((O.length:Int)+(M.length:Int))=(O.length:Int)+M.length:=(by rw [IntKind.wrap_i64];omega);clear aA b4 bF bM bN X aS Q
     go_cut [97] (fun s97 wx=>s97=.bool (decide (s.place<q/\64<O.length+M.length))/\Hid (w4=wx))
     case first =>
      as_aux_lemma =>
      by_cases e1:s.place<q
      · have E1:=H_ e1
        by_cases e2:64<O.length+M.length
        · have E2:=H_ e2
          clear e2;have e3:(64:Int)<(O.length:Int)+(M.length:Int):=(by have:=E2.out;omega);go_wp2;go_meet
          case rel=>exact ⟨by congr 1;rw [dT_ ⟨E1.out,E2.out⟩],H_ rfl⟩
        have E2:=H_ e2
        clear e2;have e3:¬ (64:Int)<(O.length:Int)+(M.length:Int):=(by have:=E2.out;omega);go_wp2;go_meet
        case rel=>exact ⟨by congr 1;rw [dF_ (fun h=>by have:=E2.out;have:=h.2;omega)],H_ rfl⟩
      have E1:=H_ e1
      go_wp2;go_meet
      case rel=>exact ⟨by congr 1;rw [dF_ (fun h=>by have:=E1.out;have:=h.1;omega)],H_ rfl⟩
     case rest =>
     obtain ⟨rfl,HX⟩:=hcut;have a3:=HX.out;rw [<-a3];clear HX a3 k8 lb;by_cases hc:s.place<q/\64<O.length+M.length
     · have Y:decide (s.place<q/\64<O.length+M.length)=true:=dT_ hc
       rw [Y];have c:=HC.out;rw [dF_ (show ¬ q=s.place by omega),zoe (M:=M) rfl ab (by rw [aM.out];exact HM.out) hc.2] at c;have R:=H_ c.symm;have a8:=H_ (HO.out.fr0 m.out);have aa:=H_ (I.out.fr0 m.out);have aj:Hid (Fr (fun y=>y=ga) V w4):=H_ (f.out.trans m.out fun _ _ h=>h.elim);clear c HC Y hc
       apply_assumption
       go_wp2_with fail;go_meet
       case rel=>exact ⟨q,O,by omega,by omega,R,a8,HN,H_ ⟨_,aa.out⟩,aj⟩
     have Y:decide (s.place<q/\64<O.length+M.length)=false:=dF_ hc
     rw [Y];have c:=HC.out;rw [zxc (M:=M) rfl ab bl.out (by rw [aM.out];exact HM.out) (fun h=>by have:=of_decide_eq_false h;have:=aP.out;omega)] at c;have R:Hid (catchN D H.fed s.w (H.fed-(q+1)+1).toNat (decide (q+1=s.place)) (q+1) (O++M)=catchH D H.fed s):=H_ (by rw [dF_ (show ¬ q+1=s.place by omega)];exact c)
     have bG:(O++M).length<=4000064:=by
      rw [gL_];by_cases e:q=s.place
      · have:=br.out e
        omega
      have:=aP.out
      omega
     obtain ⟨i0,b6,bO,bP,bQ⟩:=info_parts info72;have a8:=H_ (HO.out.fr0 m.out);have aa:=H_ (I.out.fr0 m.out);have cu:IntKind.i64.wrap (q+1)=q+1:=(by rw [IntKind.wrap_i64];omega);clear c HC Y hc bL
     apply_assumption
     go_upto_region 19 with (at_builtin;refine zbv rfl _ _ 41 rfl 72 i0 _ 13 136 Tryz.underlying41 b6 bO bP bQ rfl (by decide) zaa (.slice sa O.length l) (.slice ya M.length yc) O M (fun x _=>zdy x) rfl rfl a8.out aR.out (by unfold maxLen;omega) (by omega) ?_;intro b5 c5 aW w5 ba b7 au);have c8:=f.out.size;have c9:=m.out.size;have ax:∀ y,y<V.heap.size->¬ (Value.slice sa O.length l).ownBlock=some y:=fun y hy e=>by have:=HN.out y e;omega
     have av:∀ b,G b->b<V.heap.size:=fun b hb=>by have:=HT.out.r.lt b hb;have:=ai.out.size;omega
     have z:=aa.out.fr au fun b hb=>ax b (av b hb);have aj:Hid (Fr (fun y=>y=ga) V w5):=H_ ((f.out.trans m.out fun _ _ h=>h.elim).trans au fun y hy e=>absurd e (ax y hy));have aO:Hid (∀ b,(Value.slice b5 c5 aW).ownBlock=some b->V.heap.size<=b):=H_ fun b hb=>(b7 b hb).elim (HN.out b) fun h=>by omega
     have bt:=H_ ba;have a0:(P.set i ((id,⟨s.w,[],q⟩),p2)).length=P.length:=List.length_set ..;rw [<-a0] at z;obtain ⟨ao,b3⟩:=z.place (i:=i) (p:=((id,⟨s.w,[],q⟩),p2)) (by rw [gT_ hi]) (q+1);rw [a0] at z;rw [a0,List.set_set,List.set_set] at ao;have c2:w5.cell? ⟨x,2,none⟩=some (.slice (some ⟨ga,oa,none⟩) P.length cap):=cellAt z.obj 2 rfl;have lx:=zab z.obj;have o:=z.sl;rw [<-a0] at o;have r8:w5.cell? ⟨ga,oa+i * 9+8,none⟩=some (.int .i64 q):=(o.toR zaj).of_add zaj i 8 (by rw [gT_ hi]) rfl;have f8:=o.free (oa+i * 9+8);have lg:=gB_ _ _ r8;have bs:=H_ ao;have aN:=H_ b3;have bp:=H_ av;clear ba b7 au ax av z a0 ao b3 o I aa m a8 aR;go_wp2_with fail;go_roundg g
     case rel =>
      refine ⟨q+1,O++M,rfl,by have:=bo.out;omega,by omega,by omega,bG,R,H_ (bt.out.fr aN.out fun b hb e=>?_),aO,H_ ⟨_,bs.out⟩,H_ (aj.out.trans aN.out fun _ _ h=>h),fun h=>by omega⟩;have h1:=aO.out b hb;have h2:=bp.out ga (HT.out.r.own.2.2 ga rfl);have e':b=ga:=e;omega
     case measure=>omega
 case rest =>
 obtain ⟨q,O,cr,b8,HC,HO,HN,U,f⟩:=hcut;obtain ⟨p2,hR⟩:=U.out;obtain ⟨sa,l,rfl,aD,c1,aE⟩:=HO.out.shape;generalize bK:wc=W5 at *;clear bK aD aE;have k:=f.out.heap af.out (by omega);have c2:W5.cell? ⟨x,2,none⟩=some (.slice (some ⟨ga,oa,none⟩) P.length cap):=cellAt hR.obj 2 rfl;have lx:=zab hR.obj;have o:=hR.sl;rw [<-show (P.set i ((id,⟨s.w,[],q⟩),p2)).length=P.length from List.length_set ..] at o;have r8:W5.cell? ⟨ga,oa+i * 9+8,none⟩=some (.int .i64 q):=(o.toR zaj).of_add zaj i 8 (by rw [gT_ hi]) rfl;have lg:=gB_ _ _ r8;have ct:IntKind.i64.wrap (q-1)=q-1:=by rw [IntKind.wrap_i64];omega
 have y0:W5.cell? ⟨w.heap.size+1,0,none⟩=some (.slice none 0 0):=cellAt k 0 rfl;have y1:W5.cell? ⟨w.heap.size+1,1,none⟩=some (.int .i64 0):=cellAt k 1 rfl;have y2:W5.cell? ⟨w.heap.size+1,2,none⟩=some (.bool false):=cellAt k 2 rfl;have ly:=zab k;have fz:∀ j,W5.frozen? ⟨w.heap.size+1,j,none⟩=false:=fun j=>by unfold World.frozen?;rw [k];rfl
 have f0:=fz 0;have f1:=fz 1;have f2:=fz 2;obtain ⟨Z,hZ,hz,bf⟩:=zdm k (.slice sa O.length l) (.int .i64 (q-1)) (.bool false);have HZ:=H_ hZ;have am:=H_ hz;have bv:=H_ bf;have I:=H_ hR;have bn:Hid (w.heap.size<=w.heap.size+1/\w.heap.size+1<V.heap.size):=H_ ⟨by omega,zab af.out⟩;clear hZ hz bf fz k hR o U
 apply_assumption
 go_wp2;rw [<-HZ.out];have z0:Z.cell? ⟨w.heap.size+1,0,none⟩=some (.slice sa O.length l):=cellAt am.out 0 rfl;have z1:Z.cell? ⟨w.heap.size+1,1,none⟩=some (.int .i64 (q-1)):=cellAt am.out 1 rfl;have z2:Z.cell? ⟨w.heap.size+1,2,none⟩=some (.bool false):=cellAt am.out 2 rfl;exact bodyPost_ret (v:=.tuple #[batV (.slice sa O.length l) ⟨O,q-1,false⟩,.int .i64 0]) (w:=Z) (by rw [results_cell_tmp rfl];go_simp;rfl) rfl (rt_fin HT.out aJ.out ak.out ai.out f.out bv.out bn.out I.out HC.out HO.out HN.out)
theorem zos {w:World} {x:Nat} {v:Value} {P:List ((Int×Sm)×Value)} {H:Hb} {G:Nat->Prop} (h:RhR w x v P H G) (hk:HbOk H) (hQ:HbQ H) (hP:HbP H) (hlen:P.length<=100000) (D:Doc) (a1 a2:Option Addr) (n1 k1 k2:Nat) (hD:SlR w 13 evC (.slice a2 D.events.length k2) D.events)
 (hDG:0<D.events.length->∀ b,(Value.slice a2 D.events.length k2).ownBlock=some b->¬ G b) (hl:D.events.length<=4000000) (hf:H.fed<=D.rev) (hr:D.rev<=4000000) (id:Int) :
 Calls Tryz.prog 33 #[.pointer (some ⟨x,0,none⟩),docV D (.slice a1 n1 k1) (.slice a2 D.events.length k2),.int .i64 id] w fun e w'=>RtTo w w' x G D H id e:=by
 cases hm:H.L.findIdx? fun p=>p.1==id with
 | none=>exact zso h hlen D a1 a2 n1 k1 _ k2 id hm
 | some i =>
   obtain ⟨f,g,cap,s,u,rfl,t⟩:=rt_of h hk hm;obtain ⟨j,c,d⟩:=hQ.get hk t.get;have a:=hP.2 _ ((zcy hk.up).1 t.get);dsimp only at a;by_cases hb:0<s.buf.length
   · exact zvk t hlen D a1 a2 n1 k1 _ k2 hb c (by omega)
   by_cases hg:s.place<=H.fed/\s.place<D.mark
   · exact zsp t hk hlen D a1 a2 n1 k1 _ k2 hb hg.1 hg.2
   exact zor t hlen D a1 a2 n1 k1 k2 hD hDG hl hb hg a d hf hr
open Go Go.Proofs Go.ChangeShapes Go.WideShapes Go.ChangeAt Go.RowKit Go.Deep
theorem zpd {α:Type} (P:Nat->α->Prop):∀ n:Nat,(∀ i,i<n->∃ x,P i x)->∃ L:List α,L.length=n/\∀ (i:Nat) (x:α),L[i]?=some x->P i x
 | 0,_=>⟨[],rfl,fun i x h=>by simp at h⟩
 | n+1,h=>by
   obtain ⟨L,h1,h2⟩:=zpd P n fun i hi=>h i (by omega);obtain ⟨x,hx⟩:=h n (by omega);refine ⟨L++[x],by simp [h1],fun i y hy=>?_⟩;by_cases hi:i<L.length
   · rw [List.getElem?_append_left hi] at hy
     exact h2 i y hy
   rw [List.getElem?_append_right (by omega)] at hy
   have h0:i-L.length=0:=by
    have:=(gS_ hy).1;simp at this;omega
   rw [h0] at hy;simp at hy;subst hy;rw [show i=n by omega];exact hx
section
variable {H:Type} {enc:TypeId×Value->H} {w:World} {base:Nat} {spare:Nat->Bool} {held:Bool}
theorem zmy {α:Type} {t e:TypeId} {sz:Nat} (f:α->List Value) (hu:Tryz.prog.underlying t=some (.slice e)) (hC:Tryz.prog.cellsOf e=sz) (hsz:0<sz) (hf:∀ x,(f x).length=sz)
 (hel:∀ n cs x,DataW.trod enc Tryz.prog w base spare held n e cs=some x->cs.length=sz->∃ y,cs=f y) {fuel:Nat} {cs:List Value} {x:DataW H×List MemPlace}
 (h:DataW.trod enc Tryz.prog w base spare held fuel t cs=some x):∃ v L,cs = [v]/\SlR w sz f v L/\∀ b,v.ownBlock=some b->base<=b:=by
 rcases open_slice hu h with ⟨rfl,_⟩ | ⟨a,len,cap,m,n,D,Pl,rfl,N,O,K,A,P,G⟩
 · exact ⟨_,[],rfl,SlR.nil _ _ _,by simp [Value.ownBlock]⟩
 have J:len<=m:=by rw [A];split <;> omega
 obtain ⟨L,l,d⟩:=zpd (fun i y=>∀ j,j<sz->w.cell? ((a.add (i * sz)).add j)=(f y)[j]?) len fun i him=>by
  obtain ⟨E,B,M⟩:=G i (by omega);rw [hC] at B;obtain ⟨_,s,r⟩:=World.cells?_some B;obtain ⟨y,rfl⟩:=hel _ _ _ M s;exact ⟨y,r⟩
 refine ⟨_,L,rfl,⟨some a,cap,by rw [l],by omega,K,fun hp=>?_⟩,fun b hb'=>?_⟩
 · obtain ⟨g,o,C⟩:=a
   have F:C=none:=by
    have c:∃ k,L[0]?=some k:=⟨_,gG_ hp⟩;obtain ⟨k,c⟩:=c;have:=d 0 k c 0 hsz;have z:0<(f k).length:=(by rw [hf];exact hsz);rw [Nat.zero_mul] at this;simp only [Addr.add,if_true] at this;rw [gG_ z] at this;unfold World.cell? at this
    cases C with
    | none=>rfl
    | some q =>
      simp only [Option.isSome_some,if_true] at this
      split at this <;> simp at this
   subst F;refine ⟨g,o,rfl,fun i y hy j u hu'=>?_⟩
   have I:j<sz:=by
    have:=(gS_ hu').1
    rwa [hf] at this
   have:=d i y hy j I;rw [hu'] at this;rw [<-this]
   congr 1
   unfold Addr.add;by_cases h1:i * sz=0
   · by_cases h2:j=0
     · simp [h1,h2]
     simp [h1,h2]
   by_cases h2:j=0
   · simp [h1,h2]
   simp [h1,h2]
 simp [Value.ownBlock] at hb'
 omega
theorem Tryz.cells9:Tryz.prog.cellsOf 9=1:=by kernel_rfl
theorem Tryz.cells3:Tryz.prog.cellsOf 3=1:=by kernel_rfl
theorem Tryz.cells4:Tryz.prog.cellsOf 4=1:=by kernel_rfl
theorem Tryz.cells24:Tryz.prog.cellsOf 24=7:=by kernel_rfl
theorem Tryz.cells139:Tryz.prog.cellsOf 139=10:=by kernel_rfl
theorem Tryz.cells22:Tryz.prog.cellsOf 22=1:=by kernel_rfl
theorem zvv (n:Nat) (cs:List Value) (x:DataW H×List MemPlace) (h:DataW.trod enc Tryz.prog w base spare held n 24 cs=some x) (hl:cs.length=7):∃ y,cs=rgC y:=by
 obtain ⟨E,b,_,_,_,c,a⟩:=DataW.trod_struct Tryz.underlying24 h
 match cs,hl with
 | [c0,c1,c2,c3,c4,c5,c6],_ =>
   match E,c with
   | [y0,y1,y2,y3,y4,y5,y6],_ =>
     have l:DataW.trod enc Tryz.prog w base spare held b 9 [c0]=some y0:=(by have:=a 0 _ rfl;simpa [Tryz.cells9] using this);have m:DataW.trod enc Tryz.prog w base spare held b 9 [c1]=some y1:=(by have:=a 1 _ rfl;simpa [Tryz.cells9] using this);have o:DataW.trod enc Tryz.prog w base spare held b 3 [c2]=some y2:=(by have:=a 2 _ rfl;simpa [Tryz.cells3] using this);have q:DataW.trod enc Tryz.prog w base spare held b 3 [c3]=some y3:=(by have:=a 3 _ rfl;simpa [Tryz.cells3] using this);have r:DataW.trod enc Tryz.prog w base spare held b 4 [c4]=some y4:=(by have:=a 4 _ rfl;simpa [Tryz.cells4] using this);have s:DataW.trod enc Tryz.prog w base spare held b 4 [c5]=some y5:=(by have:=a 5 _ rfl;simpa [Tryz.cells4] using this)
     have t:DataW.trod enc Tryz.prog w base spare held b 4 [c6]=some y6:=(by have:=a 6 _ rfl;simpa [Tryz.cells4] using this);obtain ⟨u,d,_⟩:=DataW.trod_string Tryz.underlying9 l;obtain ⟨v,e,_⟩:=DataW.trod_string Tryz.underlying9 m;obtain ⟨z,f,_⟩:=DataW.trod_int Tryz.underlying3 o;obtain ⟨A,g,_⟩:=DataW.trod_int Tryz.underlying3 q;obtain ⟨B,i,_⟩:=DataW.trod_bool Tryz.underlying4 r;obtain ⟨C,j,_⟩:=DataW.trod_bool Tryz.underlying4 s;obtain ⟨D,k,_⟩:=DataW.trod_bool Tryz.underlying4 t;simp only [List.cons.injEq,and_true] at d e f g i j k;subst d e f g i j k;exact ⟨⟨u,v,z,A,B,C,D⟩,rfl⟩
theorem zzah (n:Nat) (cs:List Value) (x:DataW H×List MemPlace) (h:DataW.trod enc Tryz.prog w base spare held n 139 cs=some x) (hl:cs.length=10):∃ y,cs=opC y:=by
 obtain ⟨s,b,_,_,_,d,a⟩:=DataW.trod_struct Tryz.underlying139 h
 match cs,hl with
 | [c0,c1,c2,c3,c4,c5,c6,c7,c8,c9],_ =>
   match s,d with
   | [y0,y1,y2,y3],_ =>
     have i:DataW.trod enc Tryz.prog w base spare held b 3 [c0]=some y0:=(by have:=a 0 _ rfl;simpa [Tryz.cells3] using this);have j:DataW.trod enc Tryz.prog w base spare held b 24 [c1,c2,c3,c4,c5,c6,c7]=some y1:=(by have:=a 1 _ rfl;simpa [Tryz.cells24] using this);have k:DataW.trod enc Tryz.prog w base spare held b 9 [c8]=some y2:=(by have:=a 2 _ rfl;simpa [Tryz.cells9] using this);have l:DataW.trod enc Tryz.prog w base spare held b 3 [c9]=some y3:=(by have:=a 3 _ rfl;simpa [Tryz.cells3] using this);obtain ⟨m,e,_⟩:=DataW.trod_int Tryz.underlying3 i;obtain ⟨r,c⟩:=zvv _ _ _ j rfl;obtain ⟨o,f,_⟩:=DataW.trod_string Tryz.underlying9 k;obtain ⟨q,g,_⟩:=DataW.trod_int Tryz.underlying3 l;unfold rgC at c;simp only [List.cons.injEq,and_true] at e c f g;obtain ⟨rfl,rfl,rfl,rfl,rfl,rfl,rfl⟩:=c
     subst e f g;exact ⟨⟨m,r,o,q⟩,rfl⟩
end
end Go.Proofs.YtdgkdfmfoonbpaaGreat