/- Own lemmas. -/
import Derived.Test.YtdgkdfmfoonbpaaGreatR28
import Derived.Test.YtdgkdfmfoonbpaaGreatR26
import Derived.Test.YtdgkdfmfoonbpaaGreatR27
namespace Go.Proofs.YtdgkdfmfoonbpaaGreat
open Go Go.Proofs Go.RowKit
set_option maxRecDepth 100000
theorem zhm {W:World} {rb:Nat} {a b c:Value} {t:TypeId} (h:W.heap[rb]?=some (.cells #[a,b,c] t (0,0))) (x y z:Value) :
 ∃ W',W'=((W.setCell ⟨rb,0,none⟩ x).setCell ⟨rb,1,none⟩ y).setCell ⟨rb,2,none⟩ z/\W'.heap[rb]?=some (.cells #[x,y,z] t (0,0))/\Fr (fun k=>k=rb) W W':=by
 refine ⟨_,rfl,?_,(((Fr.refl (fun k=>k=rb) W).setAt 0 x).setAt 1 y).setAt 2 z⟩;have d:=zab h 0 x;have e:=zab d 1 y;have f:=zab e 2 z;exact f
theorem zdb (D:Doc) (fed:Int) (t:Wt):∀ (n:Nat) (first:Bool) (p:Int) (out:List Ev),p<=(catchN D fed t n first p out).1/\((catchN D fed t n first p out).1<=fed+1\/(catchN D fed t n first p out).1=p)
 | 0,_,p,_=>⟨Int.le_refl _,.inr rfl⟩
 | n+1,first,p,out=>by
   unfold catchN
   split
   · split
     · exact ⟨Int.le_refl _,.inr rfl⟩
     have ih:=zdb D fed t n false (p+1) (out++wantsW t (evsAt D p))
     omega
   exact ⟨Int.le_refl _,.inr rfl⟩
def batV (v:Value) (b:Bat):Value:=.agg #[v,.int .i64 b.rev,.bool b.cancel]
def TakeTo (w w':World) (h st:Nat) (F:Nat->Prop) (D:Doc) (H:Hb) (i:Int) (e:Ending):Prop :=
 ∃ v,e=.returned (.tuple #[batV v (takeB D H i),.int .i64 (takeE H i)])/\SlF w' 72 13 evC v (takeB D H i).evs/\∃ F',HubAt w' h st (takeH D H i) F'/\Fr F w w'/\(∀ b,F' b->F b\/w.heap.size<=b)/\(∀ b,v.ownBlock=some b->F b\/w.heap.size<=b)/\(∀ b,v.ownBlock=some b->¬ F' b)
theorem ztr {w:World} {h st m:Nat} {hp:Int->Option Nat} {FL:Int->Nat->Prop} {H:Hb} {F:Nat->Prop} (a:HubR w h st m hp FL H) (hF:∀ b,F b↔hubF h m FL b) (D:Doc) (i:Int) (hi:(Lit.int .i64 i).wf=true) (hl:getH H.L i=none) :
 Calls Tryz.prog 14 #[.pointer (some ⟨h,0,none⟩),.int .i64 i] w fun e w'=>TakeTo w w' h st F D H i e:=by
 have E:Hid (takeE H i=36/\takeB D H i=⟨[],0,false⟩/\takeH D H i=H):=H_ (by unfold takeE takeB takeH;rw [hl];exact ⟨if_pos rfl,rfl,rfl⟩);have c:=zae w (Obj.cells #[.slice none 0 0,.int .i64 0,.bool false] 43) _ rfl;have q:=(Fr.refl No w).alloc (Obj.cells #[.slice none 0 0,.int .i64 0,.bool false] 43);have s:=(a.look i).2 hl;have B:=H_ s;have k:=a.fr q fun _ _ x=>x;have y:=H_ a;have n:=H_ hF;have A:=H_ k.map;have J:=k.obj.cell 3 rfl;have P:=k.obj.lt;clear a k hF s;go_enter Tryz.func14,Tryz.ntmps14;go_upto_region 3 with fail;generalize w.alloc (Obj.cells #[.slice none 0 0,.int .i64 0,.bool false] 43)=W at *;go_upto_region 5 with (at_lookup;refine zbf rfl _ _ 94 rfl 3 98 Tryz.underlying94 Tryz.underlying3 m _ rfl A.out i rfl hi _ (zero98 _) _ B.out ?_)
 have R:W.cell? ⟨w.heap.size,0,none⟩=some (.slice none 0 0):=cellAt c 0 rfl;have S:W.cell? ⟨w.heap.size,1,none⟩=some (.int .i64 0):=cellAt c 1 rfl;have T:W.cell? ⟨w.heap.size,2,none⟩=some (.bool false):=cellAt c 2 rfl;have Q:=zac c;have l:∀ j,W.frozen? ⟨w.heap.size,j,none⟩=false:=fun j=>by unfold World.frozen?;rw [c];rfl
 have M:=l 0;have N:=l 1;have O:=l 2;obtain ⟨Z,r,t,g⟩:=zhm c (.slice none 0 0) (.int .i64 0) (.bool false);have C:=H_ r;have d:=H_ t;have o:=H_ g;have z:=H_ q;clear r t g l c q;go_wp2;rw [<-C.out];have U:Z.cell? ⟨w.heap.size,0,none⟩=some (.slice none 0 0):=cellAt d.out 0 rfl;have V:Z.cell? ⟨w.heap.size,1,none⟩=some (.int .i64 0):=cellAt d.out 1 rfl;have X:Z.cell? ⟨w.heap.size,2,none⟩=some (.bool false):=cellAt d.out 2 rfl;refine bodyPost_ret (v:=.tuple #[batV (.slice none 0 0) ⟨[],0,false⟩,.int .i64 36]) (w:=Z) (by rw [results_cell_tmp rfl];go_simp;rfl) rfl ?_
 have f:Fr No w Z:=z.out.trans o.out fun j hj e=>by
  have K:j=w.heap.size:=e;omega
 obtain ⟨G,u,I⟩:=E.out;refine ⟨.slice none 0 0,by rw [G,u],by rw [u];exact SlF.nil _ _ _ _,F,?_,f.mono fun _ _ x=>x.elim,fun b hb=>.inl hb,by simp [Value.ownBlock],by simp [Value.ownBlock]⟩;rw [I];exact ⟨m,hp,FL,y.out.fr f fun _ _ x=>x,n.out⟩
set_option maxHeartbeats 8000000 in
theorem zvq {w:World} {h st m:Nat} {hp:Int->Option Nat} {FL:Int->Nat->Prop} {H:Hb} {F:Nat->Prop} (a:HubR w h st m hp FL H) (hF:∀ b,F b↔hubF h m FL b) (D:Doc) (i:Int) (hi:(Lit.int .i64 i).wf=true) {s:Sm} (hl:getH H.L i=some s) (hb:0<s.buf.length) (hp0:0<=s.place) (hp1:s.place<=11000001) :
 Calls Tryz.prog 14 #[.pointer (some ⟨h,0,none⟩),.int .i64 i] w fun e w'=>TakeTo w w' h st F D H i e:=by
 have hq:Hid (takeE H i=0/\takeB D H i=⟨s.buf,s.place-1,false⟩/\takeH D H i=⟨H.fed,H.last,setH H.L i ⟨s.w,[],s.place⟩⟩):=H_ (by unfold takeE takeB takeH;rw [hl];exact ⟨if_neg (by simp),if_pos hb,if_pos hb⟩);have I:=zae w (Obj.cells #[.slice none 0 0,.int .i64 0,.bool false] 43) _ rfl;have Q:=(Fr.refl No w).alloc (Obj.cells #[.slice none 0 0,.int .i64 0,.bool false] 43);obtain ⟨k,z,bv,r,C⟩:=a.sm i s hl;obtain ⟨ba,X,rfl,a4,a5,J⟩:=r.buf.shape;obtain ⟨g,o,rfl⟩:=J hb;have hv:((hp i).map fun b=>Value.pointer (some ⟨b,0,none⟩)).getD (.pointer none)=.pointer (some ⟨k,0,none⟩):=by rw [z];rfl
 have HV:=H_ hv;have O:=a.fr Q fun _ _ x=>x;have M:=H_ a;have t:=H_ hF;have HM:=H_ O.map;have HL:=H_ hl;have V:=H_ z;have l:=H_ C;have n:=H_ r;have c3:=O.obj.cell 3 rfl;have lh:=O.obj.lt;have A:=r.obj.fr Q fun x=>x;have k6:=A.cell 6 rfl;have k7:=A.cell 7 rfl;have f6:=A.free 6;have lp:=A.lt;have T:=H_ A;have al:IntKind.i64.wrap (s.place-1)=s.place-1:=by rw [IntKind.wrap_i64];omega
 have ai:(0:Int)<(s.buf.length:Int):=by omega
 clear a O hF hv hl z C r a4 a5 J A;go_enter Tryz.func14,Tryz.ntmps14;go_upto_region 3 with fail;generalize w.alloc (Obj.cells #[.slice none 0 0,.int .i64 0,.bool false] 43)=W at *;go_upto_region 9 with (at_lookup;refine zbf rfl _ _ 94 rfl 3 98 Tryz.underlying94 Tryz.underlying3 m _ rfl HM.out i rfl hi _ (zero98 _) _ HV.out ?_);have R:=T.out.set 6 (.slice none 0 0);have y:Fr (fun x=>x=k) W (W.setCell ⟨k,6,none⟩ (.slice none 0 0)):=(Fr.refl (fun x=>x=k) W).setAt 6 _;have aj:k<w.heap.size:=n.out.obj.lt;have c:=y.heap I (by omega);generalize W.setCell ⟨k,6,none⟩ (.slice none 0 0)=N at *;clear k6 k7 f6 lp c3 lh;have o7:=R.cell 7 rfl;have aq:=R.lt;have y0:N.cell? ⟨w.heap.size,0,none⟩=some (.slice none 0 0):=cellAt c 0 rfl
 have y1:N.cell? ⟨w.heap.size,1,none⟩=some (.int .i64 0):=cellAt c 1 rfl;have y2:N.cell? ⟨w.heap.size,2,none⟩=some (.bool false):=cellAt c 2 rfl;have ly:=zac c;have P:∀ j,N.frozen? ⟨w.heap.size,j,none⟩=false:=fun j=>by unfold World.frozen?;rw [c];rfl
 have f0:=P 0;have f1:=P 1;have f2:=P 2;obtain ⟨Z,hZ,hz,K⟩:=zhm c (.slice (some ⟨g,o,none⟩) s.buf.length X) (.int .i64 (s.place-1)) (.bool false);have HZ:=H_ hZ;have u:=H_ hz;have B:=H_ K;have HF:=H_ Q;have S:=H_ y;have U:=H_ R;clear hZ hz K P I Q c y R;go_wp2;rw [<-HZ.out];have z0:Z.cell? ⟨w.heap.size,0,none⟩=some (.slice (some ⟨g,o,none⟩) s.buf.length X):=cellAt u.out 0 rfl;have z1:Z.cell? ⟨w.heap.size,1,none⟩=some (.int .i64 (s.place-1)):=cellAt u.out 1 rfl;have z2:Z.cell? ⟨w.heap.size,2,none⟩=some (.bool false):=cellAt u.out 2 rfl;refine bodyPost_ret (v:=.tuple #[batV (.slice (some ⟨g,o,none⟩) s.buf.length X) ⟨s.buf,s.place-1,false⟩,.int .i64 0]) (w:=Z) (by rw [results_cell_tmp rfl];go_simp;rfl) rfl ?_;obtain ⟨q1,q2,q3⟩:=hq.out
 have G:Fr (fun x=>x=k) w Z:=((HF.out.mono fun _ _ x=>x.elim).trans S.out fun _ _ x=>x).trans B.out fun j hj e=>by
  have Y:j=w.heap.size:=e;omega
 have E:Fr (FL i) w Z:=G.mono fun x _ e=>(l.out x).2 (.inl e)
 have a3:Has Z k (smC s.w (.slice none 0 0) s.place):=U.out.fr B.out fun e=>by
  have Y:k=w.heap.size:=e;omega
 have a6:SmAt Z k ⟨s.w,[],s.place⟩ (fun x=>x=k):=⟨.slice none 0 0,⟨a3,SlF.nil _ _ _ _,by simp [Value.ownBlock]⟩,fun x=>by simp [Value.ownBlock]⟩;have a0:=M.out.setSm HL.out V.out E a6 fun b hb=>.inl ((l.out b).2 (.inl hb));have f:∀ j b,FL j b->F b:=fun j b x=>(t.out b).2 (.inr (.inr ⟨j,x⟩));have q:FL i g:=(l.out g).2 (.inr rfl);have a2:g≠k:=fun e=>n.out.d (by rw [<-e];rfl);rw [TakeTo,q1,q2,q3];refine ⟨_,rfl,n.out.buf.fr G fun b hb e=>n.out.d (by have Y:b=k:=e;rw [<-Y];exact hb),_,⟨m,hp,_,a0,fun _=>Iff.rfl⟩,E.mono fun x _ e=>f i x e,fun b hb=>?_,fun b hb=>?_,fun b hb hx=>?_⟩
 · rcases hb with e | e | ⟨j,e⟩
   · exact .inl ((t.out b).2 (.inl e))
   · exact .inl ((t.out b).2 (.inr (.inl e)))
   left
   by_cases hj:j=i
   · rw [if_pos hj] at e
     exact f i b ((l.out b).2 (.inl e))
   rw [if_neg hj] at e
   exact f j b e
 · obtain rfl:g=b:=by simpa [Value.ownBlock] using hb
   exact .inl (f i g q)
 obtain rfl:g=b:=by simpa [Value.ownBlock] using hb
 rcases hx with e | e | ⟨j,e⟩
 · exact M.out.dh i (e▸q)
 · exact M.out.dm i (e▸q)
 by_cases hj:j=i
 · rw [if_pos hj] at e
   exact a2 e
 rw [if_neg hj] at e
 exact hj (M.out.dl j i g e q)
set_option maxHeartbeats 8000000 in
theorem zts {TA:zai} {N:Nat} (hT:TreeOk TA N) {k:Nat} {S:St} {D:Doc} (hG:Good k S D) {w:World} {h st m:Nat} {hp:Int->Option Nat} {FL:Int->Nat->Prop} {H:Hb} {F G:Nat->Prop} (hS:zal TA w st S G) (hd:∀ b,F b->¬ G b) (a:HubR w h st m hp FL H) (hF:∀ b,F b↔hubF h m FL b) (i:Int) (hi:(Lit.int .i64 i).wf=true) {s:Sm} (hl:getH H.L i=some s) (hb:¬ 0<s.buf.length) (hg1:s.place<=H.fed) (hg2:s.place<D.mark) :
 Calls Tryz.prog 14 #[.pointer (some ⟨h,0,none⟩),.int .i64 i] w fun e w'=>TakeTo w w' h st F D H i e:=by
 have hq:Hid (takeE H i=0/\takeB D H i=⟨[],D.mark,true⟩/\takeH D H i=⟨H.fed,H.last,delH H.L i⟩):=H_ ⟨by unfold takeE;rw [hl];exact if_neg (by simp),by unfold takeB;rw [hl];dsimp only;rw [if_neg hb,if_pos ⟨hg1,hg2⟩],by unfold takeH;rw [hl];dsimp only;rw [if_neg hb,if_pos ⟨hg1,hg2⟩]⟩;have E:=zae w (Obj.cells #[.slice none 0 0,.int .i64 0,.bool false] 43) _ rfl;have I:=(Fr.refl No w).alloc (Obj.cells #[.slice none 0 0,.int .i64 0,.bool false] 43);have q:=fun W (hW:Fr F w W)=>zct W st S G (hS.fr hT hW fun b hb hb2=>hd b hb2 hb);rw [hG.cpl.mark] at q;obtain ⟨U,t,bv,l,B⟩:=a.sm i s hl;obtain ⟨ba,bc,rfl,aa,ab,ad⟩:=l.buf.shape;have hv:((hp i).map fun b=>Value.pointer (some ⟨b,0,none⟩)).getD (.pointer none)=.pointer (some ⟨U,0,none⟩):=by rw [t];rfl
 have HV:=H_ hv;have d:=a.fr I fun _ _ x=>x;have X:=H_ a;have n:=H_ hF;have HM:=H_ d.map;have HL:=H_ hl;have ao:=H_ t;have al:=H_ B;have ap:=H_ l;have z:=H_ q;have R:=d.obj.cell 0 rfl;have c1:=d.obj.cell 1 rfl;have c3:=d.obj.cell 3 rfl;have lh:=d.obj.lt;have Q:=l.obj.fr I fun x=>x;have k6:=Q.cell 6 rfl;have k7:=Q.cell 7 rfl;have lp:=Q.lt;have a4:=H_ Q;have av:¬ (0:Int)<(s.buf.length:Int):=by omega
 have aw:decide (s.place<=H.fed)=true:=decide_eq_true hg1;clear a d hF hv hl t B l aa ab ad Q q hG hS hd;go_enter Tryz.func14,Tryz.ntmps14;go_upto_region 3 with fail;generalize w.alloc (Obj.cells #[.slice none 0 0,.int .i64 0,.bool false] 43)=W at *;go_upto_region 10 with (at_lookup;refine zbf rfl _ _ 94 rfl 3 98 Tryz.underlying94 Tryz.underlying3 m _ rfl HM.out i rfl hi _ (zero98 _) _ HV.out ?_);have q0:W.cell? ⟨h,0,none⟩=some (.pointer (some ⟨st,0,none⟩))/\W.cell? ⟨h,1,none⟩=some (.int .i64 H.fed)/\W.cell? ⟨U,7,none⟩=some (.int .i64 s.place):=⟨R,c1,k7⟩;have V:W.drew.cell? ⟨h,0,none⟩=some (.pointer (some ⟨st,0,none⟩))/\W.drew.cell? ⟨h,1,none⟩=some (.int .i64 H.fed)/\W.drew.cell? ⟨U,7,none⟩=some (.int .i64 s.place):=⟨R,c1,k7⟩;have a5:=H_ (z.out W.drew (I.drew.mono fun _ _ x=>x.elim))
 clear R c1 k7 k6
 go_region_held3 (fun W=>W.cell? ⟨h,0,none⟩=some (.pointer (some ⟨st,0,none⟩))/\W.cell? ⟨h,1,none⟩=some (.int .i64 H.fed)/\W.cell? ⟨U,7,none⟩=some (.int .i64 s.place))
  (first | with_reducible exact q0 | with_reducible exact V | fail)
  (first | (go_at_call 45;(with_reducible refine a5.out.mono ?_);rintro e w1 ⟨rfl,rfl⟩) | fail)
 go_upto_region 11 with fail;generalize u:W.drew=W1 at *;have a9:W1.heap[w.heap.size]?=some (.cells #[.slice none 0 0,.int .i64 0,.bool false] 43 (0,0)):=by rw [<-u];exact E
 have J:Fr No w W1:=by rw [<-u];exact I.drew
 have d:=X.out.fr J fun _ _ x=>x;have c3:=d.obj.cell 3 rfl;have lh:=d.obj.lt;have a2:=H_ d.map;have HO:=H_ d.obj;have K:=d.map.apart d.obj;have ax:m<w.heap.size:=X.out.map.lt;have a0:=H_ K;clear u E I d q0 V a4 K;go_upto_region 12 with (refine zhq rfl _ _ 94 3 rfl 98 Tryz.underlying94 Tryz.underlying3 m _ rfl a2.out i rfl hi ?_;intro y M g az);have r:=HO.out.fr g fun e=>a0.out e.symm;have R:=r.cell 0 rfl;have aC:=r.lt;have f:Fr (fun x=>x=m) w y:=(J.mono fun _ _ x=>x.elim).trans g fun _ _ x=>x;have P:=z.out y (f.mono fun x _ e=>(n.out x).2 (.inr (.inl e)));have a6:=H_ P
 have c:=g.heap a9 fun e=>by
  have e':w.heap.size=m:=e;omega
 have y0:y.cell? ⟨w.heap.size,0,none⟩=some (.slice none 0 0):=cellAt c 0 rfl;have y1:y.cell? ⟨w.heap.size,1,none⟩=some (.int .i64 0):=cellAt c 1 rfl;have y2:y.cell? ⟨w.heap.size,2,none⟩=some (.bool false):=cellAt c 2 rfl;have ly:=zac c;have T:∀ j,y.frozen? ⟨w.heap.size,j,none⟩=false:=fun j=>by unfold World.frozen?;rw [c];rfl
 have f0:=T 0;have f1:=T 1;have f2:=T 2;obtain ⟨Z,hZ,hz,O⟩:=zhm c (.slice none 0 0) (.int .i64 D.mark) (.bool true);have HZ:=H_ hZ;have o:=H_ hz;have A:=H_ O;have Y:=H_ f;have a3:=H_ M;clear hZ hz O T c g M P f r;go_wp2_with (go_at_call 45;(with_reducible refine a6.out.mono ?_);rintro e w9 ⟨rfl,rfl⟩);rw [<-HZ.out];have z0:Z.cell? ⟨w.heap.size,0,none⟩=some (.slice none 0 0):=cellAt o.out 0 rfl;have z1:Z.cell? ⟨w.heap.size,1,none⟩=some (.int .i64 D.mark):=cellAt o.out 1 rfl;have z2:Z.cell? ⟨w.heap.size,2,none⟩=some (.bool true):=cellAt o.out 2 rfl;refine bodyPost_ret (v:=.tuple #[batV (.slice none 0 0) ⟨[],D.mark,true⟩,.int .i64 0]) (w:=Z) (by rw [results_cell_tmp rfl];go_simp;rfl) rfl ?_;obtain ⟨V,q2,q3⟩:=hq.out
 have C:Fr (fun x=>x=m) w Z:=Y.out.trans A.out fun j hj e=>by
  have e':j=w.heap.size:=e;omega
 have a8:=X.out.delSm i C (a3.out.fr A.out fun e=>by
  have e':m=w.heap.size:=e;omega)
 rw [TakeTo,V,q2,q3];refine ⟨_,rfl,SlF.nil _ _ _ _,_,⟨m,_,_,a8,fun _=>Iff.rfl⟩,C.mono fun x _ e=>(n.out x).2 (.inr (.inl e)),fun b hb=>.inl ((n.out b).2 ?_),by simp [Value.ownBlock],by simp [Value.ownBlock]⟩;rcases hb with e | e | ⟨j,e⟩
 · exact .inl e
 · exact .inr (.inl e)
 exact .inr (.inr ⟨j,e.2⟩)
set_option maxHeartbeats 8000000 in
theorem zqy {TA:zai} {N:Nat} (hT:TreeOk TA N) {k:Nat} {S:St} {D:Doc} (hG:Good k S D) {w:World} {h st m:Nat} {hp:Int->Option Nat} {FL:Int->Nat->Prop} {H:Hb} {F G:Nat->Prop} (hS:zal TA w st S G) (hd:∀ b,F b->¬ G b) (a:HubR w h st m hp FL H) (hF:∀ b,F b↔hubF h m FL b) (i:Int) (hi:(Lit.int .i64 i).wf=true) {s:Sm} (hl:getH H.L i=some s) (hb:¬ 0<s.buf.length) (hg:¬ (s.place<=H.fed/\s.place<D.mark)) (hev:S.events.length<=11000000) (hne:1<=S.rev->0<S.events.length) (hf1:H.fed<=11000000) (hp0:0<=s.place) (hp1:0<=(catchH D H.fed s).1/\(catchH D H.fed s).1<=11000001) :
 Calls Tryz.prog 14 #[.pointer (some ⟨h,0,none⟩),.int .i64 i] w fun e w'=>TakeTo w w' h st F D H i e:=by
 have hq:Hid (takeE H i=0/\takeB D H i=⟨(catchH D H.fed s).2,(catchH D H.fed s).1-1,false⟩/\takeH D H i=⟨H.fed,H.last,setH H.L i ⟨s.w,[],(catchH D H.fed s).1⟩⟩):=H_ ⟨by unfold takeE;rw [hl];exact if_neg (by simp),by unfold takeB;rw [hl];dsimp only;rw [if_neg hb,if_neg hg],by unfold takeH;rw [hl];dsimp only;rw [if_neg hb,if_neg hg]⟩;have a4:=zae w (Obj.cells #[.slice none 0 0,.int .i64 0,.bool false] 43) _ rfl;have hf:=(Fr.refl No w).alloc (Obj.cells #[.slice none 0 0,.int .i64 0,.bool false] 43);have z:=fun W (hW:Fr F w W)=>zct W st S G (hS.fr hT hW fun b hb hb2=>hd b hb2 hb);rw [hG.cpl.mark] at z;obtain ⟨f,A,bv,g,n⟩:=a.sm i s hl;obtain ⟨ba,bc,rfl,B,E,I⟩:=g.buf.shape
 have R:((hp i).map fun b=>Value.pointer (some ⟨b,0,none⟩)).getD (.pointer none)=.pointer (some ⟨f,0,none⟩):=by rw [A];rfl
 have HV:=H_ R;have O:=a.fr hf fun _ _ x=>x;have HA:=H_ a;have q:=H_ hF;have HM:=H_ O.map;have HL:=H_ hl;have an:=H_ A;have T:=H_ n;have l:=H_ g;have al:=H_ z;have U:=O.obj.cell 0 rfl;have P:=O.obj.cell 1 rfl;have c3:=O.obj.cell 3 rfl;have lh:=O.obj.lt;have o1:=g.obj.fr hf fun x=>x;have k6:=o1.cell 6 rfl;have M:=o1.cell 7 rfl;have lp:=o1.lt;have aN:=H_ o1;have aT:¬ (0:Int)<(s.buf.length:Int):=by omega
 have a5:=fun W (hW:Fr No w W)=>zod hT hG (w:=W) (s:=s) (bv:=.slice ba s.buf.length bc) (hS.fr0 hT hW) (hd f ((hF f).2 (.inr (.inr ⟨i,(n f).2 (.inl rfl)⟩)))) ((a.fr hW fun _ _ x=>x).obj) (g.obj.fr hW fun x=>x) (fun e=>a.dh i ((n h).2 (.inl e))) hev hne hf1 hp0;generalize au:catchH D H.fed s=cv at *;obtain ⟨Q,cl⟩:=cv;dsimp only at hp1;have aj:=H_ a5;have aY:IntKind.i64.wrap (Q-1)=Q-1:=by rw [IntKind.wrap_i64];omega
 clear a O hF R hl A n g B E I o1 z hG hS hd a5 au;go_enter Tryz.func14,Tryz.ntmps14;go_upto_region 3 with fail;generalize w.alloc (Obj.cells #[.slice none 0 0,.int .i64 0,.bool false] 43)=W at *;go_upto_region 10 with (at_lookup;refine zbf rfl _ _ 94 rfl 3 98 Tryz.underlying94 Tryz.underlying3 m _ rfl HM.out i rfl hi _ (zero98 _) _ HV.out ?_)
 go_cut [43] (fun s43 wx=>s43=.bool false/\wx=W.drew)
 case first =>
  by_cases hg1:s.place<=H.fed
  · have aw:¬ s.place<D.mark:=fun x=>hg ⟨hg1,x⟩
    have av:decide (s.place<=H.fed)=true:=decide_eq_true hg1;have aU:decide (s.place<D.mark)=false:=decide_eq_false aw;have q0:W.cell? ⟨h,0,none⟩=some (.pointer (some ⟨st,0,none⟩))/\W.cell? ⟨h,1,none⟩=some (.int .i64 H.fed)/\W.cell? ⟨f,7,none⟩=some (.int .i64 s.place):=⟨U,P,M⟩;have q1:W.drew.cell? ⟨h,0,none⟩=some (.pointer (some ⟨st,0,none⟩))/\W.drew.cell? ⟨h,1,none⟩=some (.int .i64 H.fed)/\W.drew.cell? ⟨f,7,none⟩=some (.int .i64 s.place):=⟨U,P,M⟩;have ap:=H_ (al.out W.drew (hf.drew.mono fun _ _ x=>x.elim));clear U P M k6
    go_region_held3 (fun W=>W.cell? ⟨h,0,none⟩=some (.pointer (some ⟨st,0,none⟩))/\W.cell? ⟨h,1,none⟩=some (.int .i64 H.fed)/\W.cell? ⟨f,7,none⟩=some (.int .i64 s.place))
     (first | with_reducible exact q0 | with_reducible exact q1 | fail)
     (first | (go_at_call 45;(with_reducible refine ap.out.mono ?_);rintro e w1 ⟨rfl,rfl⟩) | fail)
    all_goals
     go_wp2;go_meet
     case rel=>exact ⟨rfl,rfl⟩
  have av:decide (s.place<=H.fed)=false:=decide_eq_false hg1
  have q1:W.drew.cell? ⟨f,7,none⟩=some (.int .i64 s.place):=M;have q2:W.drew.cell? ⟨h,1,none⟩=some (.int .i64 H.fed):=P;have l1:f<W.drew.heap.size:=lp;have l2:h<W.drew.heap.size:=lh;clear U P c3 M k6;refine zba (C:=fun Z=>Z=W.drew) (by kernel_rfl) (by kernel_rfl) rfl ?_
  repeat (refine (wpQuiet_step (fun K hK=>?_):_)
          go_simp
          first
           | (refine hK _ ?_;clear hK K)
           | (apply Exists.intro
              refine ⟨fun W hW=>?_,hK _ ?_⟩
              (first
                | exact rfl
                | (subst hW;go_simp;exact rfl))
              clear hK K))
  refine (wpQuiet_nil ?_:_);intro w9 az;subst az;go_wp2;go_meet
  case rel=>exact ⟨rfl,rfl⟩
 case rest =>
 obtain ⟨rfl,aa⟩:=hcut;rw [aa];clear aa;generalize J:W.drew=W1 at *;have a2:W1.heap[w.heap.size]?=some (.cells #[.slice none 0 0,.int .i64 0,.bool false] 43 (0,0)):=by rw [<-J];exact a4
 have hf1:Fr No w W1:=by rw [<-J];exact hf.drew
 have CC:=H_ (aj.out W1 hf1);clear J a4 hf U P c3 k6 M lh lp;have aV:f<w.heap.size:=l.out.obj.lt;go_upto_region 14 with (go_at_call 46;(with_reducible refine CC.out.mono ?_);rintro e w2 ⟨v,rfl,R,a8,y,o⟩;obtain ⟨va,vc,rfl,B,E,I⟩:=R.shape);have M:=o.cell 7 rfl;have lp:=o.lt;have aX:w.heap.size<W1.heap.size:=zac a2
 have c:=y.heap a2 fun e=>by
  have V:w.heap.size=f:=e;omega
 have y0:w2.cell? ⟨w.heap.size,0,none⟩=some (.slice none 0 0):=cellAt c 0 rfl;have y1:w2.cell? ⟨w.heap.size,1,none⟩=some (.int .i64 0):=cellAt c 1 rfl;have y2:w2.cell? ⟨w.heap.size,2,none⟩=some (.bool false):=cellAt c 2 rfl;have ly:=zac c;have fz:∀ j,w2.frozen? ⟨w.heap.size,j,none⟩=false:=fun j=>by unfold World.frozen?;rw [c];rfl
 have f0:=fz 0;have f1:=fz 1;have f2:=fz 2;obtain ⟨Z,hZ,hz,ab⟩:=zhm c (.slice va cl.length vc) (.int .i64 (Q-1)) (.bool false);have HZ:=H_ hZ;have t:=H_ hz;have u:=H_ ab;have ak:=H_ y;have ao:=H_ R;have r:=H_ a8;have am:=H_ o;clear hZ hz ab fz c y R a8 o B E I;go_wp2;rw [<-HZ.out];have z0:Z.cell? ⟨w.heap.size,0,none⟩=some (.slice va cl.length vc):=cellAt t.out 0 rfl;have z1:Z.cell? ⟨w.heap.size,1,none⟩=some (.int .i64 (Q-1)):=cellAt t.out 1 rfl;have z2:Z.cell? ⟨w.heap.size,2,none⟩=some (.bool false):=cellAt t.out 2 rfl;refine bodyPost_ret (v:=.tuple #[batV (.slice va cl.length vc) ⟨cl,Q-1,false⟩,.int .i64 0]) (w:=Z) (by rw [results_cell_tmp rfl];go_simp;rfl) rfl ?_;obtain ⟨q1,q2,q3⟩:=hq.out
 have a0:Fr (fun x=>x=f) w Z:=((hf1.mono fun _ _ x=>x.elim).trans ak.out fun _ _ x=>x).trans u.out fun j hj e=>by
  have V:j=w.heap.size:=e;omega
 have Y:Fr (FL i) w Z:=a0.mono fun x _ e=>(T.out x).2 (.inl e);have ar:s.buf = []:=List.eq_nil_of_length_eq_zero (by omega)
 have a9:=am.out.fr u.out fun e=>by
  have V:f=w.heap.size:=e;omega
 have a3:=l.out.buf.fr a0 fun b hb e=>l.out.d (by have V:b=f:=e;rw [<-V];exact hb);have hdd:=l.out.d;have X:=T.out;rw [ar] at a9 a3 hdd X;have ay:SmAt Z f ⟨s.w,[],Q⟩ (FL i):=⟨_,⟨a9,a3,hdd⟩,X⟩;have aq:=HA.out.setSm HL.out an.out Y ay fun b hb=>.inl hb;have ax:=HA.out.lt
 have a7:∀ b,hubF h m (fun j=>if j=i then FL i else FL j) b->F b:=fun b hb=>by
  refine (q.out b).2 ?_;rcases hb with e | e | ⟨j,e⟩
  · exact .inl e
  · exact .inr (.inl e)
  by_cases hj:j=i
  · rw [if_pos hj] at e
    exact .inr (.inr ⟨i,e⟩)
  rw [if_neg hj] at e
  exact .inr (.inr ⟨j,e⟩)
 rw [TakeTo,q1,q2,q3];refine ⟨_,rfl,ao.out.fr u.out fun b hb e=>?_,_,⟨m,hp,_,aq,fun _=>Iff.rfl⟩,Y.mono fun x _ e=>(q.out x).2 (.inr (.inr ⟨i,e⟩)),fun b hb=>.inl (a7 b hb),fun b hb=>?_,fun b hb hx=>?_⟩
 · have V:b=w.heap.size:=e
   have:=r.out b hb;omega
 · right
   have:=r.out b hb;omega
 have h1:=ax b ((q.out b).1 (a7 b hx))
 have:=r.out b hb;omega
theorem zqz {TA:zai} {N:Nat} (hT:TreeOk TA N) {k:Nat} {S:St} {D:Doc} (hG:Good k S D) {w:World} {h st:Nat} {H:Hb} {F G:Nat->Prop} (hS:zal TA w st S G) (hd:∀ b,F b->¬ G b) (hH:HubAt w h st H F) (i:Int) (hi:(Lit.int .i64 i).wf=true) (hev:S.events.length<=11000000) (hne:1<=S.rev->0<S.events.length) (hf1:H.fed<=11000000) (hpl:∀ s,getH H.L i=some s->0<=s.place/\s.place<=H.fed+1) :
 Calls Tryz.prog 14 #[.pointer (some ⟨h,0,none⟩),.int .i64 i] w fun e w'=>TakeTo w w' h st F D H i e:=by
 obtain ⟨m,j,f,a,hF⟩:=hH
 cases hl:getH H.L i with
 | none=>exact ztr a hF D i hi hl
 | some s =>
   obtain ⟨c,g⟩:=hpl s hl;by_cases hb:0<s.buf.length
   · exact zvq a hF D i hi hl hb c (by omega)
   by_cases hg:s.place<=H.fed/\s.place<D.mark
   · exact zts hT hG hS hd a hF i hi hl hb hg.1 hg.2
   have d:=zdb D H.fed s.w (H.fed-s.place+1).toNat true s.place []
   exact zqy hT hG hS hd a hF i hi hl hb hg hev hne hf1 c ⟨by have:=d.1;unfold catchH;omega,by have:=d.2;unfold catchH;omega⟩
theorem zge (D:Doc):∀ (n:Nat) (H:Hb),(feedN D n H).L.map (·.1)=H.L.map (·.1)/\(feedN D n H).last=H.last/\(feedN D n H).fed=H.fed+n
 | 0,H=>⟨rfl,rfl,by simp [feedN]⟩
 | n+1,H=>by
   obtain ⟨a,b,c⟩:=zge D n (feed1 D H)
   have e:(feed1 D H).L.map (·.1)=H.L.map (·.1):=by
    unfold feed1;rw [List.map_map]
    rfl
   refine ⟨a.trans e,b,?_⟩
   show (feedN D n (feed1 D H)).fed=_
   rw [c]
   show H.fed+1+(n:Int)=_
   omega
theorem zti (D:Doc) (H:Hb):(feedH D H).L.map (·.1)=H.L.map (·.1)/\(feedH D H).last=H.last:=⟨(zge D _ H).1,(zge D _ H).2.1⟩
structure HbQ (H:Hb):Prop where
 f0:0<=H.fed
 b:HbB H
 p:∀ q∈H.L,0<=q.2.place/\q.2.place<=H.fed+1
theorem HbQ.new {f:Int} (h:0<=f) (l:Int):HbQ ⟨f,l,[]⟩:=⟨h,fun p hp=>by simp at hp,fun p hp=>by simp at hp⟩
theorem HbQ.set {H:Hb} (h:HbQ H) (i:Int) {s:Sm} (hb:s.buf.length<=64) (hp:0<=s.place/\s.place<=H.fed+1):HbQ ⟨H.fed,H.last,setH H.L i s⟩ where
 f0:=h.f0
 b:=fun p hp'=>by
  obtain ⟨q,hq,rfl⟩:=List.mem_map.1 hp'
  split
  · exact hb
  exact h.b q hq
 p:=fun p hp'=>by
  obtain ⟨q,hq,rfl⟩:=List.mem_map.1 hp'
  split
  · exact hp
  exact h.p q hq
theorem HbQ.del {H:Hb} (h:HbQ H) (i:Int):HbQ ⟨H.fed,H.last,delH H.L i⟩:=⟨h.f0,fun p hp=>h.b p (List.mem_filter.1 hp).1,fun p hp=>h.p p (List.mem_filter.1 hp).1⟩
theorem HbQ.close {H:Hb} (h:HbQ H) (i:Int):HbQ (closeH H i):=by
 unfold closeH
 split
 · exact h
 exact h.del i
theorem HbQ.open {H:Hb} (h:HbQ H) (t:Wt):HbQ (openH H t) where
 f0:=h.f0
 b:=fun p hp=>by
  rcases List.mem_append.1 hp with h1 | h1
  · exact h.b p h1
  rw [List.mem_singleton.1 h1]
  exact Nat.zero_le _
 p:=fun p hp=>by
  have h0:=h.f0;rcases List.mem_append.1 hp with h1 | h1
  · exact h.p p h1
  rw [List.mem_singleton.1 h1]
  unfold openS openH;dsimp only
  split <;> omega
theorem HbQ.feed1 {H:Hb} (h:HbQ H) (D:Doc):HbQ (feed1 D H) where
 f0:=by have:=h.f0;show 0<=H.fed+1;omega
 b:=h.b.feed1 D
 p:=fun p hp=>by
  obtain ⟨q,hq,rfl⟩:=List.mem_map.1 hp;obtain ⟨h1,h2⟩:=h.p q hq
  show 0<=(lookS D (H.fed+1) q.2).place/\(lookS D (H.fed+1) q.2).place<=H.fed+1+1
  unfold lookS
  split
  · dsimp only
    omega
  omega
theorem HbQ.feedN {H:Hb} (h:HbQ H) (D:Doc):∀ n,HbQ (feedN D n H):=by
 intro n
 induction n generalizing H with
 | zero=>exact h
 | succ n ih=>exact ih (h.feed1 D)
theorem HbQ.feed {H:Hb} (h:HbQ H) (D:Doc):HbQ (feedH D H):=h.feedN D _
theorem HbQ.get {H:Hb} (h:HbQ H) (hk:HbOk H) {i:Int} {s:Sm} (hs:getH H.L i=some s):s.buf.length<=64/\0<=s.place/\s.place<=H.fed+1:=⟨h.b _ ((zfi hk.up).1 hs),h.p _ ((zfi hk.up).1 hs)⟩
theorem HbQ.take {H:Hb} (h:HbQ H) (hk:HbOk H) (D:Doc) (i:Int):HbQ (takeH D H i):=by
 unfold takeH
 split
 · exact h
 rename_i s hs
 obtain ⟨c,a,b⟩:=h.get hk hs
 split
 · exact h.set i (Nat.zero_le _) ⟨a,b⟩
 split
 · exact h.del i
 have d:=zdb D H.fed s.w (H.fed-s.place+1).toNat true s.place []
 refine h.set i (Nat.zero_le _) ?_;unfold catchH;dsimp only;omega
theorem zsm (H:Hb) (t:Wt):(openH H t).L.length=H.L.length+1/\(openH H t).last=H.last+1/\(openH H t).fed=H.fed:=⟨by unfold openH;simp,rfl,rfl⟩
theorem zqn (H:Hb) (i:Int):(closeH H i).L.length<=H.L.length/\(closeH H i).last=H.last/\(closeH H i).fed=H.fed:=by
 unfold closeH
 split
 · exact ⟨Nat.le_refl _,rfl,rfl⟩
 exact ⟨List.length_filter_le _ _,rfl,rfl⟩
theorem zeo (D:Doc) (H:Hb) (i:Int):(takeH D H i).L.length<=H.L.length/\(takeH D H i).last=H.last/\(takeH D H i).fed=H.fed:=by
 unfold takeH
 split
 · exact ⟨Nat.le_refl _,rfl,rfl⟩
 split
 · exact ⟨by unfold setH;simp,rfl,rfl⟩
 split
 · exact ⟨List.length_filter_le _ _,rfl,rfl⟩
 exact ⟨by unfold setH;simp,rfl,rfl⟩
theorem zth (D:Doc) (H:Hb):(feedH D H).L.length=H.L.length/\(feedH D H).last=H.last/\(H.fed<=D.rev->(feedH D H).fed=D.rev):=by
 have a:=zge D (D.rev-H.fed).toNat H;unfold feedH;refine ⟨by have:=congrArg List.length a.1;simpa using this,a.2.1,fun hf=>?_⟩;rw [a.2.2];omega
theorem zue {W:World} {b:Nat} {o1:Opr} {t:TypeId} (h:W.heap[b]?=some (.cells (opC o1).toArray t (0,0))):SlR W 10 opC (.slice (some ⟨b,0,none⟩) 1 1) [o1]:=by
 refine ⟨_,1,rfl,by simp,by decide,fun _=>⟨b,0,rfl,fun i x hx j u hu=>?_⟩⟩;have a:i=0:=by have:=(List.getElem?_eq_some_iff.1 hx).1;simp at this;omega
 subst a;obtain rfl:o1=x:=by simpa using hx
 unfold World.cell?;simp only [h,Nat.zero_mul,Nat.zero_add,Option.isSome_none,Bool.false_eq_true,if_false];simpa using hu
theorem zfo {TA:zai} (hT:TreeOk TA 1000000) {k:Nat} {S:St} {D:Doc} (h:Good k S D) (hk:k<=200) (w:World) (s:Nat) (F:Nat->Prop) (hS:zal TA w s S F) (a b:ByteArray) (ha:a.size<=3000) (he:applyE S [putO a b]=0) :
 Calls Tryz.prog 39 #[.pointer (some ⟨s,0,none⟩),.string a,.string b] w fun e w'=>e=.returned (.tuple #[])/\∃ F',zal TA w' s (applyS S [putO a b]) F'/\Fr F w w'/\(∀ b,F' b->F b\/w.heap.size<=b):=by
 have d:∀ W p,W.heap[p]?=some (.cells (opC (putO a b)).toArray 139 (0,0))->zal TA W s S F->¬ F p->Calls Tryz.prog 56 #[.pointer (some ⟨s,0,none⟩),.slice (some ⟨p,0,none⟩) 1 1] W fun e w'=>∃ f g c,e=.returned (.tuple #[f,g,.int .i64 0])/\zal TA w' s (applyS S [putO a b]) c/\Fr F W w'/\(∀ b,c b->F b\/W.heap.size<=b):=fun W p hp hS np=>by
  have h:=zhe hT h hk W s F hS _ [putO a b] (zue hp) (fun _ b hb=>by simp [Value.ownBlock] at hb;rw [<-hb];exact np) (by simp) (fun o ho=>by rw [List.mem_singleton.1 ho];exact ha);rw [he] at h;simp only [if_true] at h;refine h.mono ?_;rintro e w' ⟨f,g,rfl,c,Z,m,u,v,y,n,q⟩;exact ⟨f,g,c,rfl,m,n,q⟩
 have i:=H_ d;have j:=H_ hS;clear d hS h he;go_enter Tryz.func39,Tryz.ntmps39;go_wp2_with (go_at_call 56;refine (i.out _ w.heap.size (zae _ _ _ rfl) (j.out.fr0 hT ((Fr.refl No w).alloc _)) (fun h=>by have:=j.out.lt hT _ h;omega)).mono ?_;rintro e w1 ⟨f,g,c,rfl,t,l,r⟩);refine bodyPost_end (results_none rfl _ _ _) rfl ⟨rfl,c,t,?_,fun b hb=>(r b hb).imp id fun h=>by simp at h;omega⟩;exact (((Fr.refl No w).alloc _).mono (T:=F) fun _ _ h=>h.elim).trans l fun _ _ x=>x
structure BothP (k n:Nat) (S:St) (D:Doc) (H:Hb):Prop where
 good:Good k S D
 q:HbQ H
 fed:H.fed<=D.rev
 len:H.L.length<=n
 last:H.last<=n
def Both (TA:zai) (w:World) (h st:Nat) (k n:Nat) (S:St) (D:Doc) (H:Hb) (B:Nat->Prop):Prop :=
 BothP k n S D H/\∃ F G,HubAt w h st H F/\zal TA w st S G/\(∀ b,F b->¬ G b)/\(∀ b,F b->B b)/\(∀ b,G b->B b)/\(∀ b,B b->F b\/G b)
theorem HubAt.ok {w:World} {h st:Nat} {H:Hb} {F:Nat->Prop} (a:HubAt w h st H F):HbOk H:=by
 obtain ⟨m,c,b,a,_⟩:=a;exact a.ok
section
variable {TA:zai} (hT:TreeOk TA 1000000) {w:World} {h st k n:Nat} {S:St} {D:Doc} {H:Hb} {B:Nat->Prop}
include hT
theorem Both.lt (a:Both TA w h st k n S D H B):∀ b,B b->b<w.heap.size:=by
 obtain ⟨_,F,G,d,e,_,_,_,f⟩:=a;intro b g;rcases f b g with c | c
 · exact d.lt b c
 exact e.lt hT b c
theorem Both.fr {w':World} {X:Nat->Prop} (a:Both TA w h st k n S D H B) (hf:Fr X w w') (hn:∀ b,B b->¬ X b):Both TA w' h st k n S D H B:=by
 obtain ⟨p,F,G,e,f,g,c,d,i⟩:=a;exact ⟨p,F,G,e.fr hf fun b hb=>hn b (c b hb),f.fr hT hf fun b hb=>hn b (d b hb),g,c,d,i⟩
theorem Both.fr0 {w':World} (a:Both TA w h st k n S D H B) (hf:Fr No w w'):Both TA w' h st k n S D H B:=a.fr hT hf fun _ _ x=>x
omit hT in
theorem Both.ok (a:Both TA w h st k n S D H B):HbOk H:=by
 obtain ⟨_,F,G,b,_⟩:=a;exact b.ok
omit hT in
theorem Both.p (a:Both TA w h st k n S D H B):BothP k n S D H:=a.1
omit hT in
theorem BothP.sizes (a:BothP k n S D H) (hk:k<=200):S.events.length<=11000000/\S.rev<=1000000/\(1<=S.rev->0<S.events.length)/\H.fed<=1000000:=by
 have b:=a.good.rev;have c:=a.good.rev1;have d:=a.fed;have e:=a.good.ok.ev;refine ⟨by omega,by omega,fun h=>a.good.events_pos (by omega),by omega⟩
theorem Both.made {G:Nat->Prop} (hG:Good k S D) (hS:zal TA w st S G) (hr:0<=S.rev) :
 Calls Tryz.prog 11 #[.pointer (some ⟨st,0,none⟩)] w fun e w'=>∃ h,e=.returned (.tuple #[.pointer (some ⟨h,0,none⟩),.int .i64 0])/\∃ B,Both TA w' h st k 0 S D ⟨S.rev,0,[]⟩ B/\Fr No w w'/\∀ b,B b->G b\/w.heap.size<=b:=by
 refine (ztw w st S G hS).mono ?_;rintro e w' ⟨h,rfl,a,f,c,d⟩;refine ⟨h,rfl,fun b=>a b\/G b,⟨⟨hG,HbQ.new hr 0,by rw [hG.rev];exact Int.le_refl _,Nat.le_refl _,Int.le_refl _⟩,a,G,f,hS.fr0 hT c,fun b h1 h2=>?_,fun _=>.inl,fun _=>.inr,fun _ h=>h⟩,c,fun b hb=>?_⟩
 · have:=d b h1
   have:=hS.lt hT b h2;omega
 exact hb.elim (fun h=>.inr (d b h)) .inl
theorem Both.feed (a:Both TA w h st k n S D H B) (hk:k<=200) (hn:n<=1000) :
 Calls Tryz.prog 13 #[.pointer (some ⟨h,0,none⟩)] w fun e w'=>e=.returned (.tuple #[])/\∃ B',Both TA w' h st k n S D (feedH D H) B'/\Fr B w w'/\∀ b,B' b->B b\/w.heap.size<=b:=by
 obtain ⟨p,F,G,o,f,g,j,r,v⟩:=a;obtain ⟨t,z,u,A⟩:=p.sizes hk;have c:=p.len;have d:=p.last;refine (zrg hT p.good o f g t u p.q.f0 (by omega) (by omega) (by omega) p.q.b).mono ?_;rintro e w' ⟨rfl,i,b1,b2,l⟩;obtain ⟨x,y,s⟩:=zth D H;refine ⟨rfl,fun b=>i b\/G b,⟨⟨p.good,p.q.feed D,by rw [s p.fed];exact Int.le_refl _,by omega,by omega⟩,i,G,b1,f.fr hT b2 fun b c d=>g b d c,fun b c d=>?_,fun _=>.inl,fun _=>.inr,fun _ h=>h⟩,b2.mono fun b _ h=>j b h,fun b hb=>?_⟩
 · rcases l b c with m | m
   · exact g b m d
   have:=f.lt hT b d
   omega
 rcases hb with c | c
 · exact (l b c).imp (j b) id
 exact .inl (r b c)
theorem Both.open (a:Both TA w h st k n S D H B) (hk:k<=200) (hn:n<=999) (t:Wt) (ht:t.key.size<=3000) (hfr:(Lit.int .i64 t.frm).wf=true) :
 Calls Tryz.prog 12 #[.pointer (some ⟨h,0,none⟩),wtV t] w fun e w'=>e=.returned (.tuple #[.int .i64 (if openE t=0 then H.last+1 else 0),.int .i64 (openE t)])/\∃ B',Both TA w' h st k (n+1) S D (if openE t=0 then openH H t else H) B'/\Fr B w w'/\∀ b,B' b->B b\/w.heap.size<=b:=by
 obtain ⟨p,F,G,o,g,i,j,r,x⟩:=a;obtain ⟨A,C,E,v⟩:=p.sizes hk;have c:=p.len;have d:=p.last;refine (zrc o t (by omega) p.q.f0 v (by omega) hfr).mono ?_;rintro e w' ⟨rfl,f,b1,b2,l⟩;obtain ⟨y,z,u⟩:=zsm H t
 have s:BothP k (n+1) S D (if openE t=0 then openH H t else H):=by
  split
  · exact ⟨p.good,p.q.open t,by rw [u];exact p.fed,by omega,by omega⟩
  exact ⟨p.good,p.q,p.fed,by omega,by omega⟩
 refine ⟨rfl,fun b=>f b\/G b,⟨s,f,G,b1,g.fr hT b2 fun b c d=>i b d c,fun b c d=>?_,fun _=>.inl,fun _=>.inr,fun _ h=>h⟩,b2.mono fun b _ h=>j b h,fun b hb=>?_⟩
 · rcases l b c with m | m
   · exact i b m d
   have:=g.lt hT b d
   omega
 rcases hb with c | c
 · exact (l b c).imp (j b) id
 exact .inl (r b c)
theorem Both.take (a:Both TA w h st k n S D H B) (hk:k<=200) (i:Int) (hi:(Lit.int .i64 i).wf=true) :
 Calls Tryz.prog 14 #[.pointer (some ⟨h,0,none⟩),.int .i64 i] w fun e w'=>∃ v,e=.returned (.tuple #[batV v (takeB D H i),.int .i64 (takeE H i)])/\SlF w' 72 13 evC v (takeB D H i).evs/\∃ B',Both TA w' h st k n S D (takeH D H i) B'/\Fr B w w'/\(∀ b,B' b->B b\/w.heap.size<=b)/\(∀ b,v.ownBlock=some b->B b\/w.heap.size<=b)/\(∀ b,v.ownBlock=some b->¬ B' b):=by
 obtain ⟨p,F,G,o,g,j,l,x,K⟩:=a;obtain ⟨E,N,I,O⟩:=p.sizes hk;have f:=o.ok;refine (zqz hT p.good g j o i hi E I (by omega) fun s hs=>(p.q.get f hs).2).mono ?_;rintro e w' ⟨v,rfl,J,m,b1,b2,r,t,y⟩;obtain ⟨L,M,C⟩:=zeo D H i;have z:=p.len;have A:=p.last;refine ⟨v,rfl,J,fun b=>m b\/G b,⟨⟨p.good,p.q.take f D i,by rw [C];exact p.fed,by omega,by omega⟩,m,G,b1,g.fr hT b2 fun b c d=>j b d c,fun b c d=>?_,fun _=>.inl,fun _=>.inr,fun _ h=>h⟩,b2.mono fun b _ h=>l b h,fun b hb=>?_,fun b hb=>?_,fun b hb hx=>?_⟩
 · rcases r b c with u | u
   · exact j b u d
   have:=g.lt hT b d
   omega
 · rcases hb with c | c
   · exact (r b c).imp (l b) id
   exact .inl (x b c)
 · exact (t b hb).imp (l b) id
 rcases hx with c | c
 · exact y b hb c
 rcases t b hb with d | d
 · exact j b d c
 have:=g.lt hT b c
 omega
theorem Both.close (a:Both TA w h st k n S D H B) (i:Int) (hi:(Lit.int .i64 i).wf=true) :
 Calls Tryz.prog 15 #[.pointer (some ⟨h,0,none⟩),.int .i64 i] w fun e w'=>e=.returned (.int .i64 (takeE H i))/\∃ B',Both TA w' h st k n S D (closeH H i) B'/\Fr B w w'/\∀ b,B' b->B b:=by
 obtain ⟨p,F,G,l,m,f,g,o,u⟩:=a;refine (zol l i hi).mono ?_;rintro e w' ⟨rfl,d,b1,b2,j⟩;obtain ⟨v,x,t⟩:=zqn H i;have r:=p.len;have s:=p.last;refine ⟨rfl,fun b=>d b\/G b,⟨⟨p.good,p.q.close i,by rw [t];exact p.fed,by omega,by omega⟩,d,G,b1,m.fr hT b2 fun b c h2=>f b h2 c,fun b c h2=>f b (j b c) h2,fun _=>.inl,fun _=>.inr,fun _ h=>h⟩,b2.mono fun b _ h=>g b h,fun b hb=>?_⟩;rcases hb with c | c
 · exact g b (j b c)
 exact o b c
omit hT in
theorem Both.fedC (a:Both TA w h st k n S D H B):Calls Tryz.prog 16 #[.pointer (some ⟨h,0,none⟩)] w fun e w'=>e=.returned (.int .i64 H.fed)/\w=w':=by
 obtain ⟨_,F,G,b,_⟩:=a;exact ztx b
omit hT in
theorem Both.revC (a:Both TA w h st k n S D H B):Calls Tryz.prog 40 #[.pointer (some ⟨st,0,none⟩)] w fun e w'=>e=.returned (.int .i64 S.rev)/\w=w':=by
 obtain ⟨_,F,G,_,b,_⟩:=a;exact zdc w st S G b
theorem Both.does (hTD:TreeDl TA) (a:Both TA w h st k n S D H B) (hk:k<=200) (q:CalQ) (hq:fewCal q=true) (ha:SlR w 10 opC q.1.ops q.2.1) (hb:SlR w 1 strC q.1.keys q.2.2) (haF:0<q.2.1.length->∀ b,q.1.ops.ownBlock=some b->¬ B b) (hbF:0<q.2.2.length->∀ b,q.1.keys.ownBlock=some b->¬ B b) (hmono:D.rev<=(doD S D q).rev) :
 Calls Tryz.prog 27 #[.pointer (some ⟨st,0,none⟩),.agg (calC q).toArray] w fun e w'=>e=.returned (.int .i64 (doE S q))/\∃ B',Both TA w' h st (k+1) n (doT S q) (doD S D q) H B'/\Fr B w w'/\(∀ b,B' b->B b\/w.heap.size<=b):=by
 obtain ⟨p,F,G,g,m,i,o,d,r⟩:=a;refine (zvr hT hTD p.good hk w st G m q hq ha hb (fun h0 b c h2=>haF h0 b c (d b h2)) (fun h0 b c h2=>hbF h0 b c (d b h2))).mono ?_;rintro e w' ⟨rfl,f,b1,b2,j⟩;refine ⟨rfl,fun b=>F b\/f b,⟨⟨p.good.does hk hq,p.q,by have:=p.fed;omega,p.len,p.last⟩,F,f,g.fr b2 fun b c h2=>i b c h2,b1,fun b c h2=>?_,fun _=>.inl,fun _=>.inr,fun _ h=>h⟩,b2.mono fun b _ h=>d b h,fun b hb=>?_⟩
 · rcases j b h2 with l | l
   · exact i b c l
   have:=g.lt b c
   omega
 rcases hb with c | c
 · exact .inl (o b c)
 exact (j b c).imp (d b) id
end
end Go.Proofs.YtdgkdfmfoonbpaaGreat