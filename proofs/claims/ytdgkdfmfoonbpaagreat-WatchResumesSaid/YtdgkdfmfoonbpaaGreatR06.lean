/- Own lemmas. -/
import Derived.Test.YtdgkdfmfoonbpaaGreatR05
import Derived.Test.YtdgkdfmfoonbpaaGreatR00
import Derived.Deep.RegionLaw
import Derived.Deep.RegionHeld3
import Derived.Deep.DeepCutAuto
import Derived.StillTailTactics
namespace Go.Proofs.YtdgkdfmfoonbpaaGreat
open Go Go.Proofs Go.RowKit
set_option maxRecDepth 100000
theorem info198:(Tryz.prog.info? 194).map (fun i=>(i.zero,i.size,i.bytes))=some (some (.agg #[.slice none 0 0,.slice none 0 0]),2,48):=by kernel_rfl
def nz0:Nz:=⟨nd0,.slice none 0 0,.slice none 0 0⟩
theorem takeZ {Z:List Nz}:ndsZ (Z++[nz0])=ndsZ Z++[nd0]:=by unfold ndsZ;simp [nz0]
set_option maxHeartbeats 1000000 in
theorem zrt (w:World) (t:Nat) (A:Arr) (fl:List Nat) (root:Nat) (many:Int) (F:Nat->Prop) (h:TreeZ w t A fl root many F) (hA:A.length<=1099511627) (hl:fl.length<=1099511627) (hne:fl≠[]) :
 Calls Tryz.prog 157 #[.pointer (some ⟨t,0,none⟩)] w fun e w'=>e=.returned (.int .i64 (takeI A fl:Int))/\∃ F',TreeZ w' t (takeA A fl) fl.dropLast root many F'/\Fr F w w'/\∀ b,F' b->F b\/w.heap.size<=b:=by
 obtain ⟨nv,fv,Z,h,rfl,hF⟩:=h;have L:=h.obj.cell 1 rfl;have N:=h.obj.free 1;have d:0<fl.length:=List.length_pos_iff.2 hne;obtain ⟨a,cap,rfl,v,y,q⟩:=h.free.shape;obtain ⟨m,o,rfl⟩:=q d
 have r:fl[fl.length-1]?=some (fl.getLast hne):=by
  rw [List.getLast_eq_getElem];exact List.getElem?_eq_getElem _
 have M:=h.free.cell1 zag (fl.length-1) r rfl;have i:takeI (ndsZ Z) fl=fl.getLast hne:=by unfold takeI;rw [List.getLast?_eq_some_getLast hne];rfl
 have g:takeA (ndsZ Z) fl=ndsZ Z:=by unfold takeA;rw [if_neg hne]
 have l:=h.free.take zag (fl.length-1) (by omega);rw [<-List.dropLast_eq_take] at l;have k:fl.dropLast.length=fl.length-1:=by simp
 have u:Hid (SlF w 3 1 nat1 (.slice (some ⟨m,o,none⟩) (fl.length-1) cap) fl.dropLast):=H_ l;have H:=H_ h;have s:=H_ i;have j:=H_ g;have c:=H_ hF;generalize fl.getLast hne=x at *;have G:(0:Int)<(fl.length:Int):=by omega
 have z:(0:Int)<=(fl.length:Int)-1:=by omega
 have B:(fl.length:Int)-1<=(cap:Int):=by omega
 have C:((fl.length:Int)-1).toNat=fl.length-1:=by omega
 have D:(fl.length:Int)-1<(fl.length:Int):=by omega
 have E:(fl.length:Int)<=1099511627:=by omega
 clear h l i g hF r q k;generalize O:fl.length=n at *;go_enter Tryz.func157,Tryz.ntmps157;go_wp2;go_ret;have f:=H.out.setFree (w1:=w) (fl':=fl.dropLast) (fv':=.slice (some ⟨m,o,none⟩) (n-1) cap) (Fr.refl _ w) u.out (fun b e=>.inl e);obtain ⟨I,J,K⟩:=f;refine ⟨by rw [s.out];rfl,_,⟨_,_,Z,I,j.out.symm,fun b=>Iff.rfl⟩,J.mono fun b _ e=>(c.out b).2 ?_,fun b hb=>?_⟩
 · rcases e with e | e
   · exact .inl e
   exact .inr (.inr (.inl e))
 rcases K b hb with e | e
 · exact .inl ((c.out b).2 e)
 exact .inr e
set_option maxHeartbeats 1000000 in
theorem zrv (w:World) (t:Nat) (A:Arr) (root:Nat) (many:Int) (F:Nat->Prop) (h:TreeZ w t A [] root many F) (hA:A.length<=1099511627) :
 Calls Tryz.prog 157 #[.pointer (some ⟨t,0,none⟩)] w fun e w'=>e=.returned (.int .i64 (takeI A []:Int))/\∃ F',TreeZ w' t (takeA A []) [] root many F'/\Fr F w w'/\∀ b,F' b->F b\/w.heap.size<=b:=by
 obtain ⟨nv,fv,Z,h,rfl,hF⟩:=h;rw [zas] at hA;have x:=h.obj.cell 0 rfl;have D:=h.obj.cell 1 rfl;have E:=h.obj.free 0;obtain ⟨O,y,z,B,C⟩:=info_parts info198;obtain ⟨a,cap,rfl,L,M,K⟩:=h.free.shape;have d:=zav w [.slice none 0 0,.slice none 0 0] 194 (0,0);have H:=H_ h;have i:=H_ hF;have J:=H_ h.nodes;have N:=h.obj.lt;have f:¬ nv.ownBlock=some t:=h.a1.1;clear h hF K;go_enter Tryz.func157,Tryz.ntmps157;go_wp2_with (at_builtin;refine zao rfl _ _ 145 rfl 194 O _ 2 48 Tryz.underlying145 y z B C rfl (by decide) nv Z rfl (J.out.alloc _) w.heap.size 1 nz0 rfl (by simpa [nzC,nz0] using d) rfl (by intro u I;simp [nzC,nz0] at I;subst I;rfl) (by unfold maxLen;omega) (by omega) ?_);intro g o j w1 n m l G
 have c:Fr (fun b=>nv.ownBlock=some b) w w1:=(((Fr.refl _ w).alloc _).grown m fun k hk=>.inl hk);have S:=c.cell x f;have T:=c.cell D f;have U:=c.free x E f;have v:=H_ n;have r:=H_ l;have s:=H_ c;clear n m l c x D E d;have W:(0:Int)<=(Z.length:Int):=by omega
 go_wp2;go_ret;have V:(Z++[nz0]).length=Z.length+1:=by simp
 have q:=H.out.snoc (w1:=w1) (nv':=.slice (some ⟨g,o,none⟩) (Z.length+1) j) s.out v.out fun b e=>by
  obtain rfl:g=b:=by simpa [Value.ownBlock] using e
  rcases r.out with e | e
  · exact .inl e
  right;omega
 obtain ⟨P,Q,R⟩:=q;refine ⟨?_,_,⟨_,_,_,P,by unfold takeA;rw [if_pos rfl];exact takeZ,fun b=>Iff.rfl⟩,Q.mono fun b _ e=>(i.out b).2 ?_,fun b hb=>?_⟩
 · unfold takeI
   rw [List.getLast?_nil,zas]
   rfl
 · rcases e with e | e
   · exact .inl e
   exact .inr (.inl e)
 rcases R b hb with e | e
 · exact .inl ((i.out b).2 e)
 exact .inr e
theorem zjl (w:World) (t:Nat) (A:Arr) (fl:List Nat) (root:Nat) (many:Int) (F:Nat->Prop) (h:TreeZ w t A fl root many F) (hA:A.length<=1099511627) (hl:fl.length<=1099511627) :
 Calls Tryz.prog 157 #[.pointer (some ⟨t,0,none⟩)] w fun e w'=>e=.returned (.int .i64 (takeI A fl:Int))/\∃ F',TreeZ w' t (takeA A fl) fl.dropLast root many F'/\Fr F w w'/\∀ b,F' b->F b\/w.heap.size<=b:=by
 by_cases hne:fl = []
 · subst hne;exact zrv w t A root many F h hA
 exact zrt w t A fl root many F h hA hl hne
set_option maxHeartbeats 1000000 in
theorem zjr (w:World) (t:Nat) (A:Arr) (fl:List Nat) (root:Nat) (many:Int) (F:Nat->Prop) (h:TreeZ w t A fl root many F) (at_:Nat) (hat:at_<A.length) (hA:A.length<=1099511627) (hl:fl.length<=1099511627) :
 Calls Tryz.prog 107 #[.pointer (some ⟨t,0,none⟩),.int .i64 at_] w fun e w'=>e=.returned (.tuple #[])/\∃ F',TreeZ w' t (A.set at_ nd0) (fl++[at_]) root many F'/\Fr F w w'/\∀ b,F' b->F b\/w.heap.size<=b:=by
 obtain ⟨nv,fv,Z,h,rfl,hF⟩:=h
 obtain ⟨z,D,_⟩:=zcj hat
 rw [zas] at hA hat;have c0:=h.obj.cell 0 rfl;have c1:=h.obj.cell 1 rfl;have f1:=h.obj.free 1;obtain ⟨i0,M,O,P,Q⟩:=info_parts info3;obtain ⟨a,cap,rfl,a4,a5,U⟩:=h.nodes.shape;obtain ⟨c,no,rfl⟩:=U (by omega);have n0:=h.nodes.cell0 zbo at_ D rfl;have n1:=h.nodes.cell zbo at_ 1 D rfl;have nf:=h.nodes.free (no+at_ * 2);have S:=h.nodes.free (no+at_ * 2+1);have a8:t≠c:=fun e=>h.a1.1 (by rw [e];rfl);have hp:=h.setPairs (w1:=w) (pv':=.slice none 0 0) (P':=[]) at_ z D (Fr.refl _ w) (SlF.nil _ _ _ _) (fun b e=>by simp [Value.ownBlock] at e);obtain ⟨Y,p2,p3⟩:=hp
 have i:(Z.set at_ ⟨⟨[],z.nd.kids⟩,.slice none 0 0,z.kv⟩)[at_]?=some ⟨⟨[],z.nd.kids⟩,.slice none 0 0,z.kv⟩:=List.getElem?_set_self hat;have E:TreeR (w.setCell ⟨c,no+at_ * 2,none⟩ (.slice none 0 0)) t (.slice (some ⟨c,no,none⟩) (Z.set at_ ⟨⟨[],z.nd.kids⟩,.slice none 0 0,z.kv⟩).length cap) fv (Z.set at_ ⟨⟨[],z.nd.kids⟩,.slice none 0 0,z.kv⟩) fl root many:=by rw [List.length_set];exact Y
 have N:=E.setKids (w1:=w.setCell ⟨c,no+at_ * 2,none⟩ (.slice none 0 0)) (kv':=.slice none 0 0) (K':=[]) at_ _ i (Fr.refl _ _) (SlF.nil _ _ _ _) (fun b e=>by simp [Value.ownBlock] at e);obtain ⟨R,k2,k3⟩:=N;rw [List.set_set,List.length_set] at R
 have r:∀ b,treeF t (.slice (some ⟨c,no,none⟩) Z.length cap) fv (Z.set at_ nz0) b->treeF t (.slice (some ⟨c,no,none⟩) Z.length cap) fv Z b\/w.heap.size<=b :=
  zbe D fun b hb=>by rcases hb with e | e <;> simp [Value.ownBlock,nz0] at e
 have s:TreeR ((w.setCell ⟨c,no+at_ * 2,none⟩ (.slice none 0 0)).setCell ⟨c,no+at_ * 2+1,none⟩ (.slice none 0 0)) t (.slice (some ⟨c,no,none⟩) Z.length cap) fv (Z.set at_ nz0) fl root many:=R
 have q:Fr F w ((w.setCell ⟨c,no+at_ * 2,none⟩ (.slice none 0 0)).setCell ⟨c,no+at_ * 2+1,none⟩ (.slice none 0 0)):=by
  refine (((Fr.refl F w).setCell (p:=⟨c,no+at_ * 2,none⟩) (.inl ?_) _).setCell (p:=⟨c,no+at_ * 2+1,none⟩) (.inl ?_) _) <;> exact (hF c).2 (.inr (.inl rfl))
 have V:=h.nodes.lt c rfl;have a6:=h.obj.lt;have H:=H_ s;have K:=H_ r;have l:=H_ hF;have J:=H_ q;clear h hF U Y p2 p3 E R k2 k3 s r q D i;have hj:(at_:Int)<(Z.length:Int):=by omega
 have d:=zav ((w.setCell ⟨c,no+at_ * 2,none⟩ (.slice none 0 0)).setCell ⟨c,no+at_ * 2+1,none⟩ (.slice none 0 0)) [.int .i64 (at_:Int)] 3 (0,0);have j:((w.setCell ⟨c,no+at_ * 2,none⟩ (.slice none 0 0)).setCell ⟨c,no+at_ * 2+1,none⟩ (.slice none 0 0)).heap.size=w.heap.size:=by simp
 rw [j] at d;have m:=H_ j;clear j;go_enter Tryz.func107,Tryz.ntmps107;go_wp2_with (at_builtin;refine zao rfl _ _ 48 rfl 3 i0 _ 1 8 Tryz.underlying48 M O P Q rfl (by decide) fv fl rfl (H.out.free.alloc _) w.heap.size 1 at_ rfl (by simpa [nat1] using d) rfl (by intro u X;simp [nat1] at X;subst X;rfl) (by unfold maxLen;omega) (by omega) ?_);generalize ((w.setCell ⟨c,no+at_ * 2,none⟩ (.slice none 0 0)).setCell ⟨c,no+at_ * 2+1,none⟩ (.slice none 0 0))=T at *;intro g o n w1 B x v W;have f:Fr (fun b=>fv.ownBlock=some b) T w1:=(((Fr.refl _ T).alloc _).grown x fun k N=>.inl N);have y:¬ fv.ownBlock=some t:=H.out.a1.2.1;have e1:=f.cell (H.out.obj.cell 1 rfl) y;have g1:=f.free (H.out.obj.cell 1 rfl) (H.out.obj.free 1) y;have L:=H_ B;have G:=H_ v;have I:=H_ f
 clear B x v f c0 c1 f1 d n0 n1 nf S;go_wp2;refine bodyPost_end (results_none rfl _ _ _) rfl ⟨rfl,?_⟩
 have C:=H.out.setFree (w1:=w1) (fl':=fl++[at_]) (fv':=.slice (some ⟨g,o,none⟩) (fl.length+1) n) I.out L.out fun b e=>by
  obtain rfl:g=b:=by simpa [Value.ownBlock] using e
  rcases G.out with e | e
  · exact .inl e
  right;have:=m.out;omega
 obtain ⟨q1,q2,q3⟩:=C;refine ⟨_,⟨_,_,_,q1,by rw [zau];rfl,fun b=>Iff.rfl⟩,J.out.trans q2 fun b hb e=>(l.out b).2 ?_,fun b hb=>?_⟩
 · rcases e with e | e
   · exact .inl e
   exact .inr (.inr (.inl e))
 rcases q3 b hb with e | e
 · rcases K.out b e with e | e
   · exact .inl ((l.out b).2 e)
   exact .inr e
 right;have:=m.out;omega
open Go Go.RowKit
theorem zfw {α:Type} {f:α->List Value} {P:Program} {w:World} {ops:Array Oper} {o:Oper} {a:Act} {K:Act->World->Prop} {Q:Exit->Act->World->Prop} {E:Prop} (hgd:o.guard=none) (s x:Operand) (t:TypeId)
 (ho:o.op=.call { callee:=.builtin .append,args:=#[s,x],argTypes:=#[t,t] })
 (e:TypeId) (i:TypeInfo) (z:Value) (sz bytes:Nat) (ht:P.underlying t=some (.slice e)) (hi:P.info? e=some i) (hz:i.zero=some z) (hsize:i.size=sz) (hby:i.bytes=bytes) (hzs:z.cells.size=sz) (hsz:0<sz)
 (v:Value) (L:List α) (hs:a.eval s=v) (hown:SlF w e sz f v L)
 (b c:Nat) (y:α) (hx:a.eval x=.slice (some ⟨b,0,none⟩) 1 c) (hnews:∀ j u,(f y)[j]?=some u->w.cell? ((⟨b,0,none⟩:Addr).add j)=some u) (hl:(f y).length=sz) (h1:∀ u∈f y,u.oneCell'=true)
 (h63:L.length+1<=maxLen) (hbytes:(L.length+1) * bytes<=140737488355328)
 (h:∀ g o' cap w',SlF w' e sz f (.slice (some ⟨g,o',none⟩) (L.length+1) cap) (L++[y])->w.grownBy w' v.ownBlock->(v.ownBlock=some g\/g=w.heap.size)->g<w'.heap.size →
   K (a.put o.dst (.slice (some ⟨g,o',none⟩) (L.length+1) cap)) w') :
 if Region.wanted o (yielded ops a.tmps)=true then Oper.wp P o a w K Q else E:=by
 have q:Region.wanted o (yielded ops a.tmps)=true:=by simp [Region.wanted,hgd]
 rw [if_pos q];subst hsize;subst hby;obtain ⟨g,o',cap,w',n,d,k,l,m⟩:=zcb (P:=P) w t o.type e i z ht hi hz hzs hsz v L.length (L.flatMap f) hown ⟨b,0,none⟩ 1 c (f y) (by omega) (by omega) hnews h1 h63 hbytes;unfold Oper.wp execOp;simp only [ho,resolve,invoke,builtin,Sem.run_bind,Sem.run_pure,Result.andThen_ok,List.map_toArray,List.map_cons,List.map_nil,hs,hx,n];refine h g o' cap w' ?_ k l m;unfold SlF;simpa using d
theorem zer {fn:Func} {t u v x:Tmp} (h:fn.results=#[.tmp t,.tmp u,.tmp v,.tmp x]) (tmps:Array Value) (P:Program) (w:World) :
 (results fn tmps).run P w=.ok (.tuple #[tmps.getD t undef,tmps.getD u undef,tmps.getD v undef,tmps.getD x undef]) w:=by
 simp [results,h]
theorem TreeR.look {w:World} {t nb no ncap:Nat} {fv:Value} {Z:List Nz} {fl:List Nat} {root:Nat} {many:Int} (h:TreeR w t (.slice (some ⟨nb,no,none⟩) Z.length ncap) fv Z fl root many) (j:Nat) (z:Nz) (hz:Z[j]?=some z) :
 w.cell? ⟨nb,no+j * 2,none⟩=some z.pv/\w.cell? ⟨nb,no+j * 2+1,none⟩=some z.kv/\w.frozen? ⟨nb,no+j * 2,none⟩=false/\w.frozen? ⟨nb,no+j * 2+1,none⟩=false :=
 ⟨h.nodes.cell0 zbo j hz rfl,h.nodes.cell zbo j 1 hz rfl,h.nodes.free _,h.nodes.free _⟩
theorem zgj {w:World} {b i c j:Nat} {u:Value} (h:w.cell? ⟨c,j,none⟩=some u) (hne:b≠c\/i≠j) (v:Value):(w.setCell ⟨b,i,none⟩ v).cell? ⟨c,j,none⟩=some u:=by
 rw [World.cell?_setCell_other]
 · exact h
 intro e
 cases e
 rcases hne with h | h <;> exact h rfl
theorem zln (w:World) (v:Value) (L:Pairs) (n:Nat) (hn:L.length=n) (hv:SlF w 125 2 pairC v L) (hl:n<=1000) :
 Calls Tryz.prog 163 #[v] w fun e w'=>∃ g,e=.returned (.slice (some ⟨g,0,none⟩) n n)/\SlF w' 125 2 pairC (.slice (some ⟨g,0,none⟩) n n) L/\Fr No w w'/\w.heap.size<=g:=by
 subst hn;exact zkc w v L hv hl
theorem zou (w:World) (v:Value) (L:List Nat) (n:Nat) (hn:L.length=n) (hv:SlF w 3 1 nat1 v L) (hl:n<=1000) :
 Calls Tryz.prog 164 #[v] w fun e w'=>∃ g,e=.returned (.slice (some ⟨g,0,none⟩) n n)/\SlF w' 3 1 nat1 (.slice (some ⟨g,0,none⟩) n n) L/\Fr No w w'/\w.heap.size<=g:=by
 subst hn;exact zlo w v L hv hl
theorem zbi {Z:List Nz} {A:Arr} (h:ndsZ Z=A) {i:Nat} (hi:i<A.length):∃ z,Z[i]?=some z/\z.nd=ndA A i:=by
 subst h;obtain ⟨z,a,b⟩:=zcj hi;exact ⟨z,a,b.symm⟩
theorem TreeR.headLen {w:World} {t:Nat} {nv fv:Value} {Z:List Nz} {fl:List Nat} {root:Nat} {many:Int} (h:TreeR w t nv fv Z fl root many) (hp:0<Z.length):∃ nb no cap,nv=.slice (some ⟨nb,no,none⟩) Z.length cap/\Z.length<=cap:=by
 obtain ⟨a,cap,rfl,b,d,c⟩:=h.nodes.shape;obtain ⟨nb,no,rfl⟩:=c hp;exact ⟨nb,no,cap,rfl,b⟩
set_option maxHeartbeats 4000000 in
theorem zhu (w:World) (t:Nat) (A:Arr) (fl:List Nat) (root:Nat) (many:Int) (F:Nat->Prop) (h:TreeZ w t A fl root many F) (at_ i:Nat) (hs:splitSafe A fl at_ i) (hA:A.length<=109951162) (hl:fl.length<=1099511627) :
 Calls Tryz.prog 158 #[.pointer (some ⟨t,0,none⟩),.int .i64 at_,.int .i64 i] w fun e w'=>e=.returned (.tuple #[])/\∃ F',TreeZ w' t (splitA A fl at_ i) fl.dropLast root many F'/\Fr F w w'/\∀ b,F' b->F b\/w.heap.size<=b:=by
 obtain ⟨s1,s2,s3,s4,s5,s6,s7,s8,s9,an⟩:=hs;have aR:=fun W hW=>zjl W t A fl root many F hW (by omega) hl;have ht:=took (A:=A) (fr:=fl) fun f hf=>⟨(an f hf).1,(an f hf).2.2.2⟩
 have dj:takeI A fl≠at_/\takeI A fl≠kidA A at_ i:=by
  constructor <;> intro e
  · have h1:=ht.cnt at_ s1
    rw [if_pos e] at h1;have h2:0<fl.count at_:=(by omega);exact (an at_ (List.count_pos_iff.1 h2)).2.1 rfl
  have h1:=ht.cnt (kidA A at_ i) s6
  rw [if_pos e] at h1;have h2:0<fl.count (kidA A at_ i):=(by omega);exact (an _ (List.count_pos_iff.1 h2)).2.2.1 rfl
 have ak:splitA A fl at_ i=(((takeA A fl).set (takeI A fl) ⟨(ndA A (kidA A at_ i)).pairs.drop 5,(ndA A (kidA A at_ i)).kids.drop 5⟩).set (kidA A at_ i) ⟨(ndA A (kidA A at_ i)).pairs.take 4,(ndA A (kidA A at_ i)).kids.take 5⟩).set at_
  ⟨(ndA A at_).pairs.take i++(ndA A (kidA A at_ i)).pairs.getD 4 default :: (ndA A at_).pairs.drop i,(ndA A at_).kids.take (i+1)++takeI A fl :: (ndA A at_).kids.drop (i+1)⟩:=rfl
 have d2:=H_ h;have dV:=H_ aR;obtain ⟨nv,fv,Z,hR,hZ,hF⟩:=h;subst hZ;have c0:=hR.obj.cell 0 rfl;obtain ⟨za,bc,c5⟩:=zcj s1;obtain ⟨a,cap,rfl,fC,fD,ha⟩:=hR.nodes.shape;have eO:at_<Z.length:=by rw [zas] at s1;exact s1
 obtain ⟨nb,no,rfl⟩:=ha (by omega);have n1:=hR.nodes.cell zbo at_ 1 bc rfl;have a8:=hR.kids at_ za bc;obtain ⟨ka,dv,cd,eQ,eR,d5⟩:=a8.shape;rw [c5] at s3 s5;have fK:i<za.nd.kids.length:=(List.getElem?_eq_some_iff.1 s5).1;obtain ⟨kb,ko,rfl⟩:=d5 (by omega);rw [cd] at a8;have k0:=a8.cell1 zag i s5 rfl;have eG:=d2;have di:∀ x,nzC za=x->True:=fun _ _=>trivial;have fZ:w.cell? ⟨nb,no+at_ * 2+1,none⟩=some (.slice (some ⟨kb,ko,none⟩) za.nd.kids.length dv):=by rw [<-cd];exact n1
 have bX:=H_ s5;have cu:=H_ c5;have dT:=H_ ak;have a6:=H_ dj;have dW:=H_ ht;have fj:=H_ hF;have dR:=H_ s8;have dS:=H_ s9;have eB:=H_ an;have ft:=H_ hR;have fu:=H_ bc;have e6:(ndsZ Z).length<=109951162:=hA;rw [zas] at e6;have fG:(at_:Int)<(Z.length:Int):=by omega
 have fH:(i:Int)<(za.nd.kids.length:Int):=by omega
 have fk:=H_ k0;generalize bC:kidA (ndsZ Z) at_ i=kid at *;generalize bb:takeI (ndsZ Z) fl=r at *;have ex:=H_ bC;have fs:=H_ bb;have ej:at_<(takeA (ndsZ Z) fl).length:=by have:=ht.len;omega
 have ek:kid<(takeA (ndsZ Z) fl).length:=by have:=ht.len;omega
 have el:r<(takeA (ndsZ Z) fl).length:=by have:=ht.lt;rwa [bb] at this
 have ds:(takeA (ndsZ Z) fl).length<=109951163:=by unfold takeA;rw [zas] at hA;split <;> simp [zas] <;> omega
 have o1:=ht.old at_ s1;have o2:=ht.old kid s6;have o3:=ht.new;rw [bb] at o3;have O1:=H_ o1;have O2:=H_ o2;have O3:=H_ o3;have dU:=H_ ds;clear hR hF ha d5 a8 bc c5 s5 ak dj ht aR s8 s9 an cd n1 di bC bb o1 o2 o3 ds;go_enter Tryz.func158,Tryz.ntmps158
 go_wp2_with (first
  | (go_at_call 157;refine (dV.out _ d2.out).mono ?_;rintro e w1 ⟨rfl,F1,en,d4,dd⟩
     obtain ⟨g1,u,v,N,b6,d1⟩:=en;obtain ⟨g,am,c6⟩:=zbi b6 ek;have fS:v.length<=109951163:=(by rw [<-zas,b6];exact dU.out);have fM:kid<v.length:=(List.getElem?_eq_some_iff.1 am).1;obtain ⟨d,j,l,rfl,e8⟩:=N.headLen (by omega);obtain ⟨k1,k2,k3,k4⟩:=N.look kid g am;have cc:g.nd.pairs.length=9:=(by rw [c6,O2.out];exact dR.out);obtain ⟨pa,y,ch,bL,eZ,de⟩:=(N.pairs kid g am).shape;obtain ⟨pb,po,rfl⟩:=de (by omega);have aL:=N.pairs kid g am;rw [ch] at aL k1;obtain ⟨k,K⟩:∃ k,g.nd.pairs[4]?=some k:=⟨_,List.getElem?_eq_getElem (by omega)⟩;have x0:=aL.cell0 zad 4 K rfl;have x1:=aL.cell zad 4 1 K rfl;rw [cc] at aL k1;simp only [Nat.reduceMul] at x0 x1;have fN:(kid:Int)<(v.length:Int):=(by omega);have d0:=N.obj.cell 0 rfl
     have eX:t<w1.heap.size:=N.obj.lt;have ai:d<w1.heap.size:=N.nodes.lt d rfl;have eY:pb<w1.heap.size:=World.block_lt_of_cell? _ _ x0;have bW:=H_ N;have bY:=H_ b6;have aU:=H_ d1;have c1:=H_ am;have ct:=H_ c6;have G:=H_ cc;have bS:=H_ ch;have HM:=H_ K;have bl:=H_ d4;have aV:=H_ dd;have fm:=H_ k2;clear N b6 d1 am c6 cc ch K d4 dd de aL k2 k3 k4))
 have U:Fr No w1 (w1.alloc (Obj.cells #[.string k.1,.int .i64 k.2] 125)):=(Fr.refl No w1).alloc _;have hm:=zae w1 (Obj.cells #[.string k.1,.int .i64 k.2] 125) _ rfl;generalize w1.alloc (Obj.cells #[.string k.1,.int .i64 k.2] 125)=W2 at U hm ⊢
 have b3:=U.cell0 d0;have be:=U.cell0 k1;have b5:=bW.out.fr0 U;obtain ⟨zr,bd,cZ⟩:=zbi bY.out el;have eh:r<v.length:=(List.getElem?_eq_some_iff.1 bd).1;have ei:(r:Int)<(v.length:Int):=by omega
 obtain ⟨r1,r2,r3,r4⟩:=b5.look r zr bd;have aM:SlF W2 125 2 pairC (.slice (some ⟨pb,po,none⟩) 9 y) g.nd.pairs:=by have:=b5.pairs kid g c1.out;rwa [bS.out,G.out] at this
 have bD:SlF W2 125 2 pairC (.slice (some ⟨pb,po+10,none⟩) 4 (y-5)) (g.nd.pairs.drop 5):=by
  have:=SlF.drop zad (L:=g.nd.pairs) (by rw [G.out];exact aM) 5 (by rw [G.out];omega);rw [G.out] at this;exact this
 have fF:9<=y:=by rw [<-G.out];exact bL
 have fE:¬ y=5:=by omega
 have db:(g.nd.pairs.drop 5).length=4:=by rw [List.length_drop,G.out]
 have cA:=H_ bD;have ey:=H_ aM;have dQ:=H_ b5;have c2:=H_ bd;have dE:=H_ cZ;have dH:=H_ hm;have cv:=H_ U;have dF:=H_ db;have eV:t<W2.heap.size:=by have:=U.size;omega
 have eW:d<W2.heap.size:=by have:=U.size;omega
 have fJ:(5:Int)<=(y:Int):=by omega
 clear b5 aM bD bd cZ hm U d0 k1 x0 x1 db bL;have dt:t≠d:=fun e=>bW.out.a1.1 (by rw [e];rfl);have dk:j+r * 2≠j+kid * 2:=by have:=a6.out.2;omega
 go_region_held3 (fun W=>W.cell? ⟨t,0,none⟩=some (.slice (some ⟨d,j,none⟩) v.length l)/\W.cell? ⟨d,j+kid * 2,none⟩=some (.slice (some ⟨pb,po,none⟩) 9 y))
  (first | exact ⟨b3,be⟩ | exact ⟨S.cell0 b3,S.cell0 be⟩ | exact ⟨zgj (S.cell0 b3) (.inl dt.symm) _,zgj (S.cell0 be) (.inr dk) _⟩)
  (first | (go_at_call 163;refine (zln _ _ _ 4 dF.out (cA.out.fr0 (Fr.refl No W2).drew) (by omega)).mono ?_;rintro e w3 ⟨g3,rfl,dl,S,e9⟩
            have y1:=S.cell0 r1;have y2:=S.free0 r1 r3;have cQ:=H_ dl;clear dl))
 have aF:Fr No W2 w3:=(Fr.refl No W2).drew.trans0 S
 obtain ⟨z,B,R⟩:=dQ.out.setPairs (w1:=w3) (pv':=.slice (some ⟨g3,0,none⟩) 4 4) (P':=g.nd.pairs.drop 5) r zr c2.out (aF.mono fun _ _ s=>s.elim) cQ.out fun b e=>by
  obtain rfl:g3=b:=by simpa [Value.ownBlock] using e
  exact .inr e9
 have ce:(w3.setCell ⟨d,j+r * 2,none⟩ (.slice (some ⟨g3,0,none⟩) 4 4)).heap[w1.heap.size]?=some (.cells #[.string k.1,.int .i64 k.2] 125 (0,0)):=by
  have h1:=aF.heap dH.out id;have h2:d<w1.heap.size:=ai;exact (Below.heap_setCell w3 _ _ _ (by show w1.heap.size≠d;omega)).trans h1
 have dq:W2.heap.size<=(w3.setCell ⟨d,j+r * 2,none⟩ (.slice (some ⟨g3,0,none⟩) 4 4)).heap.size:=B.size;generalize w3.setCell ⟨d,j+r * 2,none⟩ (.slice (some ⟨g3,0,none⟩) 4 4)=W4 at z B ce dq ⊢
 have X:(v.set r ⟨⟨g.nd.pairs.drop 5,zr.nd.kids⟩,.slice (some ⟨g3,0,none⟩) 4 4,zr.kv⟩)[kid]?=some g:=by rw [List.getElem?_set_ne a6.out.2];exact c1.out
 generalize c8:v.set r ⟨⟨g.nd.pairs.drop 5,zr.nd.kids⟩,.slice (some ⟨g3,0,none⟩) 4 4,zr.kv⟩=Z2 at z X;have aA:Z2.length=v.length:=by rw [<-c8];simp
 have m:TreeR W4 t (.slice (some ⟨d,j,none⟩) Z2.length l) u Z2 fl.dropLast root many:=by rw [aA];exact z
 obtain ⟨u1,u2,u3,u4⟩:=m.look kid g X;rw [bS.out,G.out] at u1;have bE:SlF W4 125 2 pairC (.slice (some ⟨pb,po,none⟩) 9 y) g.nd.pairs:=by have:=m.pairs kid g X;rwa [bS.out,G.out] at this
 have bF:SlF W4 125 2 pairC (.slice (some ⟨pb,po,none⟩) 4 y) (g.nd.pairs.take 4):=SlF.take zad (by rw [G.out];exact bE) 4 (by rw [G.out];omega);have bJ:(g.nd.pairs.take 4).length=4:=by rw [List.length_take,G.out];rfl
 have dM:=H_ m;have dN:=H_ B;have dO:=H_ R;have cB:=H_ bF;have cE:=H_ bJ;have bs:=H_ X;have aW:=H_ c8;have ad:=H_ aA;have dI:=H_ ce;have eJ:t<W4.heap.size:=by omega
 have eI:d<W4.heap.size:=by omega
 have fI:(4:Int)<=(y:Int):=by omega
 clear z m B R bE bF bJ X c8 aA ce y1 y2 cQ S aF b3 be r1 r2 r3 r4 u2 u4
 go_upto_region 6 with (first
  | (go_at_call 163;refine (zln _ _ _ 4 cE.out cB.out (by omega)).mono ?_;rintro e w5 ⟨g5,rfl,dm,aG,ea⟩
     have y1:=aG.cell0 u1;have y2:=aG.free0 u1 u3;have bX:=H_ dm;clear dm))
 obtain ⟨z,B,R⟩:=dM.out.setPairs (w1:=w5) (pv':=.slice (some ⟨g5,0,none⟩) 4 4) (P':=g.nd.pairs.take 4) kid g bs.out (aG.mono fun _ _ s=>s.elim) bX.out fun b e=>by
  obtain rfl:g5=b:=by simpa [Value.ownBlock] using e
  exact .inr ea
 have cf:(w5.setCell ⟨d,j+kid * 2,none⟩ (.slice (some ⟨g5,0,none⟩) 4 4)).heap[w1.heap.size]?=some (.cells #[.string k.1,.int .i64 k.2] 125 (0,0)):=by
  have h1:=aG.heap dI.out id;have h2:d<w1.heap.size:=ai;exact (Below.heap_setCell w5 _ _ _ (by show w1.heap.size≠d;omega)).trans h1
 have dr:W4.heap.size<=(w5.setCell ⟨d,j+kid * 2,none⟩ (.slice (some ⟨g5,0,none⟩) 4 4)).heap.size:=B.size;generalize w5.setCell ⟨d,j+kid * 2,none⟩ (.slice (some ⟨g5,0,none⟩) 4 4)=W6 at z B cf dr ⊢
 have da:kid<Z2.length:=by have:=ad.out;omega
 have Y:(Z2.set kid ⟨⟨g.nd.pairs.take 4,g.nd.kids⟩,.slice (some ⟨g5,0,none⟩) 4 4,g.kv⟩)[kid]?=some ⟨⟨g.nd.pairs.take 4,g.nd.kids⟩,.slice (some ⟨g5,0,none⟩) 4 4,g.kv⟩:=List.getElem?_set_self da
 have al:(Z2.set kid ⟨⟨g.nd.pairs.take 4,g.nd.kids⟩,.slice (some ⟨g5,0,none⟩) 4 4,g.kv⟩)[r]?=some ⟨⟨g.nd.pairs.drop 5,zr.nd.kids⟩,.slice (some ⟨g3,0,none⟩) 4 4,zr.kv⟩:=by
  rw [List.getElem?_set_ne (Ne.symm a6.out.2),<-aW.out];exact List.getElem?_set_self eh
 have aQ:ndsZ (Z2.set kid ⟨⟨g.nd.pairs.take 4,g.nd.kids⟩,.slice (some ⟨g5,0,none⟩) 4 4,g.kv⟩)=((takeA (ndsZ Z) fl).set r ⟨g.nd.pairs.drop 5,zr.nd.kids⟩).set kid ⟨g.nd.pairs.take 4,g.nd.kids⟩:=by
  rw [zau,<-aW.out,zau,bY.out]
 have aC:(Z2.set kid ⟨⟨g.nd.pairs.take 4,g.nd.kids⟩,.slice (some ⟨g5,0,none⟩) 4 4,g.kv⟩)[at_]?=v[at_]?:=by
  rw [List.getElem?_set_ne s7,<-aW.out,List.getElem?_set_ne a6.out.1]
 generalize c9:Z2.set kid ⟨⟨g.nd.pairs.take 4,g.nd.kids⟩,.slice (some ⟨g5,0,none⟩) 4 4,g.kv⟩=Z6 at z Y al aQ aC;have af:Z6.length=v.length:=by rw [<-c9,List.length_set];exact ad.out
 have m:TreeR W6 t (.slice (some ⟨d,j,none⟩) Z6.length l) u Z6 fl.dropLast root many:=by rw [af];rw [ad.out] at z;exact z
 obtain ⟨er,u2,es,u4⟩:=m.look kid _ Y;obtain ⟨v1,v2,v3,v4⟩:=m.look r _ al;obtain ⟨ka,o,ah,d7,eU,aK⟩:=(m.kids kid _ Y).shape;dsimp only at er u2 es u4 v1 v2 v3 v4 ah d7 aK;rw [ah] at u2;have d6:=m.obj.cell 0 rfl
 have aI:Fr (treeF t (.slice (some ⟨d,j,none⟩) v.length l) u v) w1 W6:=by
  refine ((cv.out.mono fun _ _ s=>s.elim).trans dN.out fun b O e=>?_).trans B fun b O e=>?_
  · rcases e with rfl | e
    · exact .inr (.inl rfl)
    exact .inr (.inr (.inr ⟨r,zr,c2.out,.inl e⟩))
  rcases e with rfl | e
  · exact .inr (.inl rfl)
  exact .inr (.inr (.inr ⟨kid,g,c1.out,.inl e⟩))
 have aj:∀ b,treeF t (.slice (some ⟨d,j,none⟩) Z6.length l) u Z6 b->treeF t (.slice (some ⟨d,j,none⟩) v.length l) u v b\/w1.heap.size<=b:=by
  intro b O;rw [<-c9,List.length_set,ad.out] at O;have fP:w1.heap.size<=W2.heap.size:=cv.out.size;rcases zbe bs.out R b O with e | e
  · rw [<-aW.out] at e
    rcases zbe c2.out dO.out b e with e | e
    · exact .inl e
    exact .inr (by omega)
  exact .inr (by omega)
 have bk:=H_ aC;have bV:=H_ m;have au:=H_ Y;have av:=H_ al;have bo:=H_ aQ;have bq:=H_ af;have cH:=H_ cf;have ap:=H_ ah;have cz:=H_ aK;have a5:=H_ aI;have E:=H_ aj;have eL:t<W6.heap.size:=by omega
 have eK:d<W6.heap.size:=by omega
 have f0:(r:Int)<(v.length:Int):=ei;rw [af] at d6;clear aC z m B R Y al aQ c9 af cf ah aK y1 y2 bX aG u1 u3 aI aj v1 v3;go_upto_if 63 with fail
 go_cut [64] (fun _ wx=>∃ D:List Nz,Hid (TreeR wx t (.slice (some ⟨d,j,none⟩) D.length l) u D fl.dropLast root many)/\Hid (D.length=v.length) ∧
  Hid (ndsZ D=((takeA (ndsZ Z) fl).set r ⟨g.nd.pairs.drop 5,g.nd.kids.drop 5⟩).set kid ⟨g.nd.pairs.take 4,g.nd.kids.take 5⟩)/\Hid (wx.heap[w1.heap.size]?=some (.cells #[.string k.1,.int .i64 k.2] 125 (0,0))) ∧
  Hid (Fr (treeF t (.slice (some ⟨d,j,none⟩) v.length l) u v) w1 wx)/\Hid (∀ b,treeF t (.slice (some ⟨d,j,none⟩) D.length l) u D b->treeF t (.slice (some ⟨d,j,none⟩) v.length l) u v b\/w1.heap.size<=b)/\Hid (D[at_]?=v[at_]?))
 case first =>
  have J:g.nd=ndA (ndsZ Z) kid:=ct.out.trans O2.out;have ba:zr.nd.kids = []:=(by rw [dE.out,O3.out];rfl);rcases dS.out with a8 | bB
  · have aJ:g.nd.kids = []:=by rw [J];exact a8
    have cy:=H_ aJ;have cN:=H_ ba;have eg:g.nd.kids.length=0:=(by rw [aJ];rfl);have hz:¬ (0:Int)<(g.nd.kids.length:Int):=(by omega);clear a8 aJ J ba eg;go_wp2;go_meet
    case rel =>
     refine ⟨Z6,bV.out,bq.out,H_ ?_,cH.out,a5.out,E.out,bk.out⟩;rw [bo.out,cN.out,cy.out]
     rfl
  have n:g.nd.kids.length=10:=by rw [J];exact bB
  obtain ⟨cb,co,rfl⟩:=cz.out (by omega)
  have b9:SlF W6 3 1 nat1 (.slice (some ⟨cb,co,none⟩) 10 o) g.nd.kids:=by
   have:=bV.out.kids kid _ au.out;dsimp only at this
   rwa [ap.out,n] at this
  have bG:SlF W6 3 1 nat1 (.slice (some ⟨cb,co+5,none⟩) 5 (o-5)) (g.nd.kids.drop 5):=by
   have:=SlF.drop zag (L:=g.nd.kids) (by rw [n];exact b9) 5 (by omega);rw [n] at this;exact this
  have bH:SlF W6 3 1 nat1 (.slice (some ⟨cb,co,none⟩) 5 o) (g.nd.kids.take 5):=SlF.take zag (by rw [n];exact b9) 5 (by omega);have dc:(g.nd.kids.drop 5).length=5:=(by rw [List.length_drop,n]);have bK:(g.nd.kids.take 5).length=5:=(by rw [List.length_take,n];rfl);rw [n] at u2;have fL:10<=o:=(by omega);have eS:¬ o=5:=(by omega);have eT:(5:Int)<=(o:Int):=(by omega);have hz:(0:Int)<(g.nd.kids.length:Int):=(by omega);have cC:=H_ bG;have ez:=H_ bH;have dG:=H_ dc;have cF:=H_ bK;have cN:=H_ ba;have fo:=H_ b9;have bm:=H_ n;clear b9 bG bH dc bK J bB n ba;go_upto_region 7 with fail
  go_region_held3 (fun W=>W.cell? ⟨t,0,none⟩=some (.slice (some ⟨d,j,none⟩) v.length l)/\W.cell? ⟨d,j+kid * 2+1,none⟩=some (.slice (some ⟨cb,co,none⟩) 10 o))
   (first | exact ⟨d6,u2⟩ | exact ⟨T.cell0 d6,T.cell0 u2⟩ | exact ⟨zgj (T.cell0 d6) (.inl dt.symm) _,zgj (T.cell0 u2) (.inr (by omega)) _⟩)
   (first | (go_at_call 164;refine (zou _ _ _ 5 dG.out (cC.out.fr0 (Fr.refl No W6).drew) (by omega)).mono ?_;rintro e w7 ⟨g7,rfl,dn,T,eb⟩
             have y1:=T.cell0 v2;have y2:=T.free0 v2 v4;have cR:=H_ dn;clear dn))
  have aH:Fr No W6 w7:=(Fr.refl No W6).drew.trans0 T
  obtain ⟨z,B,R⟩:=bV.out.setKids (w1:=w7) (kv':=.slice (some ⟨g7,0,none⟩) 5 5) (K':=g.nd.kids.drop 5) r _ av.out (aH.mono fun _ _ s=>s.elim) cR.out fun b e=>by
   obtain rfl:g7=b:=by simpa [Value.ownBlock] using e
   exact .inr eb
  have cg:(w7.setCell ⟨d,j+r * 2+1,none⟩ (.slice (some ⟨g7,0,none⟩) 5 5)).heap[w1.heap.size]?=some (.cells #[.string k.1,.int .i64 k.2] 125 (0,0)):=by
   have h1:=aH.heap cH.out id;have h2:d<w1.heap.size:=ai;exact (Below.heap_setCell w7 _ _ _ (by show w1.heap.size≠d;omega)).trans h1
  have bO:W6.heap.size<=(w7.setCell ⟨d,j+r * 2+1,none⟩ (.slice (some ⟨g7,0,none⟩) 5 5)).heap.size:=B.size;generalize w7.setCell ⟨d,j+r * 2+1,none⟩ (.slice (some ⟨g7,0,none⟩) 5 5)=W8 at z B cg bO ⊢
  dsimp only at z B R;have a0:(Z6.set r ⟨⟨g.nd.pairs.drop 5,g.nd.kids.drop 5⟩,.slice (some ⟨g3,0,none⟩) 4 4,.slice (some ⟨g7,0,none⟩) 5 5⟩)[kid]?=some ⟨⟨g.nd.pairs.take 4,g.nd.kids⟩,.slice (some ⟨g5,0,none⟩) 4 4,g.kv⟩:=(by rw [List.getElem?_set_ne a6.out.2];exact au.out);have q:ndsZ (Z6.set r ⟨⟨g.nd.pairs.drop 5,g.nd.kids.drop 5⟩,.slice (some ⟨g3,0,none⟩) 4 4,.slice (some ⟨g7,0,none⟩) 5 5⟩)=(((takeA (ndsZ Z) fl).set r ⟨g.nd.pairs.drop 5,zr.nd.kids⟩).set kid ⟨g.nd.pairs.take 4,g.nd.kids⟩).set r ⟨g.nd.pairs.drop 5,g.nd.kids.drop 5⟩:=(by rw [zau,bo.out]);generalize ca:Z6.set r ⟨⟨g.nd.pairs.drop 5,g.nd.kids.drop 5⟩,.slice (some ⟨g3,0,none⟩) 4 4,.slice (some ⟨g7,0,none⟩) 5 5⟩=D at z a0 q;have aB:D.length=Z6.length:=(by rw [<-ca,List.length_set])
  have m:TreeR W8 t (.slice (some ⟨d,j,none⟩) D.length l) u D fl.dropLast root many:=(by rw [aB];exact z);obtain ⟨_,a2,_,a4⟩:=m.look kid _ a0;dsimp only at a2;rw [ap.out,bm.out] at a2
  have bI:SlF W8 3 1 nat1 (.slice (some ⟨cb,co,none⟩) 5 o) (g.nd.kids.take 5):=by
   have:=m.kids kid _ a0;dsimp only at this;rw [ap.out] at this;exact SlF.take zag this 5 (by rw [bm.out];omega)
  have dP:=H_ m;have cL:=H_ B;have cM:=H_ R;have bt:=H_ a0;have cI:=H_ q;have cT:=H_ ca;have cU:=H_ aB;have aq:=H_ cg;have cD:=H_ bI;have eM:d<W8.heap.size:=(by omega);clear z m B R a0 q ca aB cg bI y1 y2 cR T aH d6 u2 v2 v4
  go_wp2_with (first
   | (go_at_call 164;refine (zou _ _ _ 5 cF.out cD.out (by omega)).mono ?_;rintro e w9 ⟨g9,rfl,dp,b7,ec⟩
      have y1:=b7.cell0 a2;have y2:=b7.free0 a2 a4;have cS:=H_ dp;clear dp))
  obtain ⟨z,B,R⟩:=dP.out.setKids (w1:=w9) (kv':=.slice (some ⟨g9,0,none⟩) 5 5) (K':=g.nd.kids.take 5) kid _ bt.out (b7.mono fun _ _ s=>s.elim) cS.out fun b e=>by
   obtain rfl:g9=b:=by simpa [Value.ownBlock] using e
   exact .inr ec
  dsimp only at z B R
  have aO:(w9.setCell ⟨d,j+kid * 2+1,none⟩ (.slice (some ⟨g9,0,none⟩) 5 5)).heap[w1.heap.size]?=some (.cells #[.string k.1,.int .i64 k.2] 125 (0,0)):=by
   have h1:=b7.heap aq.out id;have h2:d<w1.heap.size:=ai;exact (Below.heap_setCell w9 _ _ _ (by show w1.heap.size≠d;omega)).trans h1
  have bp:=H_ z;have ar:=H_ B;have bT:=H_ R;have bn:=H_ aO;generalize w9.setCell ⟨d,j+kid * 2+1,none⟩ (.slice (some ⟨g9,0,none⟩) 5 5)=fy at z B bp ar bn aO ⊢
  clear z B R aO;go_meet
  case rel =>
   have du:=cU.out;have aN:(D.set kid ⟨⟨g.nd.pairs.take 4,g.nd.kids.take 5⟩,.slice (some ⟨g5,0,none⟩) 4 4,.slice (some ⟨g9,0,none⟩) 5 5⟩).length=D.length:=(by simp);refine ⟨D.set kid ⟨⟨g.nd.pairs.take 4,g.nd.kids.take 5⟩,.slice (some ⟨g5,0,none⟩) 4 4,.slice (some ⟨g9,0,none⟩) 5 5⟩,H_ (by rw [aN];exact bp.out),H_ (by rw [aN,du];exact bq.out),H_ ?_,bn,H_ ?_,H_ ?_,H_ (by rw [List.getElem?_set_ne s7,<-cT.out,List.getElem?_set_ne a6.out.1];exact bk.out)⟩
   · rw [zau,cI.out]
     rw [List.set_comm _ _ a6.out.2.symm,List.set_set,List.set_set]
   · refine (a5.out.trans cL.out fun b O e=>?_).trans ar.out fun b O e=>?_
     · rcases e with rfl | e
       · exact .inr (.inl rfl)
       rcases E.out b (.inr (.inr (.inr ⟨r,_,av.out,.inr e⟩))) with e | e
       · exact e
       omega
     rcases e with rfl | e
     · exact .inr (.inl rfl)
     rcases E.out b (.inr (.inr (.inr ⟨kid,_,au.out,.inr e⟩))) with e | e
     · exact e
     omega
   intro b O
   rw [aN] at O;have fQ:=a5.out.size;rcases zbe bt.out bT.out b O with e | e
   · rw [<-cT.out,List.length_set] at e
     rcases zbe av.out cM.out b e with e | e
     · exact E.out b e
     exact .inr (by omega)
   exact .inr (by omega)
 case rest =>
  obtain ⟨D,H8,cG,dJ,aq,ab,cJ,cs⟩:=hcut;obtain ⟨c,V,bu⟩:=zbi bY.out ej;have C:D[at_]?=some c:=cs.out.trans V;have q:c.nd=ndA (ndsZ Z) at_:=bu.trans O1.out;have e7:at_<v.length:=(List.getElem?_eq_some_iff.1 V).1;obtain ⟨a1,a2,a3,a4⟩:=H8.out.look at_ _ C;have d8:=H8.out.obj.cell 0 rfl;rw [cG.out] at d8;have b0:wc.cell? ⟨w1.heap.size,0,none⟩=some (.string k.1):=(by simp [World.cell?,aq.out]);have b1:wc.cell? ⟨w1.heap.size,1,none⟩=some (.int .i64 k.2):=(by simp [World.cell?,aq.out]);have aP:∀ b,zown c b->b<w1.heap.size:=fun b O=>bW.out.zlt V O;have dg:¬ c.pv.ownBlock=some d:=fun e=>(H8.out.a2 at_ _ d C (.inl e)).2.1 rfl;have J:¬ c.kv.ownBlock=some d:=fun e=>(H8.out.a2 at_ _ d C (.inr e)).2.1 rfl
  have df:∀ b,c.pv.ownBlock=some b->c.kv.ownBlock≠some b:=fun b=>H8.out.a3 at_ c b C;have fO:¬ c.pv.ownBlock=some w1.heap.size:=fun e=>by have:=aP _ (.inl e);omega
  have dh:=H8.out.pairs at_ _ C;have d9:=H8.out.kids at_ _ C;have ee:i<=c.nd.pairs.length:=(by rw [q];exact s4);have fA:c.nd.pairs.length<=9:=(by rw [q];exact s2);have eH:c.nd.kids.length<=10:=(by rw [q,cu.out];exact s3);have ed:i+1<=c.nd.kids.length:=(by rw [q,cu.out];omega);have f2:t<wc.heap.size:=(by have:=ab.out.size;omega);have f3:d<wc.heap.size:=(by have:=ab.out.size;omega);have f4:w1.heap.size<wc.heap.size:=zac aq.out;have eP:(at_:Int)<(v.length:Int):=(by omega);have dL:=H_ dh;have fn:=H_ d9;have cV:=H_ C;have dK:=H_ q;have eA:=H_ aP;have fq:=H_ df;have br:=H_ V;clear dh d9 C q aP df V bu;go_upto_region 10 with fail
  go_region_law (go_simp;go_at_call 154;refine (zdv _ _ _ i k (dL.out.drew) ee (by omega)).mono ?_;rintro e bg ⟨I,Q,M,rfl,bM,ag,bx⟩
                 have y1:=ag.cell a1 dg;have y2:=ag.free a1 a3 dg;have cO:=H_ bM;have cw:=H_ bx;clear bM bx)
  all_goals
   have aD:Fr (fun b=>c.pv.ownBlock=some b) wc bg:=(Fr.refl _ wc).drew.trans ag fun _ _ e=>e
   have b8:∀ b,(Value.slice (some ⟨I,Q,none⟩) (c.nd.pairs.length+1) M).ownBlock=some b->c.pv.ownBlock=some b\/wc.heap.size<=b:=fun b e=>by
    obtain rfl:I=b:=by simpa [Value.ownBlock] using e
    exact cw.out
   obtain ⟨z,B,R⟩:=H8.out.setPairs (w1:=bg) (pv':=.slice (some ⟨I,Q,none⟩) (c.nd.pairs.length+1) M) (P':=c.nd.pairs.take i++k :: c.nd.pairs.drop i) at_ c cV.out aD cO.out b8;have ci:wc.heap.size<=(bg.setCell ⟨d,j+at_ * 2,none⟩ (.slice (some ⟨I,Q,none⟩) (c.nd.pairs.length+1) M)).heap.size:=B.size;generalize bg.setCell ⟨d,j+at_ * 2,none⟩ (.slice (some ⟨I,Q,none⟩) (c.nd.pairs.length+1) M)=c3 at z B ci ⊢
   have d3:at_<D.length:=(by have:=cG.out;omega);have H:(D.set at_ ⟨⟨c.nd.pairs.take i++k :: c.nd.pairs.drop i,c.nd.kids⟩,.slice (some ⟨I,Q,none⟩) (c.nd.pairs.length+1) M,c.kv⟩)[at_]?=some ⟨⟨c.nd.pairs.take i++k :: c.nd.pairs.drop i,c.nd.kids⟩,.slice (some ⟨I,Q,none⟩) (c.nd.pairs.length+1) M,c.kv⟩:=List.getElem?_set_self d3;have aa:ndsZ (D.set at_ ⟨⟨c.nd.pairs.take i++k :: c.nd.pairs.drop i,c.nd.kids⟩,.slice (some ⟨I,Q,none⟩) (c.nd.pairs.length+1) M,c.kv⟩)=(ndsZ D).set at_ ⟨c.nd.pairs.take i++k :: c.nd.pairs.drop i,c.nd.kids⟩:=(by rw [zau]);have P:=zbe (t:=t) (nv:=.slice (some ⟨d,j,none⟩) D.length l) (fv:=u) cV.out R
   generalize bw:D.set at_ ⟨⟨c.nd.pairs.take i++k :: c.nd.pairs.drop i,c.nd.kids⟩,.slice (some ⟨I,Q,none⟩) (c.nd.pairs.length+1) M,c.kv⟩=aY at z H aa P;have a7:aY.length=D.length:=(by rw [<-bw,List.length_set]);have m:TreeR c3 t (.slice (some ⟨d,j,none⟩) aY.length l) u aY fl.dropLast root many:=(by rw [a7];exact z);obtain ⟨_,e2,_,e4⟩:=m.look at_ _ H;have a9:=m.kids at_ _ H;dsimp only at e2 e4 a9;have cK:=H_ m;have bU:=H_ B;have bR:=H_ P;have aw:=H_ H;have bQ:=H_ aa;have bZ:=H_ a7;have bP:=H_ a9;have em:d<c3.heap.size:=(by omega);clear z m B R P H aa bw a7 a9 ag aD b8 y1 y2 a1 a2 a3 a4 b0 b1 d8
   go_wp2_with (first
    | (go_at_call 155;refine (zgy _ _ _ (i+1) r bP.out ed (by omega)).mono ?_;rintro e ev ⟨b4,cj,c4,rfl,bN,aE,bz⟩
       have y1:=aE.cell e2 J;have y2:=aE.free e2 e4 J;have cP:=H_ bN;have cx:=H_ bz;clear bN bz))
   refine bodyPost_end (results_none rfl _ _ _) rfl ⟨rfl,?_⟩
   have b8:∀ b,(Value.slice (some ⟨b4,cj,none⟩) (c.nd.kids.length+1) c4).ownBlock=some b->c.kv.ownBlock=some b\/c3.heap.size<=b:=fun b e=>by
    obtain rfl:b4=b:=by simpa [Value.ownBlock] using e
    exact cx.out
   obtain ⟨z,B,R⟩:=cK.out.setKids (w1:=ev) (kv':=.slice (some ⟨b4,cj,none⟩) (c.nd.kids.length+1) c4) (K':=c.nd.kids.take (i+1)++r :: c.nd.kids.drop (i+1)) at_ _ aw.out aE cP.out b8;dsimp only at z B R;have J:g.nd=ndA (ndsZ Z) kid:=ct.out.trans O2.out
   have e5:splitA (ndsZ Z) fl at_ i=ndsZ (aY.set at_ ⟨⟨c.nd.pairs.take i++k :: c.nd.pairs.drop i,c.nd.kids.take (i+1)++r :: c.nd.kids.drop (i+1)⟩,.slice (some ⟨I,Q,none⟩) (c.nd.pairs.length+1) M,.slice (some ⟨b4,cj,none⟩) (c.nd.kids.length+1) c4⟩):=by
    have K:(ndA (ndsZ Z) kid).pairs.getD 4 default=k:=(by rw [<-J];simp [List.getD,HM.out]);rw [dT.out,K,zau,bQ.out,dJ.out,<-J,<-dK.out,List.set_set]
   have f1:=bl.out.size;have bO:=ab.out.size;refine ⟨_,⟨_,_,_,z,e5.symm,fun b=>Iff.rfl⟩,((bl.out.trans ab.out fun b O e=>?_).trans bU.out fun b O e=>?_).trans B fun b O e=>?_,fun b O=>?_⟩
   · rcases aV.out b ((aU.out b).2 e) with e | e
     · exact e
     omega
   · have e':treeF t (.slice (some ⟨d,j,none⟩) v.length l) u v b:=by
      rcases e with rfl | e
      · exact .inr (.inl rfl)
      exact .inr (.inr (.inr ⟨at_,c,br.out,.inl e⟩))
     rcases aV.out b ((aU.out b).2 e') with e | e
     · exact e
     omega
   · have e':treeF t (.slice (some ⟨d,j,none⟩) v.length l) u v b:=by
      rcases e with rfl | e
      · exact .inr (.inl rfl)
      exact .inr (.inr (.inr ⟨at_,c,br.out,.inr e⟩))
     rcases aV.out b ((aU.out b).2 e') with e | e
     · exact e
     omega
   rw [bZ.out] at O
   have key:∀ b,treeF t (.slice (some ⟨d,j,none⟩) D.length l) u D b->F b\/w.heap.size<=b:=by
    intro b O;rcases cJ.out b O with e | e
    · exact aV.out b ((aU.out b).2 e)
    exact .inr (by omega)
   rcases zbe aw.out R b O with e | e
   · rcases bR.out b e with e | e
     · exact key b e
     exact .inr (by omega)
   exact .inr (by omega)
end Go.Proofs.YtdgkdfmfoonbpaaGreat