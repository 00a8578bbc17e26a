/- Own lemmas. -/
import Derived.Test.YthljnnjpmdgkoaaGreatI05
import Derived.Test.YthljnnjpmdgkoaaGreatI00
import Derived.Deep.RegionLaw
import Derived.Deep.RegionHeld3
import Derived.Deep.DeepCutAuto
import Derived.StillTailTactics
namespace Go.Proofs.YthljnnjpmdgkoaaGreat
open Go Go.Proofs Go.RowKit
set_option maxRecDepth 100000
theorem info198:(Tryz.prog.info? 231).map (fun i=>(i.zero,i.size,i.bytes))=some (some (.agg #[.slice none 0 0,.slice none 0 0]),2,48):=by kernel_rfl
def nz0:Nz:=⟨nd0,.slice none 0 0,.slice none 0 0⟩
theorem takeZ {Z:List Nz}:ndsZ (Z++[nz0])=ndsZ Z++[nd0]:=by unfold ndsZ;simp [nz0]
set_option maxHeartbeats 1000000 in
theorem zvx (w:World) (t:Nat) (A:Arr) (fl:List Nat) (root:Nat) (many:Int) (F:Nat->Prop) (h:TreeZ w t A fl root many F) (hA:A.length<=1099511627) (hl:fl.length<=1099511627) (hne:fl≠[]) :
 Calls Tryz.prog 155 #[.pointer (some ⟨t,0,none⟩)] w fun e w'=>e=.returned (.int .i64 (takeI A fl:Int))/\∃ F',TreeZ w' t (takeA A fl) fl.dropLast root many F'/\Fr F w w'/\∀ b,F' b->F b\/w.heap.size<=b:=by
 obtain ⟨nv,fv,Z,h,rfl,hF⟩:=h;have K:=h.obj.cell 1 rfl;have M:=h.obj.free 1;have d:0<fl.length:=List.length_pos_iff.2 hne;obtain ⟨a,cap,rfl,u,v,p⟩:=h.free.shape;obtain ⟨m,o,rfl⟩:=p d
 have q:fl[fl.length-1]?=some (fl.getLast hne):=by
  rw [List.getLast_eq_getElem];exact List.getElem?_eq_getElem _
 have L:=h.free.cell1 zag (fl.length-1) q rfl;have i:takeI (ndsZ Z) fl=fl.getLast hne:=by unfold takeI;rw [List.getLast?_eq_some_getLast hne];rfl
 have g:takeA (ndsZ Z) fl=ndsZ Z:=by unfold takeA;rw [if_neg hne]
 have l:=h.free.take zag (fl.length-1) (by omega);rw [<-List.dropLast_eq_take] at l;have k:fl.dropLast.length=fl.length-1:=by simp
 have s:Hid (SlF w 3 1 nat1 (.slice (some ⟨m,o,none⟩) (fl.length-1) cap) fl.dropLast):=H_ l;have H:=H_ h;have r:=H_ i;have j:=H_ g;have c:=H_ hF;generalize fl.getLast hne=x at *;have E:(0:Int)<(fl.length:Int):=by omega
 have y:(0:Int)<=(fl.length:Int)-1:=by omega
 have z:(fl.length:Int)-1<=(cap:Int):=by omega
 have B:((fl.length:Int)-1).toNat=fl.length-1:=by omega
 have C:(fl.length:Int)-1<(fl.length:Int):=by omega
 have D:(fl.length:Int)<=1099511627:=by omega
 clear h l i g hF q p k;generalize N:fl.length=n at *;go_enter Tryz.func155,Tryz.ntmps155;go_wp2;go_ret;have f:=H.out.setFree (w1:=w) (fl':=fl.dropLast) (fv':=.slice (some ⟨m,o,none⟩) (n-1) cap) (Fr.refl _ w) s.out (fun b e=>.inl e);obtain ⟨G,I,J⟩:=f;refine ⟨by rw [r.out];rfl,_,⟨_,_,Z,G,j.out.symm,fun b=>Iff.rfl⟩,I.mono fun b _ e=>(c.out b).2 ?_,fun b hb=>?_⟩
 · rcases e with e | e
   · exact .inl e
   exact .inr (.inr (.inl e))
 rcases J b hb with e | e
 · exact .inl ((c.out b).2 e)
 exact .inr e
set_option maxHeartbeats 1000000 in
theorem zvy (w:World) (t:Nat) (A:Arr) (root:Nat) (many:Int) (F:Nat->Prop) (h:TreeZ w t A [] root many F) (hA:A.length<=1099511627) :
 Calls Tryz.prog 155 #[.pointer (some ⟨t,0,none⟩)] w fun e w'=>e=.returned (.int .i64 (takeI A []:Int))/\∃ F',TreeZ w' t (takeA A []) [] root many F'/\Fr F w w'/\∀ b,F' b->F b\/w.heap.size<=b:=by
 obtain ⟨nv,fv,Z,h,rfl,hF⟩:=h;rw [zay] at hA;have v:=h.obj.cell 0 rfl;have C:=h.obj.cell 1 rfl;have D:=h.obj.free 0;obtain ⟨N,x,y,z,B⟩:=info_parts info198;obtain ⟨a,cap,rfl,K,L,J⟩:=h.free.shape;have d:=zbb w [.slice none 0 0,.slice none 0 0] 231 (0,0);have H:=H_ h;have i:=H_ hF;have I:=H_ h.nodes;have M:=h.obj.lt;have f:¬ nv.ownBlock=some t:=h.a1.1;clear h hF J;go_enter Tryz.func155,Tryz.ntmps155;go_wp2_with (at_builtin;refine zat rfl _ _ 175 rfl 231 N _ 2 48 Tryz.underlying175 x y z B rfl (by decide) nv Z rfl (I.out.alloc _) w.heap.size 1 nz0 rfl (by simpa [nzC,nz0] using d) rfl (by intro u G;simp [nzC,nz0] at G;subst G;rfl) (by unfold maxLen;omega) (by omega) ?_);intro g o j w1 n m l E
 have c:Fr (fun b=>nv.ownBlock=some b) w w1:=(((Fr.refl _ w).alloc _).grown m fun k hk=>.inl hk);have R:=c.cell v f;have S:=c.cell C f;have T:=c.free v D f;have s:=H_ n;have q:=H_ l;have r:=H_ c;clear n m l c v C D d;have V:(0:Int)<=(Z.length:Int):=by omega
 go_wp2;go_ret;have U:(Z++[nz0]).length=Z.length+1:=by simp
 have p:=H.out.snoc (w1:=w1) (nv':=.slice (some ⟨g,o,none⟩) (Z.length+1) j) r.out s.out fun b e=>by
  obtain rfl:g=b:=by simpa [Value.ownBlock] using e
  rcases q.out with e | e
  · exact .inl e
  right;omega
 obtain ⟨O,P,Q⟩:=p;refine ⟨?_,_,⟨_,_,_,O,by unfold takeA;rw [if_pos rfl];exact takeZ,fun b=>Iff.rfl⟩,P.mono fun b _ e=>(i.out b).2 ?_,fun b hb=>?_⟩
 · unfold takeI
   rw [List.getLast?_nil,zay]
   rfl
 · rcases e with e | e
   · exact .inl e
   exact .inr (.inl e)
 rcases Q b hb with e | e
 · exact .inl ((i.out b).2 e)
 exact .inr e
theorem zmh (w:World) (t:Nat) (A:Arr) (fl:List Nat) (root:Nat) (many:Int) (F:Nat->Prop) (h:TreeZ w t A fl root many F) (hA:A.length<=1099511627) (hl:fl.length<=1099511627) :
 Calls Tryz.prog 155 #[.pointer (some ⟨t,0,none⟩)] w fun e w'=>e=.returned (.int .i64 (takeI A fl:Int))/\∃ F',TreeZ w' t (takeA A fl) fl.dropLast root many F'/\Fr F w w'/\∀ b,F' b->F b\/w.heap.size<=b:=by
 by_cases hne:fl = []
 · subst hne;exact zvy w t A root many F h hA
 exact zvx w t A fl root many F h hA hl hne
set_option maxHeartbeats 1000000 in
theorem zmn (w:World) (t:Nat) (A:Arr) (fl:List Nat) (root:Nat) (many:Int) (F:Nat->Prop) (h:TreeZ w t A fl root many F) (at_:Nat) (hat:at_<A.length) (hA:A.length<=1099511627) (hl:fl.length<=1099511627) :
 Calls Tryz.prog 149 #[.pointer (some ⟨t,0,none⟩),.int .i64 at_] w fun e w'=>e=.returned (.tuple #[])/\∃ F',TreeZ w' t (A.set at_ nd0) (fl++[at_]) root many F'/\Fr F w w'/\∀ b,F' b->F b\/w.heap.size<=b:=by
 obtain ⟨nv,fv,Z,h,rfl,hF⟩:=h
 obtain ⟨z,D,_⟩:=zdf hat
 rw [zay] at hA hat;have c0:=h.obj.cell 0 rfl;have c1:=h.obj.cell 1 rfl;have f1:=h.obj.free 1;obtain ⟨i0,M,O,P,Q⟩:=info_parts info3;obtain ⟨a,cap,rfl,a4,a5,U⟩:=h.nodes.shape;obtain ⟨c,no,rfl⟩:=U (by omega);have n0:=h.nodes.cell0 zcb at_ D rfl;have n1:=h.nodes.cell zcb at_ 1 D rfl;have nf:=h.nodes.free (no+at_ * 2);have S:=h.nodes.free (no+at_ * 2+1);have a8:t≠c:=fun e=>h.a1.1 (by rw [e];rfl);have hp:=h.setPairs (w1:=w) (pv':=.slice none 0 0) (P':=[]) at_ z D (Fr.refl _ w) (SlF.nil _ _ _ _) (fun b e=>by simp [Value.ownBlock] at e);obtain ⟨Y,p2,p3⟩:=hp
 have i:(Z.set at_ ⟨⟨[],z.nd.kids⟩,.slice none 0 0,z.kv⟩)[at_]?=some ⟨⟨[],z.nd.kids⟩,.slice none 0 0,z.kv⟩:=List.getElem?_set_self hat;have E:TreeR (w.setCell ⟨c,no+at_ * 2,none⟩ (.slice none 0 0)) t (.slice (some ⟨c,no,none⟩) (Z.set at_ ⟨⟨[],z.nd.kids⟩,.slice none 0 0,z.kv⟩).length cap) fv (Z.set at_ ⟨⟨[],z.nd.kids⟩,.slice none 0 0,z.kv⟩) fl root many:=by rw [List.length_set];exact Y
 have N:=E.setKids (w1:=w.setCell ⟨c,no+at_ * 2,none⟩ (.slice none 0 0)) (kv':=.slice none 0 0) (K':=[]) at_ _ i (Fr.refl _ _) (SlF.nil _ _ _ _) (fun b e=>by simp [Value.ownBlock] at e);obtain ⟨R,k2,k3⟩:=N;rw [List.set_set,List.length_set] at R
 have r:∀ b,treeF t (.slice (some ⟨c,no,none⟩) Z.length cap) fv (Z.set at_ nz0) b->treeF t (.slice (some ⟨c,no,none⟩) Z.length cap) fv Z b\/w.heap.size<=b :=
  zbn D fun b hb=>by rcases hb with e | e <;> simp [Value.ownBlock,nz0] at e
 have s:TreeR ((w.setCell ⟨c,no+at_ * 2,none⟩ (.slice none 0 0)).setCell ⟨c,no+at_ * 2+1,none⟩ (.slice none 0 0)) t (.slice (some ⟨c,no,none⟩) Z.length cap) fv (Z.set at_ nz0) fl root many:=R
 have q:Fr F w ((w.setCell ⟨c,no+at_ * 2,none⟩ (.slice none 0 0)).setCell ⟨c,no+at_ * 2+1,none⟩ (.slice none 0 0)):=by
  refine (((Fr.refl F w).setCell (p:=⟨c,no+at_ * 2,none⟩) (.inl ?_) _).setCell (p:=⟨c,no+at_ * 2+1,none⟩) (.inl ?_) _) <;> exact (hF c).2 (.inr (.inl rfl))
 have V:=h.nodes.lt c rfl;have a6:=h.obj.lt;have H:=H_ s;have K:=H_ r;have l:=H_ hF;have J:=H_ q;clear h hF U Y p2 p3 E R k2 k3 s r q D i;have hj:(at_:Int)<(Z.length:Int):=by omega
 have d:=zbb ((w.setCell ⟨c,no+at_ * 2,none⟩ (.slice none 0 0)).setCell ⟨c,no+at_ * 2+1,none⟩ (.slice none 0 0)) [.int .i64 (at_:Int)] 3 (0,0);have j:((w.setCell ⟨c,no+at_ * 2,none⟩ (.slice none 0 0)).setCell ⟨c,no+at_ * 2+1,none⟩ (.slice none 0 0)).heap.size=w.heap.size:=by simp
 rw [j] at d;have m:=H_ j;clear j;go_enter Tryz.func149,Tryz.ntmps149;go_wp2_with (at_builtin;refine zat rfl _ _ 76 rfl 3 i0 _ 1 8 Tryz.underlying76 M O P Q rfl (by decide) fv fl rfl (H.out.free.alloc _) w.heap.size 1 at_ rfl (by simpa [nat1] using d) rfl (by intro u X;simp [nat1] at X;subst X;rfl) (by unfold maxLen;omega) (by omega) ?_);generalize ((w.setCell ⟨c,no+at_ * 2,none⟩ (.slice none 0 0)).setCell ⟨c,no+at_ * 2+1,none⟩ (.slice none 0 0))=T at *;intro g o n w1 B x v W;have f:Fr (fun b=>fv.ownBlock=some b) T w1:=(((Fr.refl _ T).alloc _).grown x fun k N=>.inl N);have y:¬ fv.ownBlock=some t:=H.out.a1.2.1;have e1:=f.cell (H.out.obj.cell 1 rfl) y;have g1:=f.free (H.out.obj.cell 1 rfl) (H.out.obj.free 1) y;have L:=H_ B;have G:=H_ v;have I:=H_ f
 clear B x v f c0 c1 f1 d n0 n1 nf S;go_wp2;refine bodyPost_end (results_none rfl _ _ _) rfl ⟨rfl,?_⟩
 have C:=H.out.setFree (w1:=w1) (fl':=fl++[at_]) (fv':=.slice (some ⟨g,o,none⟩) (fl.length+1) n) I.out L.out fun b e=>by
  obtain rfl:g=b:=by simpa [Value.ownBlock] using e
  rcases G.out with e | e
  · exact .inl e
  right;have:=m.out;omega
 obtain ⟨q1,q2,q3⟩:=C;refine ⟨_,⟨_,_,_,q1,by rw [zbd];rfl,fun b=>Iff.rfl⟩,J.out.trans q2 fun b hb e=>(l.out b).2 ?_,fun b hb=>?_⟩
 · rcases e with e | e
   · exact .inl e
   exact .inr (.inr (.inl e))
 rcases q3 b hb with e | e
 · rcases K.out b e with e | e
   · exact .inl ((l.out b).2 e)
   exact .inr e
 right;have:=m.out;omega
open Go Go.RowKit
theorem zck {α:Type} {f:α->List Value} {P:Program} {w:World} {ops:Array Oper} {o:Oper} {a:Act} {K:Act->World->Prop} {Q:Exit->Act->World->Prop} {E:Prop} (hgd:o.guard=none) (s x:Operand) (t:TypeId)
 (ho:o.op=.call { callee:=.builtin .append,args:=#[s,x],argTypes:=#[t,t] })
 (e:TypeId) (i:TypeInfo) (z:Value) (sz bytes:Nat) (ht:P.underlying t=some (.slice e)) (hi:P.info? e=some i) (hz:i.zero=some z) (hsize:i.size=sz) (hby:i.bytes=bytes) (hzs:z.cells.size=sz) (hsz:0<sz)
 (v:Value) (L:List α) (hs:a.eval s=v) (hown:SlF w e sz f v L)
 (b c:Nat) (y:α) (hx:a.eval x=.slice (some ⟨b,0,none⟩) 1 c) (hnews:∀ j u,(f y)[j]?=some u->w.cell? ((⟨b,0,none⟩:Addr).add j)=some u) (hl:(f y).length=sz) (h1:∀ u∈f y,u.oneCell'=true)
 (h63:L.length+1<=maxLen) (hbytes:(L.length+1) * bytes<=140737488355328)
 (h:∀ g o' cap w',SlF w' e sz f (.slice (some ⟨g,o',none⟩) (L.length+1) cap) (L++[y])->w.grownBy w' v.ownBlock->(v.ownBlock=some g\/g=w.heap.size)->g<w'.heap.size →
   K (a.put o.dst (.slice (some ⟨g,o',none⟩) (L.length+1) cap)) w') :
 if Region.wanted o (yielded ops a.tmps)=true then Oper.wp P o a w K Q else E:=by
 have p:Region.wanted o (yielded ops a.tmps)=true:=by simp [Region.wanted,hgd]
 rw [if_pos p];subst hsize;subst hby;obtain ⟨g,o',cap,w',n,d,k,l,m⟩:=zdk (P:=P) w t o.type e i z ht hi hz hzs hsz v L.length (L.flatMap f) hown ⟨b,0,none⟩ 1 c (f y) (by omega) (by omega) hnews h1 h63 hbytes;unfold Oper.wp execOp;simp only [ho,resolve,invoke,builtin,Sem.run_bind,Sem.run_pure,Result.andThen_ok,List.map_toArray,List.map_cons,List.map_nil,hs,hx,n];refine h g o' cap w' ?_ k l m;unfold SlF;simpa using d
theorem zfu {fn:Func} {t u v x:Tmp} (h:fn.results=#[.tmp t,.tmp u,.tmp v,.tmp x]) (tmps:Array Value) (P:Program) (w:World) :
 (results fn tmps).run P w=.ok (.tuple #[tmps.getD t undef,tmps.getD u undef,tmps.getD v undef,tmps.getD x undef]) w:=by
 simp [results,h]
theorem TreeR.look {w:World} {t nb no ncap:Nat} {fv:Value} {Z:List Nz} {fl:List Nat} {root:Nat} {many:Int} (h:TreeR w t (.slice (some ⟨nb,no,none⟩) Z.length ncap) fv Z fl root many) (j:Nat) (z:Nz) (hz:Z[j]?=some z) :
 w.cell? ⟨nb,no+j * 2,none⟩=some z.pv/\w.cell? ⟨nb,no+j * 2+1,none⟩=some z.kv/\w.frozen? ⟨nb,no+j * 2,none⟩=false/\w.frozen? ⟨nb,no+j * 2+1,none⟩=false :=
 ⟨h.nodes.cell0 zcb j hz rfl,h.nodes.cell zcb j 1 hz rfl,h.nodes.free _,h.nodes.free _⟩
theorem zhx {w:World} {b i c j:Nat} {u:Value} (h:w.cell? ⟨c,j,none⟩=some u) (hne:b≠c\/i≠j) (v:Value):(w.setCell ⟨b,i,none⟩ v).cell? ⟨c,j,none⟩=some u:=by
 rw [World.cell?_setCell_other]
 · exact h
 intro e
 cases e
 rcases hne with h | h <;> exact h rfl
theorem zpb (w:World) (v:Value) (L:Pairs) (n:Nat) (hn:L.length=n) (hv:SlF w 122 2 pairC v L) (hl:n<=1000) :
 Calls Tryz.prog 175 #[v] w fun e w'=>∃ g,e=.returned (.slice (some ⟨g,0,none⟩) n n)/\SlF w' 122 2 pairC (.slice (some ⟨g,0,none⟩) n n) L/\Fr No w w'/\w.heap.size<=g:=by
 subst hn;exact znf w v L hv hl
theorem zsw (w:World) (v:Value) (L:List Nat) (n:Nat) (hn:L.length=n) (hv:SlF w 3 1 nat1 v L) (hl:n<=1000) :
 Calls Tryz.prog 176 #[v] w fun e w'=>∃ g,e=.returned (.slice (some ⟨g,0,none⟩) n n)/\SlF w' 3 1 nat1 (.slice (some ⟨g,0,none⟩) n n) L/\Fr No w w'/\w.heap.size<=g:=by
 subst hn;exact zpc w v L hv hl
theorem zbr {Z:List Nz} {A:Arr} (h:ndsZ Z=A) {i:Nat} (hi:i<A.length):∃ z,Z[i]?=some z/\z.nd=ndA A i:=by
 subst h;obtain ⟨z,a,b⟩:=zdf hi;exact ⟨z,a,b.symm⟩
theorem TreeR.headLen {w:World} {t:Nat} {nv fv:Value} {Z:List Nz} {fl:List Nat} {root:Nat} {many:Int} (h:TreeR w t nv fv Z fl root many) (hp:0<Z.length):∃ nb no cap,nv=.slice (some ⟨nb,no,none⟩) Z.length cap/\Z.length<=cap:=by
 obtain ⟨a,cap,rfl,b,d,c⟩:=h.nodes.shape;obtain ⟨nb,no,rfl⟩:=c hp;exact ⟨nb,no,cap,rfl,b⟩
set_option maxHeartbeats 4000000 in
theorem zju (w:World) (t:Nat) (A:Arr) (fl:List Nat) (root:Nat) (many:Int) (F:Nat->Prop) (h:TreeZ w t A fl root many F) (at_ i:Nat) (hs:splitSafe A fl at_ i) (hA:A.length<=109951162) (hl:fl.length<=1099511627) :
 Calls Tryz.prog 156 #[.pointer (some ⟨t,0,none⟩),.int .i64 at_,.int .i64 i] w fun e w'=>e=.returned (.tuple #[])/\∃ F',TreeZ w' t (splitA A fl at_ i) fl.dropLast root many F'/\Fr F w w'/\∀ b,F' b->F b\/w.heap.size<=b:=by
 obtain ⟨s1,s2,s3,s4,s5,s6,s7,s8,s9,am⟩:=hs;have aQ:=fun W hW=>zmh W t A fl root many F hW (by omega) hl;have ht:=took (A:=A) (fr:=fl) fun f hf=>⟨(am f hf).1,(am f hf).2.2.2⟩
 have dh:takeI A fl≠at_/\takeI A fl≠kidA A at_ i:=by
  constructor <;> intro e
  · have h1:=ht.cnt at_ s1
    rw [if_pos e] at h1;have h2:0<fl.count at_:=(by omega);exact (am at_ (List.count_pos_iff.1 h2)).2.1 rfl
  have h1:=ht.cnt (kidA A at_ i) s6
  rw [if_pos e] at h1;have h2:0<fl.count (kidA A at_ i):=(by omega);exact (am _ (List.count_pos_iff.1 h2)).2.2.1 rfl
 have aj:splitA A fl at_ i=(((takeA A fl).set (takeI A fl) ⟨(ndA A (kidA A at_ i)).pairs.drop 5,(ndA A (kidA A at_ i)).kids.drop 5⟩).set (kidA A at_ i) ⟨(ndA A (kidA A at_ i)).pairs.take 4,(ndA A (kidA A at_ i)).kids.take 5⟩).set at_
  ⟨(ndA A at_).pairs.take i++(ndA A (kidA A at_ i)).pairs.getD 4 default :: (ndA A at_).pairs.drop i,(ndA A at_).kids.take (i+1)++takeI A fl :: (ndA A at_).kids.drop (i+1)⟩:=rfl
 have cZ:=H_ h;have dV:=H_ aQ;obtain ⟨nv,fv,Z,hR,hZ,hF⟩:=h;subst hZ;have c0:=hR.obj.cell 0 rfl;obtain ⟨za,bb,c4⟩:=zdf s1;obtain ⟨a,cap,rfl,fC,fD,ha⟩:=hR.nodes.shape;have eO:at_<Z.length:=by rw [zay] at s1;exact s1
 obtain ⟨nb,no,rfl⟩:=ha (by omega);have n1:=hR.nodes.cell zcb at_ 1 bb rfl;have a7:=hR.kids at_ za bb;obtain ⟨ka,dt,cc,eQ,eR,d3⟩:=a7.shape;rw [c4] at s3 s5;have fK:i<za.nd.kids.length:=(List.getElem?_eq_some_iff.1 s5).1;obtain ⟨kb,ko,rfl⟩:=d3 (by omega);rw [cc] at a7;have k0:=a7.cell1 zag i s5 rfl;have eG:=cZ;have dg:∀ x,nzC za=x->True:=fun _ _=>trivial;have fZ:w.cell? ⟨nb,no+at_ * 2+1,none⟩=some (.slice (some ⟨kb,ko,none⟩) za.nd.kids.length dt):=by rw [<-cc];exact n1
 have bW:=H_ s5;have cs:=H_ c4;have dT:=H_ aj;have a5:=H_ dh;have dW:=H_ ht;have fj:=H_ hF;have dR:=H_ s8;have dS:=H_ s9;have eB:=H_ am;have ft:=H_ hR;have fu:=H_ bb;have e6:(ndsZ Z).length<=109951162:=hA;rw [zay] at e6;have fG:(at_:Int)<(Z.length:Int):=by omega
 have fH:(i:Int)<(za.nd.kids.length:Int):=by omega
 have fk:=H_ k0;generalize bB:kidA (ndsZ Z) at_ i=kid at *;generalize ba:takeI (ndsZ Z) fl=r at *;have ex:=H_ bB;have fs:=H_ ba;have ej:at_<(takeA (ndsZ Z) fl).length:=by have:=ht.len;omega
 have ek:kid<(takeA (ndsZ Z) fl).length:=by have:=ht.len;omega
 have el:r<(takeA (ndsZ Z) fl).length:=by have:=ht.lt;rwa [ba] at this
 have dq:(takeA (ndsZ Z) fl).length<=109951163:=by unfold takeA;rw [zay] at hA;split <;> simp [zay] <;> omega
 have o1:=ht.old at_ s1;have o2:=ht.old kid s6;have o3:=ht.new;rw [ba] at o3;have O1:=H_ o1;have O2:=H_ o2;have O3:=H_ o3;have dU:=H_ dq;clear hR hF ha d3 a7 bb c4 s5 aj dh ht aQ s8 s9 am cc n1 dg bB ba o1 o2 o3 dq;go_enter Tryz.func156,Tryz.ntmps156
 go_wp2_with (first
  | (go_at_call 155;refine (dV.out _ cZ.out).mono ?_;rintro e w1 ⟨rfl,F1,en,d2,db⟩
     obtain ⟨g1,q,u,M,b5,cY⟩:=en;obtain ⟨g,al,c5⟩:=zbr b5 ek;have fS:u.length<=109951163:=(by rw [<-zay,b5];exact dU.out);have fM:kid<u.length:=(List.getElem?_eq_some_iff.1 al).1;obtain ⟨d,j,l,rfl,e8⟩:=M.headLen (by omega);obtain ⟨k1,k2,k3,k4⟩:=M.look kid g al;have ca:g.nd.pairs.length=9:=(by rw [c5,O2.out];exact dR.out);obtain ⟨pa,v,cg,bK,eZ,dc⟩:=(M.pairs kid g al).shape;obtain ⟨pb,po,rfl⟩:=dc (by omega);have aK:=M.pairs kid g al;rw [cg] at aK k1;obtain ⟨k,J⟩:∃ k,g.nd.pairs[4]?=some k:=⟨_,List.getElem?_eq_getElem (by omega)⟩;have x0:=aK.cell0 zae 4 J rfl;have x1:=aK.cell zae 4 1 J rfl;rw [ca] at aK k1;simp only [Nat.reduceMul] at x0 x1;have fN:(kid:Int)<(u.length:Int):=(by omega);have d0:=M.obj.cell 0 rfl
     have eX:t<w1.heap.size:=M.obj.lt;have ah:d<w1.heap.size:=M.nodes.lt d rfl;have eY:pb<w1.heap.size:=World.block_lt_of_cell? _ _ x0;have bV:=H_ M;have bX:=H_ b5;have aT:=H_ cY;have bZ:=H_ al;have cr:=H_ c5;have E:=H_ ca;have bR:=H_ cg;have HM:=H_ J;have bk:=H_ d2;have aU:=H_ db;have fm:=H_ k2;clear M b5 cY al c5 ca cg J d2 db dc aK k2 k3 k4))
 have T:Fr No w1 (w1.alloc (Obj.cells #[.string k.1,.int .i64 k.2] 122)):=(Fr.refl No w1).alloc _;have hm:=zad w1 (Obj.cells #[.string k.1,.int .i64 k.2] 122) _ rfl;generalize w1.alloc (Obj.cells #[.string k.1,.int .i64 k.2] 122)=W2 at T hm ⊢
 have aZ:=T.cell0 d0;have bd:=T.cell0 k1;have b4:=bV.out.fr0 T;obtain ⟨zr,bc,cX⟩:=zbr bX.out el;have eh:r<u.length:=(List.getElem?_eq_some_iff.1 bc).1;have ei:(r:Int)<(u.length:Int):=by omega
 obtain ⟨r1,r2,r3,r4⟩:=b4.look r zr bc;have aL:SlF W2 122 2 pairC (.slice (some ⟨pb,po,none⟩) 9 v) g.nd.pairs:=by have:=b4.pairs kid g bZ.out;rwa [bR.out,E.out] at this
 have bC:SlF W2 122 2 pairC (.slice (some ⟨pb,po+10,none⟩) 4 (v-5)) (g.nd.pairs.drop 5):=by
  have:=SlF.drop zae (L:=g.nd.pairs) (by rw [E.out];exact aL) 5 (by rw [E.out];omega);rw [E.out] at this;exact this
 have fF:9<=v:=by rw [<-E.out];exact bK
 have fE:¬ v=5:=by omega
 have d9:(g.nd.pairs.drop 5).length=4:=by rw [List.length_drop,E.out]
 have cy:=H_ bC;have ey:=H_ aL;have dQ:=H_ b4;have c1:=H_ bc;have dC:=H_ cX;have dH:=H_ hm;have ct:=H_ T;have dF:=H_ d9;have eV:t<W2.heap.size:=by have:=T.size;omega
 have eW:d<W2.heap.size:=by have:=T.size;omega
 have fJ:(5:Int)<=(v:Int):=by omega
 clear b4 aL bC bc cX hm T d0 k1 x0 x1 d9 bK;have dr:t≠d:=fun e=>bV.out.a1.1 (by rw [e];rfl);have di:j+r * 2≠j+kid * 2:=by have:=a5.out.2;omega
 go_region_held3 (fun W=>W.cell? ⟨t,0,none⟩=some (.slice (some ⟨d,j,none⟩) u.length l)/\W.cell? ⟨d,j+kid * 2,none⟩=some (.slice (some ⟨pb,po,none⟩) 9 v))
  (first | exact ⟨aZ,bd⟩ | exact ⟨R.cell0 aZ,R.cell0 bd⟩ | exact ⟨zhx (R.cell0 aZ) (.inl dr.symm) _,zhx (R.cell0 bd) (.inr di) _⟩)
  (first | (go_at_call 175;refine (zpb _ _ _ 4 dF.out (cy.out.fr0 (Fr.refl No W2).drew) (by omega)).mono ?_;rintro e w3 ⟨g3,rfl,dj,R,e9⟩
            have y1:=R.cell0 r1;have y2:=R.free0 r1 r3;have cO:=H_ dj;clear dj))
 have aE:Fr No W2 w3:=(Fr.refl No W2).drew.trans0 R
 obtain ⟨y,z,Q⟩:=dQ.out.setPairs (w1:=w3) (pv':=.slice (some ⟨g3,0,none⟩) 4 4) (P':=g.nd.pairs.drop 5) r zr c1.out (aE.mono fun _ _ s=>s.elim) cO.out fun b e=>by
  obtain rfl:g3=b:=by simpa [Value.ownBlock] using e
  exact .inr e9
 have cd:(w3.setCell ⟨d,j+r * 2,none⟩ (.slice (some ⟨g3,0,none⟩) 4 4)).heap[w1.heap.size]?=some (.cells #[.string k.1,.int .i64 k.2] 122 (0,0)):=by
  have h1:=aE.heap dH.out id;have h2:d<w1.heap.size:=ah;exact (Below.heap_setCell w3 _ _ _ (by show w1.heap.size≠d;omega)).trans h1
 have dn:W2.heap.size<=(w3.setCell ⟨d,j+r * 2,none⟩ (.slice (some ⟨g3,0,none⟩) 4 4)).heap.size:=z.size;generalize w3.setCell ⟨d,j+r * 2,none⟩ (.slice (some ⟨g3,0,none⟩) 4 4)=W4 at y z cd dn ⊢
 have V:(u.set r ⟨⟨g.nd.pairs.drop 5,zr.nd.kids⟩,.slice (some ⟨g3,0,none⟩) 4 4,zr.kv⟩)[kid]?=some g:=by rw [List.getElem?_set_ne a5.out.2];exact bZ.out
 generalize c7:u.set r ⟨⟨g.nd.pairs.drop 5,zr.nd.kids⟩,.slice (some ⟨g3,0,none⟩) 4 4,zr.kv⟩=Z2 at y V;have az:Z2.length=u.length:=by rw [<-c7];simp
 have m:TreeR W4 t (.slice (some ⟨d,j,none⟩) Z2.length l) q Z2 fl.dropLast root many:=by rw [az];exact y
 obtain ⟨u1,u2,u3,u4⟩:=m.look kid g V;rw [bR.out,E.out] at u1;have bD:SlF W4 122 2 pairC (.slice (some ⟨pb,po,none⟩) 9 v) g.nd.pairs:=by have:=m.pairs kid g V;rwa [bR.out,E.out] at this
 have bE:SlF W4 122 2 pairC (.slice (some ⟨pb,po,none⟩) 4 v) (g.nd.pairs.take 4):=SlF.take zae (by rw [E.out];exact bD) 4 (by rw [E.out];omega);have bI:(g.nd.pairs.take 4).length=4:=by rw [List.length_take,E.out];rfl
 have dM:=H_ m;have dN:=H_ z;have dO:=H_ Q;have cz:=H_ bE;have cC:=H_ bI;have br:=H_ V;have aV:=H_ c7;have ab:=H_ az;have dI:=H_ cd;have eJ:t<W4.heap.size:=by omega
 have eI:d<W4.heap.size:=by omega
 have fI:(4:Int)<=(v:Int):=by omega
 clear y m z Q bD bE bI V c7 az cd y1 y2 cO R aE aZ bd r1 r2 r3 r4 u2 u4
 go_upto_region 6 with (first
  | (go_at_call 175;refine (zpb _ _ _ 4 cC.out cz.out (by omega)).mono ?_;rintro e w5 ⟨g5,rfl,dk,aF,ea⟩
     have y1:=aF.cell0 u1;have y2:=aF.free0 u1 u3;have bW:=H_ dk;clear dk))
 obtain ⟨y,z,Q⟩:=dM.out.setPairs (w1:=w5) (pv':=.slice (some ⟨g5,0,none⟩) 4 4) (P':=g.nd.pairs.take 4) kid g br.out (aF.mono fun _ _ s=>s.elim) bW.out fun b e=>by
  obtain rfl:g5=b:=by simpa [Value.ownBlock] using e
  exact .inr ea
 have ce:(w5.setCell ⟨d,j+kid * 2,none⟩ (.slice (some ⟨g5,0,none⟩) 4 4)).heap[w1.heap.size]?=some (.cells #[.string k.1,.int .i64 k.2] 122 (0,0)):=by
  have h1:=aF.heap dI.out id;have h2:d<w1.heap.size:=ah;exact (Below.heap_setCell w5 _ _ _ (by show w1.heap.size≠d;omega)).trans h1
 have dp:W4.heap.size<=(w5.setCell ⟨d,j+kid * 2,none⟩ (.slice (some ⟨g5,0,none⟩) 4 4)).heap.size:=z.size;generalize w5.setCell ⟨d,j+kid * 2,none⟩ (.slice (some ⟨g5,0,none⟩) 4 4)=W6 at y z ce dp ⊢
 have d7:kid<Z2.length:=by have:=ab.out;omega
 have X:(Z2.set kid ⟨⟨g.nd.pairs.take 4,g.nd.kids⟩,.slice (some ⟨g5,0,none⟩) 4 4,g.kv⟩)[kid]?=some ⟨⟨g.nd.pairs.take 4,g.nd.kids⟩,.slice (some ⟨g5,0,none⟩) 4 4,g.kv⟩:=List.getElem?_set_self d7
 have ak:(Z2.set kid ⟨⟨g.nd.pairs.take 4,g.nd.kids⟩,.slice (some ⟨g5,0,none⟩) 4 4,g.kv⟩)[r]?=some ⟨⟨g.nd.pairs.drop 5,zr.nd.kids⟩,.slice (some ⟨g3,0,none⟩) 4 4,zr.kv⟩:=by
  rw [List.getElem?_set_ne (Ne.symm a5.out.2),<-aV.out];exact List.getElem?_set_self eh
 have aP:ndsZ (Z2.set kid ⟨⟨g.nd.pairs.take 4,g.nd.kids⟩,.slice (some ⟨g5,0,none⟩) 4 4,g.kv⟩)=((takeA (ndsZ Z) fl).set r ⟨g.nd.pairs.drop 5,zr.nd.kids⟩).set kid ⟨g.nd.pairs.take 4,g.nd.kids⟩:=by
  rw [zbd,<-aV.out,zbd,bX.out]
 have aB:(Z2.set kid ⟨⟨g.nd.pairs.take 4,g.nd.kids⟩,.slice (some ⟨g5,0,none⟩) 4 4,g.kv⟩)[at_]?=u[at_]?:=by
  rw [List.getElem?_set_ne s7,<-aV.out,List.getElem?_set_ne a5.out.1]
 generalize c8:Z2.set kid ⟨⟨g.nd.pairs.take 4,g.nd.kids⟩,.slice (some ⟨g5,0,none⟩) 4 4,g.kv⟩=Z6 at y X ak aP aB;have ae:Z6.length=u.length:=by rw [<-c8,List.length_set];exact ab.out
 have m:TreeR W6 t (.slice (some ⟨d,j,none⟩) Z6.length l) q Z6 fl.dropLast root many:=by rw [ae];rw [ab.out] at y;exact y
 obtain ⟨er,u2,es,u4⟩:=m.look kid _ X;obtain ⟨v1,v2,v3,v4⟩:=m.look r _ ak;obtain ⟨ka,o,ag,d4,eU,aJ⟩:=(m.kids kid _ X).shape;dsimp only at er u2 es u4 v1 v2 v3 v4 ag d4 aJ;rw [ag] at u2;have d6:=m.obj.cell 0 rfl
 have aH:Fr (treeF t (.slice (some ⟨d,j,none⟩) u.length l) q u) w1 W6:=by
  refine ((ct.out.mono fun _ _ s=>s.elim).trans dN.out fun b N e=>?_).trans z fun b N e=>?_
  · rcases e with rfl | e
    · exact .inr (.inl rfl)
    exact .inr (.inr (.inr ⟨r,zr,c1.out,.inl e⟩))
  rcases e with rfl | e
  · exact .inr (.inl rfl)
  exact .inr (.inr (.inr ⟨kid,g,bZ.out,.inl e⟩))
 have ai:∀ b,treeF t (.slice (some ⟨d,j,none⟩) Z6.length l) q Z6 b->treeF t (.slice (some ⟨d,j,none⟩) u.length l) q u b\/w1.heap.size<=b:=by
  intro b N;rw [<-c8,List.length_set,ab.out] at N;have fP:w1.heap.size<=W2.heap.size:=ct.out.size;rcases zbn br.out Q b N with e | e
  · rw [<-aV.out] at e
    rcases zbn c1.out dO.out b e with e | e
    · exact .inl e
    exact .inr (by omega)
  exact .inr (by omega)
 have bj:=H_ aB;have bU:=H_ m;have ar:=H_ X;have au:=H_ ak;have bn:=H_ aP;have bp:=H_ ae;have cF:=H_ ce;have ao:=H_ ag;have cx:=H_ aJ;have a0:=H_ aH;have D:=H_ ai;have eL:t<W6.heap.size:=by omega
 have eK:d<W6.heap.size:=by omega
 have f0:(r:Int)<(u.length:Int):=ei;rw [ae] at d6;clear aB y m z Q X ak aP c8 ae ce ag aJ y1 y2 bW aF u1 u3 aH ai v1 v3;go_upto_if 63 with fail
 go_cut [64] (fun _ wx=>∃ C:List Nz,Hid (TreeR wx t (.slice (some ⟨d,j,none⟩) C.length l) q C fl.dropLast root many)/\Hid (C.length=u.length) ∧
  Hid (ndsZ C=((takeA (ndsZ Z) fl).set r ⟨g.nd.pairs.drop 5,g.nd.kids.drop 5⟩).set kid ⟨g.nd.pairs.take 4,g.nd.kids.take 5⟩)/\Hid (wx.heap[w1.heap.size]?=some (.cells #[.string k.1,.int .i64 k.2] 122 (0,0))) ∧
  Hid (Fr (treeF t (.slice (some ⟨d,j,none⟩) u.length l) q u) w1 wx)/\Hid (∀ b,treeF t (.slice (some ⟨d,j,none⟩) C.length l) q C b->treeF t (.slice (some ⟨d,j,none⟩) u.length l) q u b\/w1.heap.size<=b)/\Hid (C[at_]?=u[at_]?))
 case first =>
  have I:g.nd=ndA (ndsZ Z) kid:=cr.out.trans O2.out;have b9:zr.nd.kids = []:=(by rw [dC.out,O3.out];rfl);rcases dS.out with a7 | bz
  · have aI:g.nd.kids = []:=by rw [I];exact a7
    have cw:=H_ aI;have cL:=H_ b9;have eg:g.nd.kids.length=0:=(by rw [aI];rfl);have hz:¬ (0:Int)<(g.nd.kids.length:Int):=(by omega);clear a7 aI I b9 eg;go_wp2;go_meet
    case rel =>
     refine ⟨Z6,bU.out,bp.out,H_ ?_,cF.out,a0.out,D.out,bj.out⟩;rw [bn.out,cL.out,cw.out]
     rfl
  have n:g.nd.kids.length=10:=by rw [I];exact bz
  obtain ⟨cb,co,rfl⟩:=cx.out (by omega)
  have b8:SlF W6 3 1 nat1 (.slice (some ⟨cb,co,none⟩) 10 o) g.nd.kids:=by
   have:=bU.out.kids kid _ ar.out;dsimp only at this
   rwa [ao.out,n] at this
  have bF:SlF W6 3 1 nat1 (.slice (some ⟨cb,co+5,none⟩) 5 (o-5)) (g.nd.kids.drop 5):=by
   have:=SlF.drop zag (L:=g.nd.kids) (by rw [n];exact b8) 5 (by omega);rw [n] at this;exact this
  have bG:SlF W6 3 1 nat1 (.slice (some ⟨cb,co,none⟩) 5 o) (g.nd.kids.take 5):=SlF.take zag (by rw [n];exact b8) 5 (by omega);have da:(g.nd.kids.drop 5).length=5:=(by rw [List.length_drop,n]);have bJ:(g.nd.kids.take 5).length=5:=(by rw [List.length_take,n];rfl);rw [n] at u2;have fL:10<=o:=(by omega);have eS:¬ o=5:=(by omega);have eT:(5:Int)<=(o:Int):=(by omega);have hz:(0:Int)<(g.nd.kids.length:Int):=(by omega);have cA:=H_ bF;have ez:=H_ bG;have dG:=H_ da;have cD:=H_ bJ;have cL:=H_ b9;have fo:=H_ b8;have bl:=H_ n;clear b8 bF bG da bJ I bz n b9;go_upto_region 7 with fail
  go_region_held3 (fun W=>W.cell? ⟨t,0,none⟩=some (.slice (some ⟨d,j,none⟩) u.length l)/\W.cell? ⟨d,j+kid * 2+1,none⟩=some (.slice (some ⟨cb,co,none⟩) 10 o))
   (first | exact ⟨d6,u2⟩ | exact ⟨S.cell0 d6,S.cell0 u2⟩ | exact ⟨zhx (S.cell0 d6) (.inl dr.symm) _,zhx (S.cell0 u2) (.inr (by omega)) _⟩)
   (first | (go_at_call 176;refine (zsw _ _ _ 5 dG.out (cA.out.fr0 (Fr.refl No W6).drew) (by omega)).mono ?_;rintro e w7 ⟨g7,rfl,dl,S,eb⟩
             have y1:=S.cell0 v2;have y2:=S.free0 v2 v4;have cP:=H_ dl;clear dl))
  have aG:Fr No W6 w7:=(Fr.refl No W6).drew.trans0 S
  obtain ⟨y,z,Q⟩:=bU.out.setKids (w1:=w7) (kv':=.slice (some ⟨g7,0,none⟩) 5 5) (K':=g.nd.kids.drop 5) r _ au.out (aG.mono fun _ _ s=>s.elim) cP.out fun b e=>by
   obtain rfl:g7=b:=by simpa [Value.ownBlock] using e
   exact .inr eb
  have cf:(w7.setCell ⟨d,j+r * 2+1,none⟩ (.slice (some ⟨g7,0,none⟩) 5 5)).heap[w1.heap.size]?=some (.cells #[.string k.1,.int .i64 k.2] 122 (0,0)):=by
   have h1:=aG.heap cF.out id;have h2:d<w1.heap.size:=ah;exact (Below.heap_setCell w7 _ _ _ (by show w1.heap.size≠d;omega)).trans h1
  have bN:W6.heap.size<=(w7.setCell ⟨d,j+r * 2+1,none⟩ (.slice (some ⟨g7,0,none⟩) 5 5)).heap.size:=z.size;generalize w7.setCell ⟨d,j+r * 2+1,none⟩ (.slice (some ⟨g7,0,none⟩) 5 5)=W8 at y z cf bN ⊢
  dsimp only at y z Q;have Y:(Z6.set r ⟨⟨g.nd.pairs.drop 5,g.nd.kids.drop 5⟩,.slice (some ⟨g3,0,none⟩) 4 4,.slice (some ⟨g7,0,none⟩) 5 5⟩)[kid]?=some ⟨⟨g.nd.pairs.take 4,g.nd.kids⟩,.slice (some ⟨g5,0,none⟩) 4 4,g.kv⟩:=(by rw [List.getElem?_set_ne a5.out.2];exact ar.out);have p:ndsZ (Z6.set r ⟨⟨g.nd.pairs.drop 5,g.nd.kids.drop 5⟩,.slice (some ⟨g3,0,none⟩) 4 4,.slice (some ⟨g7,0,none⟩) 5 5⟩)=(((takeA (ndsZ Z) fl).set r ⟨g.nd.pairs.drop 5,zr.nd.kids⟩).set kid ⟨g.nd.pairs.take 4,g.nd.kids⟩).set r ⟨g.nd.pairs.drop 5,g.nd.kids.drop 5⟩:=(by rw [zbd,bn.out]);generalize c9:Z6.set r ⟨⟨g.nd.pairs.drop 5,g.nd.kids.drop 5⟩,.slice (some ⟨g3,0,none⟩) 4 4,.slice (some ⟨g7,0,none⟩) 5 5⟩=C at y Y p;have aA:C.length=Z6.length:=(by rw [<-c9,List.length_set])
  have m:TreeR W8 t (.slice (some ⟨d,j,none⟩) C.length l) q C fl.dropLast root many:=(by rw [aA];exact y);obtain ⟨_,a2,_,a4⟩:=m.look kid _ Y;dsimp only at a2;rw [ao.out,bl.out] at a2
  have bH:SlF W8 3 1 nat1 (.slice (some ⟨cb,co,none⟩) 5 o) (g.nd.kids.take 5):=by
   have:=m.kids kid _ Y;dsimp only at this;rw [ao.out] at this;exact SlF.take zag this 5 (by rw [bl.out];omega)
  have dP:=H_ m;have cJ:=H_ z;have cK:=H_ Q;have bs:=H_ Y;have cG:=H_ p;have cR:=H_ c9;have cS:=H_ aA;have ap:=H_ cf;have cB:=H_ bH;have eM:d<W8.heap.size:=(by omega);clear y m z Q Y p c9 aA cf bH y1 y2 cP S aG d6 u2 v2 v4
  go_wp2_with (first
   | (go_at_call 176;refine (zsw _ _ _ 5 cD.out cB.out (by omega)).mono ?_;rintro e w9 ⟨g9,rfl,dm,b6,ec⟩
      have y1:=b6.cell0 a2;have y2:=b6.free0 a2 a4;have cQ:=H_ dm;clear dm))
  obtain ⟨y,z,Q⟩:=dP.out.setKids (w1:=w9) (kv':=.slice (some ⟨g9,0,none⟩) 5 5) (K':=g.nd.kids.take 5) kid _ bs.out (b6.mono fun _ _ s=>s.elim) cQ.out fun b e=>by
   obtain rfl:g9=b:=by simpa [Value.ownBlock] using e
   exact .inr ec
  dsimp only at y z Q
  have aN:(w9.setCell ⟨d,j+kid * 2+1,none⟩ (.slice (some ⟨g9,0,none⟩) 5 5)).heap[w1.heap.size]?=some (.cells #[.string k.1,.int .i64 k.2] 122 (0,0)):=by
   have h1:=b6.heap ap.out id;have h2:d<w1.heap.size:=ah;exact (Below.heap_setCell w9 _ _ _ (by show w1.heap.size≠d;omega)).trans h1
  have bo:=H_ y;have aq:=H_ z;have bS:=H_ Q;have bm:=H_ aN;generalize w9.setCell ⟨d,j+kid * 2+1,none⟩ (.slice (some ⟨g9,0,none⟩) 5 5)=fy at y z bo aq bm aN ⊢
  clear y z Q aN;go_meet
  case rel =>
   have ds:=cS.out;have aM:(C.set kid ⟨⟨g.nd.pairs.take 4,g.nd.kids.take 5⟩,.slice (some ⟨g5,0,none⟩) 4 4,.slice (some ⟨g9,0,none⟩) 5 5⟩).length=C.length:=(by simp);refine ⟨C.set kid ⟨⟨g.nd.pairs.take 4,g.nd.kids.take 5⟩,.slice (some ⟨g5,0,none⟩) 4 4,.slice (some ⟨g9,0,none⟩) 5 5⟩,H_ (by rw [aM];exact bo.out),H_ (by rw [aM,ds];exact bp.out),H_ ?_,bm,H_ ?_,H_ ?_,H_ (by rw [List.getElem?_set_ne s7,<-cR.out,List.getElem?_set_ne a5.out.1];exact bj.out)⟩
   · rw [zbd,cG.out]
     rw [List.set_comm _ _ a5.out.2.symm,List.set_set,List.set_set]
   · refine (a0.out.trans cJ.out fun b N e=>?_).trans aq.out fun b N e=>?_
     · rcases e with rfl | e
       · exact .inr (.inl rfl)
       rcases D.out b (.inr (.inr (.inr ⟨r,_,au.out,.inr e⟩))) with e | e
       · exact e
       omega
     rcases e with rfl | e
     · exact .inr (.inl rfl)
     rcases D.out b (.inr (.inr (.inr ⟨kid,_,ar.out,.inr e⟩))) with e | e
     · exact e
     omega
   intro b N
   rw [aM] at N;have fQ:=a0.out.size;rcases zbn bs.out bS.out b N with e | e
   · rw [<-cR.out,List.length_set] at e
     rcases zbn au.out cK.out b e with e | e
     · exact D.out b e
     exact .inr (by omega)
   exact .inr (by omega)
 case rest =>
  obtain ⟨C,H8,cE,dJ,ap,aa,cH,cq⟩:=hcut;obtain ⟨c,U,bt⟩:=zbr bX.out ej;have B:C[at_]?=some c:=cq.out.trans U;have p:c.nd=ndA (ndsZ Z) at_:=bt.trans O1.out;have e7:at_<u.length:=(List.getElem?_eq_some_iff.1 U).1;obtain ⟨a1,a2,a3,a4⟩:=H8.out.look at_ _ B;have d8:=H8.out.obj.cell 0 rfl;rw [cE.out] at d8;have b0:wc.cell? ⟨w1.heap.size,0,none⟩=some (.string k.1):=(by simp [World.cell?,ap.out]);have b1:wc.cell? ⟨w1.heap.size,1,none⟩=some (.int .i64 k.2):=(by simp [World.cell?,ap.out]);have aO:∀ b,zown c b->b<w1.heap.size:=fun b N=>bV.out.zlt U N;have de:¬ c.pv.ownBlock=some d:=fun e=>(H8.out.a2 at_ _ d B (.inl e)).2.1 rfl;have I:¬ c.kv.ownBlock=some d:=fun e=>(H8.out.a2 at_ _ d B (.inr e)).2.1 rfl
  have dd:∀ b,c.pv.ownBlock=some b->c.kv.ownBlock≠some b:=fun b=>H8.out.a3 at_ c b B;have fO:¬ c.pv.ownBlock=some w1.heap.size:=fun e=>by have:=aO _ (.inl e);omega
  have df:=H8.out.pairs at_ _ B;have d5:=H8.out.kids at_ _ B;have ee:i<=c.nd.pairs.length:=(by rw [p];exact s4);have fA:c.nd.pairs.length<=9:=(by rw [p];exact s2);have eH:c.nd.kids.length<=10:=(by rw [p,cs.out];exact s3);have ed:i+1<=c.nd.kids.length:=(by rw [p,cs.out];omega);have f2:t<wc.heap.size:=(by have:=aa.out.size;omega);have f3:d<wc.heap.size:=(by have:=aa.out.size;omega);have f4:w1.heap.size<wc.heap.size:=zab ap.out;have eP:(at_:Int)<(u.length:Int):=(by omega);have dL:=H_ df;have fn:=H_ d5;have cT:=H_ B;have dK:=H_ p;have eA:=H_ aO;have fq:=H_ dd;have bq:=H_ U;clear df d5 B p aO dd U bt;go_upto_region 10 with fail
  go_region_law (go_simp;go_at_call 158;refine (zeu _ _ _ i k (dL.out.drew) ee (by omega)).mono ?_;rintro e bf ⟨H,P,K,rfl,bL,af,bw⟩
                 have y1:=af.cell a1 de;have y2:=af.free a1 a3 de;have cM:=H_ bL;have cu:=H_ bw;clear bL bw)
  all_goals
   have aC:Fr (fun b=>c.pv.ownBlock=some b) wc bf:=(Fr.refl _ wc).drew.trans af fun _ _ e=>e
   have b7:∀ b,(Value.slice (some ⟨H,P,none⟩) (c.nd.pairs.length+1) K).ownBlock=some b->c.pv.ownBlock=some b\/wc.heap.size<=b:=fun b e=>by
    obtain rfl:H=b:=by simpa [Value.ownBlock] using e
    exact cu.out
   obtain ⟨y,z,Q⟩:=H8.out.setPairs (w1:=bf) (pv':=.slice (some ⟨H,P,none⟩) (c.nd.pairs.length+1) K) (P':=c.nd.pairs.take i++k :: c.nd.pairs.drop i) at_ c cT.out aC cM.out b7;have ch:wc.heap.size<=(bf.setCell ⟨d,j+at_ * 2,none⟩ (.slice (some ⟨H,P,none⟩) (c.nd.pairs.length+1) K)).heap.size:=z.size;generalize bf.setCell ⟨d,j+at_ * 2,none⟩ (.slice (some ⟨H,P,none⟩) (c.nd.pairs.length+1) K)=c2 at y z ch ⊢
   have d1:at_<C.length:=(by have:=cE.out;omega);have G:(C.set at_ ⟨⟨c.nd.pairs.take i++k :: c.nd.pairs.drop i,c.nd.kids⟩,.slice (some ⟨H,P,none⟩) (c.nd.pairs.length+1) K,c.kv⟩)[at_]?=some ⟨⟨c.nd.pairs.take i++k :: c.nd.pairs.drop i,c.nd.kids⟩,.slice (some ⟨H,P,none⟩) (c.nd.pairs.length+1) K,c.kv⟩:=List.getElem?_set_self d1;have a9:ndsZ (C.set at_ ⟨⟨c.nd.pairs.take i++k :: c.nd.pairs.drop i,c.nd.kids⟩,.slice (some ⟨H,P,none⟩) (c.nd.pairs.length+1) K,c.kv⟩)=(ndsZ C).set at_ ⟨c.nd.pairs.take i++k :: c.nd.pairs.drop i,c.nd.kids⟩:=(by rw [zbd]);have O:=zbn (t:=t) (nv:=.slice (some ⟨d,j,none⟩) C.length l) (fv:=q) cT.out Q
   generalize bv:C.set at_ ⟨⟨c.nd.pairs.take i++k :: c.nd.pairs.drop i,c.nd.kids⟩,.slice (some ⟨H,P,none⟩) (c.nd.pairs.length+1) K,c.kv⟩=aX at y G a9 O;have a6:aX.length=C.length:=(by rw [<-bv,List.length_set]);have m:TreeR c2 t (.slice (some ⟨d,j,none⟩) aX.length l) q aX fl.dropLast root many:=(by rw [a6];exact y);obtain ⟨_,e2,_,e4⟩:=m.look at_ _ G;have a8:=m.kids at_ _ G;dsimp only at e2 e4 a8;have cI:=H_ m;have bT:=H_ z;have bQ:=H_ O;have av:=H_ G;have bP:=H_ a9;have bY:=H_ a6;have bO:=H_ a8;have em:d<c2.heap.size:=(by omega);clear y m z Q O G a9 bv a6 a8 af aC b7 y1 y2 a1 a2 a3 a4 b0 b1 d8
   go_wp2_with (first
    | (go_at_call 177;refine (zim _ _ _ (i+1) r bO.out ed (by omega)).mono ?_;rintro e ev ⟨b3,o13,c3,rfl,bM,aD,bx⟩
       have y1:=aD.cell e2 I;have y2:=aD.free e2 e4 I;have cN:=H_ bM;have cv:=H_ bx;clear bM bx))
   refine bodyPost_end (results_none rfl _ _ _) rfl ⟨rfl,?_⟩
   have b7:∀ b,(Value.slice (some ⟨b3,o13,none⟩) (c.nd.kids.length+1) c3).ownBlock=some b->c.kv.ownBlock=some b\/c2.heap.size<=b:=fun b e=>by
    obtain rfl:b3=b:=by simpa [Value.ownBlock] using e
    exact cv.out
   obtain ⟨y,z,Q⟩:=cI.out.setKids (w1:=ev) (kv':=.slice (some ⟨b3,o13,none⟩) (c.nd.kids.length+1) c3) (K':=c.nd.kids.take (i+1)++r :: c.nd.kids.drop (i+1)) at_ _ av.out aD cN.out b7;dsimp only at y z Q;have I:g.nd=ndA (ndsZ Z) kid:=cr.out.trans O2.out
   have e5:splitA (ndsZ Z) fl at_ i=ndsZ (aX.set at_ ⟨⟨c.nd.pairs.take i++k :: c.nd.pairs.drop i,c.nd.kids.take (i+1)++r :: c.nd.kids.drop (i+1)⟩,.slice (some ⟨H,P,none⟩) (c.nd.pairs.length+1) K,.slice (some ⟨b3,o13,none⟩) (c.nd.kids.length+1) c3⟩):=by
    have J:(ndA (ndsZ Z) kid).pairs.getD 4 default=k:=(by rw [<-I];simp [List.getD,HM.out]);rw [dT.out,J,zbd,bP.out,dJ.out,<-I,<-dK.out,List.set_set]
   have f1:=bk.out.size;have bN:=aa.out.size;refine ⟨_,⟨_,_,_,y,e5.symm,fun b=>Iff.rfl⟩,((bk.out.trans aa.out fun b N e=>?_).trans bT.out fun b N e=>?_).trans z fun b N e=>?_,fun b N=>?_⟩
   · rcases aU.out b ((aT.out b).2 e) with e | e
     · exact e
     omega
   · have e':treeF t (.slice (some ⟨d,j,none⟩) u.length l) q u b:=by
      rcases e with rfl | e
      · exact .inr (.inl rfl)
      exact .inr (.inr (.inr ⟨at_,c,bq.out,.inl e⟩))
     rcases aU.out b ((aT.out b).2 e') with e | e
     · exact e
     omega
   · have e':treeF t (.slice (some ⟨d,j,none⟩) u.length l) q u b:=by
      rcases e with rfl | e
      · exact .inr (.inl rfl)
      exact .inr (.inr (.inr ⟨at_,c,bq.out,.inr e⟩))
     rcases aU.out b ((aT.out b).2 e') with e | e
     · exact e
     omega
   rw [bY.out] at N
   have key:∀ b,treeF t (.slice (some ⟨d,j,none⟩) C.length l) q C b->F b\/w.heap.size<=b:=by
    intro b N;rcases cH.out b N with e | e
    · exact aU.out b ((aT.out b).2 e)
    exact .inr (by omega)
   rcases zbn av.out Q b N with e | e
   · rcases bQ.out b e with e | e
     · exact key b e
     exact .inr (by omega)
   exact .inr (by omega)
end Go.Proofs.YthljnnjpmdgkoaaGreat