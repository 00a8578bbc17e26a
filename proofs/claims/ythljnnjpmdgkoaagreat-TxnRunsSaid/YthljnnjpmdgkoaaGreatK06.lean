/- Own lemmas. -/
import Derived.Test.YthljnnjpmdgkoaaGreatK05
import Derived.Test.YthljnnjpmdgkoaaGreatK00
import Derived.Deep.RegionLaw
import Derived.Deep.RegionHeld3
import Derived.Deep.DeepCutAuto
import Derived.StillTailTactics
namespace Go.Proofs.YthljnnjpmdgkoaaGreat
open Go Go.Proofs Go.RowKit
set_option maxRecDepth 100000
theorem info198:(Tryz.prog.info? 231).map (fun i=>(i.zero,i.size,i.bytes))=some (some (.agg #[.slice none 0 0,.slice none 0 0]),2,48):=by kernel_rfl
def nz0:Nz:=⟨nd0,.slice none 0 0,.slice none 0 0⟩
theorem takeZ {Z:List Nz}:ndsZ (Z++[nz0])=ndsZ Z++[nd0]:=by unfold ndsZ;simp [nz0]
set_option maxHeartbeats 1000000 in
theorem zty (w:World) (t:Nat) (A:Arr) (fl:List Nat) (root:Nat) (many:Int) (F:Nat->Prop) (h:TreeZ w t A fl root many F) (hA:A.length<=1099511627) (hl:fl.length<=1099511627) (hne:fl≠[]) :
 Calls Tryz.prog 155 #[.pointer (some ⟨t,0,none⟩)] w fun e w'=>e=.returned (.int .i64 (takeI A fl:Int))/\∃ F',TreeZ w' t (takeA A fl) fl.dropLast root many F'/\Fr F w w'/\∀ b,F' b->F b\/w.heap.size<=b:=by
 obtain ⟨nv,fv,Z,h,rfl,hF⟩:=h;have N:=h.obj.cell 1 rfl;have K:=h.obj.free 1;have i:0<fl.length:=List.length_pos_iff.2 hne;obtain ⟨a,cap,rfl,r,G,q⟩:=h.free.shape;obtain ⟨o,m,rfl⟩:=q i
 have p:fl[fl.length-1]?=some (fl.getLast hne):=by
  rw [List.getLast_eq_getElem];exact List.getElem?_eq_getElem _
 have L:=h.free.cell1 zah (fl.length-1) p rfl;have f:takeI (ndsZ Z) fl=fl.getLast hne:=by unfold takeI;rw [List.getLast?_eq_some_getLast hne];rfl
 have g:takeA (ndsZ Z) fl=ndsZ Z:=by unfold takeA;rw [if_neg hne]
 have k:=h.free.take zah (fl.length-1) (by omega);rw [<-List.dropLast_eq_take] at k;have l:fl.dropLast.length=fl.length-1:=by simp
 have y:Hid (SlF w 3 1 nat1 (.slice (some ⟨o,m,none⟩) (fl.length-1) cap) fl.dropLast):=H_ k;have H:=H_ h;have D:=H_ f;have j:=H_ g;have c:=H_ hF;generalize fl.getLast hne=x at *;have v:(0:Int)<(fl.length:Int):=by omega
 have B:(0:Int)<=(fl.length:Int)-1:=by omega
 have C:(fl.length:Int)-1<=(cap:Int):=by omega
 have u:((fl.length:Int)-1).toNat=fl.length-1:=by omega
 have J:(fl.length:Int)-1<(fl.length:Int):=by omega
 have s:(fl.length:Int)<=1099511627:=by omega
 clear h k f g hF p q l;generalize M:fl.length=n at *;go_enter Tryz.func155,Tryz.ntmps155;go_wp2;go_ret;have d:=H.out.setFree (w1:=w) (fl':=fl.dropLast) (fv':=.slice (some ⟨o,m,none⟩) (n-1) cap) (Fr.refl _ w) y.out (fun b e=>.inl e);obtain ⟨E,z,I⟩:=d;refine ⟨by rw [D.out];rfl,_,⟨_,_,Z,E,j.out.symm,fun b=>Iff.rfl⟩,z.mono fun b _ e=>(c.out b).2 ?_,fun b hb=>?_⟩
 · rcases e with e | e
   · exact .inl e
   exact .inr (.inr (.inl e))
 rcases I b hb with e | e
 · exact .inl ((c.out b).2 e)
 exact .inr e
set_option maxHeartbeats 1000000 in
theorem ztz (w:World) (t:Nat) (A:Arr) (root:Nat) (many:Int) (F:Nat->Prop) (h:TreeZ w t A [] root many F) (hA:A.length<=1099511627) :
 Calls Tryz.prog 155 #[.pointer (some ⟨t,0,none⟩)] w fun e w'=>e=.returned (.int .i64 (takeI A []:Int))/\∃ F',TreeZ w' t (takeA A []) [] root many F'/\Fr F w w'/\∀ b,F' b->F b\/w.heap.size<=b:=by
 obtain ⟨nv,fv,Z,h,rfl,hF⟩:=h;rw [zaw] at hA;have z:=h.obj.cell 0 rfl;have E:=h.obj.cell 1 rfl;have C:=h.obj.free 0;obtain ⟨J,q,x,v,s⟩:=info_parts info198;obtain ⟨a,cap,rfl,I,O,Q⟩:=h.free.shape;have d:=zar w [.slice none 0 0,.slice none 0 0] 231 (0,0);have H:=H_ h;have j:=H_ hF;have N:=H_ h.nodes;have K:=h.obj.lt;have f:¬ nv.ownBlock=some t:=h.a1.1;clear h hF Q;go_enter Tryz.func155,Tryz.ntmps155;go_wp2_with (at_builtin;refine zao rfl _ _ 175 rfl 231 J _ 2 48 Tryz.underlying175 q x v s rfl (by decide) nv Z rfl (N.out.alloc _) w.heap.size 1 nz0 rfl (by simpa [nzC,nz0] using d) rfl (by intro u D;simp [nzC,nz0] at D;subst D;rfl) (by unfold maxLen;omega) (by omega) ?_);intro g o n w1 p i m G
 have c:Fr (fun b=>nv.ownBlock=some b) w w1:=(((Fr.refl _ w).alloc _).grown i fun k hk=>.inl hk);have R:=c.cell z f;have S:=c.cell E f;have V:=c.free z C f;have r:=H_ p;have B:=H_ m;have y:=H_ c;clear p i m c z E C d;have U:(0:Int)<=(Z.length:Int):=by omega
 go_wp2;go_ret;have T:(Z++[nz0]).length=Z.length+1:=by simp
 have l:=H.out.snoc (w1:=w1) (nv':=.slice (some ⟨g,o,none⟩) (Z.length+1) n) y.out r.out fun b e=>by
  obtain rfl:g=b:=by simpa [Value.ownBlock] using e
  rcases B.out with e | e
  · exact .inl e
  right;omega
 obtain ⟨M,L,P⟩:=l;refine ⟨?_,_,⟨_,_,_,M,by unfold takeA;rw [if_pos rfl];exact takeZ,fun b=>Iff.rfl⟩,L.mono fun b _ e=>(j.out b).2 ?_,fun b hb=>?_⟩
 · unfold takeI
   rw [List.getLast?_nil,zaw]
   rfl
 · rcases e with e | e
   · exact .inl e
   exact .inr (.inl e)
 rcases P b hb with e | e
 · exact .inl ((j.out b).2 e)
 exact .inr e
theorem zkt (w:World) (t:Nat) (A:Arr) (fl:List Nat) (root:Nat) (many:Int) (F:Nat->Prop) (h:TreeZ w t A fl root many F) (hA:A.length<=1099511627) (hl:fl.length<=1099511627) :
 Calls Tryz.prog 155 #[.pointer (some ⟨t,0,none⟩)] w fun e w'=>e=.returned (.int .i64 (takeI A fl:Int))/\∃ F',TreeZ w' t (takeA A fl) fl.dropLast root many F'/\Fr F w w'/\∀ b,F' b->F b\/w.heap.size<=b:=by
 by_cases hne:fl = []
 · subst hne;exact ztz w t A root many F h hA
 exact zty w t A fl root many F h hA hl hne
set_option maxHeartbeats 1000000 in
theorem zkz (w:World) (t:Nat) (A:Arr) (fl:List Nat) (root:Nat) (many:Int) (F:Nat->Prop) (h:TreeZ w t A fl root many F) (at_:Nat) (hat:at_<A.length) (hA:A.length<=1099511627) (hl:fl.length<=1099511627) :
 Calls Tryz.prog 149 #[.pointer (some ⟨t,0,none⟩),.int .i64 at_] w fun e w'=>e=.returned (.tuple #[])/\∃ F',TreeZ w' t (A.set at_ nd0) (fl++[at_]) root many F'/\Fr F w w'/\∀ b,F' b->F b\/w.heap.size<=b:=by
 obtain ⟨nv,fv,Z,h,rfl,hF⟩:=h
 obtain ⟨z,E,_⟩:=zdb hat
 rw [zaw] at hA hat;have c0:=h.obj.cell 0 rfl;have c1:=h.obj.cell 1 rfl;have f1:=h.obj.free 1;obtain ⟨i0,I,M,L,K⟩:=info_parts info3;obtain ⟨a,cap,rfl,a0,ai,U⟩:=h.nodes.shape;obtain ⟨c,no,rfl⟩:=U (by omega);have n0:=h.nodes.cell0 zbt at_ E rfl;have n1:=h.nodes.cell zbt at_ 1 E rfl;have nf:=h.nodes.free (no+at_ * 2);have Q:=h.nodes.free (no+at_ * 2+1);have a9:t≠c:=fun e=>h.a1.1 (by rw [e];rfl);have hp:=h.setPairs (w1:=w) (pv':=.slice none 0 0) (P':=[]) at_ z E (Fr.refl _ w) (SlF.nil _ _ _ _) (fun b e=>by simp [Value.ownBlock] at e);obtain ⟨T,p2,p3⟩:=hp
 have i:(Z.set at_ ⟨⟨[],z.nd.kids⟩,.slice none 0 0,z.kv⟩)[at_]?=some ⟨⟨[],z.nd.kids⟩,.slice none 0 0,z.kv⟩:=List.getElem?_set_self hat;have B:TreeR (w.setCell ⟨c,no+at_ * 2,none⟩ (.slice none 0 0)) t (.slice (some ⟨c,no,none⟩) (Z.set at_ ⟨⟨[],z.nd.kids⟩,.slice none 0 0,z.kv⟩).length cap) fv (Z.set at_ ⟨⟨[],z.nd.kids⟩,.slice none 0 0,z.kv⟩) fl root many:=by rw [List.length_set];exact T
 have O:=B.setKids (w1:=w.setCell ⟨c,no+at_ * 2,none⟩ (.slice none 0 0)) (kv':=.slice none 0 0) (K':=[]) at_ _ i (Fr.refl _ _) (SlF.nil _ _ _ _) (fun b e=>by simp [Value.ownBlock] at e);obtain ⟨P,k2,k3⟩:=O;rw [List.set_set,List.length_set] at P
 have y:∀ b,treeF t (.slice (some ⟨c,no,none⟩) Z.length cap) fv (Z.set at_ nz0) b->treeF t (.slice (some ⟨c,no,none⟩) Z.length cap) fv Z b\/w.heap.size<=b :=
  zbf E fun b hb=>by rcases hb with e | e <;> simp [Value.ownBlock,nz0] at e
 have x:TreeR ((w.setCell ⟨c,no+at_ * 2,none⟩ (.slice none 0 0)).setCell ⟨c,no+at_ * 2+1,none⟩ (.slice none 0 0)) t (.slice (some ⟨c,no,none⟩) Z.length cap) fv (Z.set at_ nz0) fl root many:=P
 have r:Fr F w ((w.setCell ⟨c,no+at_ * 2,none⟩ (.slice none 0 0)).setCell ⟨c,no+at_ * 2+1,none⟩ (.slice none 0 0)):=by
  refine (((Fr.refl F w).setCell (p:=⟨c,no+at_ * 2,none⟩) (.inl ?_) _).setCell (p:=⟨c,no+at_ * 2+1,none⟩) (.inl ?_) _) <;> exact (hF c).2 (.inr (.inl rfl))
 have V:=h.nodes.lt c rfl;have a7:=h.obj.lt;have H:=H_ x;have G:=H_ y;have m:=H_ hF;have S:=H_ r;clear h hF U T p2 p3 B P k2 k3 x y r E i;have hj:(at_:Int)<(Z.length:Int):=by omega
 have d:=zar ((w.setCell ⟨c,no+at_ * 2,none⟩ (.slice none 0 0)).setCell ⟨c,no+at_ * 2+1,none⟩ (.slice none 0 0)) [.int .i64 (at_:Int)] 3 (0,0);have j:((w.setCell ⟨c,no+at_ * 2,none⟩ (.slice none 0 0)).setCell ⟨c,no+at_ * 2+1,none⟩ (.slice none 0 0)).heap.size=w.heap.size:=by simp
 rw [j] at d;have C:=H_ j;clear j;go_enter Tryz.func149,Tryz.ntmps149;go_wp2_with (at_builtin;refine zao rfl _ _ 76 rfl 3 i0 _ 1 8 Tryz.underlying76 I M L K rfl (by decide) fv fl rfl (H.out.free.alloc _) w.heap.size 1 at_ rfl (by simpa [nat1] using d) rfl (by intro u X;simp [nat1] at X;subst X;rfl) (by unfold maxLen;omega) (by omega) ?_);generalize ((w.setCell ⟨c,no+at_ * 2,none⟩ (.slice none 0 0)).setCell ⟨c,no+at_ * 2+1,none⟩ (.slice none 0 0))=W at *;intro g o v w1 D l s Y;have f:Fr (fun b=>fv.ownBlock=some b) W w1:=(((Fr.refl _ W).alloc _).grown l fun k O=>.inl O);have n:¬ fv.ownBlock=some t:=H.out.a1.2.1;have e1:=f.cell (H.out.obj.cell 1 rfl) n;have g1:=f.free (H.out.obj.cell 1 rfl) (H.out.obj.free 1) n;have J:=H_ D;have R:=H_ s;have N:=H_ f
 clear D l s f c0 c1 f1 d n0 n1 nf Q;go_wp2;refine bodyPost_end (results_none rfl _ _ _) rfl ⟨rfl,?_⟩
 have q:=H.out.setFree (w1:=w1) (fl':=fl++[at_]) (fv':=.slice (some ⟨g,o,none⟩) (fl.length+1) v) N.out J.out fun b e=>by
  obtain rfl:g=b:=by simpa [Value.ownBlock] using e
  rcases R.out with e | e
  · exact .inl e
  right;have:=C.out;omega
 obtain ⟨q1,q2,q3⟩:=q;refine ⟨_,⟨_,_,_,q1,by rw [zay];rfl,fun b=>Iff.rfl⟩,S.out.trans q2 fun b hb e=>(m.out b).2 ?_,fun b hb=>?_⟩
 · rcases e with e | e
   · exact .inl e
   exact .inr (.inr (.inl e))
 rcases q3 b hb with e | e
 · rcases G.out b e with e | e
   · exact .inl ((m.out b).2 e)
   exact .inr e
 right;have:=C.out;omega
open Go Go.RowKit
theorem zgw {α:Type} {f:α->List Value} {P:Program} {w:World} {ops:Array Oper} {o:Oper} {a:Act} {K:Act->World->Prop} {Q:Exit->Act->World->Prop} {E:Prop} (hgd:o.guard=none) (s x:Operand) (t:TypeId)
 (ho:o.op=.call { callee:=.builtin .append,args:=#[s,x],argTypes:=#[t,t] })
 (e:TypeId) (i:TypeInfo) (z:Value) (sz bytes:Nat) (ht:P.underlying t=some (.slice e)) (hi:P.info? e=some i) (hz:i.zero=some z) (hsize:i.size=sz) (hby:i.bytes=bytes) (hzs:z.cells.size=sz) (hsz:0<sz)
 (v:Value) (L:List α) (hs:a.eval s=v) (hown:SlF w e sz f v L)
 (b c:Nat) (y:α) (hx:a.eval x=.slice (some ⟨b,0,none⟩) 1 c) (hnews:∀ j u,(f y)[j]?=some u->w.cell? ((⟨b,0,none⟩:Addr).add j)=some u) (hl:(f y).length=sz) (h1:∀ u∈f y,u.oneCell'=true)
 (h63:L.length+1<=maxLen) (hbytes:(L.length+1) * bytes<=140737488355328)
 (h:∀ g o' cap w',SlF w' e sz f (.slice (some ⟨g,o',none⟩) (L.length+1) cap) (L++[y])->w.grownBy w' v.ownBlock->(v.ownBlock=some g\/g=w.heap.size)->g<w'.heap.size →
   K (a.put o.dst (.slice (some ⟨g,o',none⟩) (L.length+1) cap)) w') :
 if Region.wanted o (yielded ops a.tmps)=true then Oper.wp P o a w K Q else E:=by
 have m:Region.wanted o (yielded ops a.tmps)=true:=by simp [Region.wanted,hgd]
 rw [if_pos m];subst hsize;subst hby;obtain ⟨g,o',cap,w',n,d,k,l,p⟩:=zcl (P:=P) w t o.type e i z ht hi hz hzs hsz v L.length (L.flatMap f) hown ⟨b,0,none⟩ 1 c (f y) (by omega) (by omega) hnews h1 h63 hbytes;unfold Oper.wp execOp;simp only [ho,resolve,invoke,builtin,Sem.run_bind,Sem.run_pure,Result.andThen_ok,List.map_toArray,List.map_cons,List.map_nil,hs,hx,n];refine h g o' cap w' ?_ k l p;unfold SlF;simpa using d
theorem zcj {fn:Func} {t u v x:Tmp} (h:fn.results=#[.tmp t,.tmp u,.tmp v,.tmp x]) (tmps:Array Value) (P:Program) (w:World) :
 (results fn tmps).run P w=.ok (.tuple #[tmps.getD t undef,tmps.getD u undef,tmps.getD v undef,tmps.getD x undef]) w:=by
 simp [results,h]
theorem TreeR.look {w:World} {t nb no ncap:Nat} {fv:Value} {Z:List Nz} {fl:List Nat} {root:Nat} {many:Int} (h:TreeR w t (.slice (some ⟨nb,no,none⟩) Z.length ncap) fv Z fl root many) (j:Nat) (z:Nz) (hz:Z[j]?=some z) :
 w.cell? ⟨nb,no+j * 2,none⟩=some z.pv/\w.cell? ⟨nb,no+j * 2+1,none⟩=some z.kv/\w.frozen? ⟨nb,no+j * 2,none⟩=false/\w.frozen? ⟨nb,no+j * 2+1,none⟩=false :=
 ⟨h.nodes.cell0 zbt j hz rfl,h.nodes.cell zbt j 1 hz rfl,h.nodes.free _,h.nodes.free _⟩
theorem zhj {w:World} {b i c j:Nat} {u:Value} (h:w.cell? ⟨c,j,none⟩=some u) (hne:b≠c\/i≠j) (v:Value):(w.setCell ⟨b,i,none⟩ v).cell? ⟨c,j,none⟩=some u:=by
 rw [World.cell?_setCell_other]
 · exact h
 intro e
 cases e
 rcases hne with h | h <;> exact h rfl
theorem zni (w:World) (v:Value) (L:Pairs) (n:Nat) (hn:L.length=n) (hv:SlF w 122 2 pairC v L) (hl:n<=1000) :
 Calls Tryz.prog 175 #[v] w fun e w'=>∃ g,e=.returned (.slice (some ⟨g,0,none⟩) n n)/\SlF w' 122 2 pairC (.slice (some ⟨g,0,none⟩) n n) L/\Fr No w w'/\w.heap.size<=g:=by
 subst hn;exact zlr w v L hv hl
theorem zrb (w:World) (v:Value) (L:List Nat) (n:Nat) (hn:L.length=n) (hv:SlF w 3 1 nat1 v L) (hl:n<=1000) :
 Calls Tryz.prog 176 #[v] w fun e w'=>∃ g,e=.returned (.slice (some ⟨g,0,none⟩) n n)/\SlF w' 3 1 nat1 (.slice (some ⟨g,0,none⟩) n n) L/\Fr No w w'/\w.heap.size<=g:=by
 subst hn;exact znj w v L hv hl
theorem zbk {Z:List Nz} {A:Arr} (h:ndsZ Z=A) {i:Nat} (hi:i<A.length):∃ z,Z[i]?=some z/\z.nd=ndA A i:=by
 subst h;obtain ⟨z,b,a⟩:=zdb hi;exact ⟨z,b,a.symm⟩
theorem TreeR.headLen {w:World} {t:Nat} {nv fv:Value} {Z:List Nz} {fl:List Nat} {root:Nat} {many:Int} (h:TreeR w t nv fv Z fl root many) (hp:0<Z.length):∃ nb no cap,nv=.slice (some ⟨nb,no,none⟩) Z.length cap/\Z.length<=cap:=by
 obtain ⟨a,cap,rfl,b,c,d⟩:=h.nodes.shape;obtain ⟨nb,no,rfl⟩:=d hp;exact ⟨nb,no,cap,rfl,b⟩
set_option maxHeartbeats 4000000 in
theorem zis (w:World) (t:Nat) (A:Arr) (fl:List Nat) (root:Nat) (many:Int) (F:Nat->Prop) (h:TreeZ w t A fl root many F) (at_ i:Nat) (hs:splitSafe A fl at_ i) (hA:A.length<=109951162) (hl:fl.length<=1099511627) :
 Calls Tryz.prog 156 #[.pointer (some ⟨t,0,none⟩),.int .i64 at_,.int .i64 i] w fun e w'=>e=.returned (.tuple #[])/\∃ F',TreeZ w' t (splitA A fl at_ i) fl.dropLast root many F'/\Fr F w w'/\∀ b,F' b->F b\/w.heap.size<=b:=by
 obtain ⟨s1,s2,s3,s4,s5,s6,s7,s8,s9,al⟩:=hs;have aL:=fun W hW=>zkt W t A fl root many F hW (by omega) hl;have ht:=took (A:=A) (fr:=fl) fun f hf=>⟨(al f hf).1,(al f hf).2.2.2⟩
 have cE:takeI A fl≠at_/\takeI A fl≠kidA A at_ i:=by
  constructor <;> intro e
  · have h1:=ht.cnt at_ s1
    rw [if_pos e] at h1;have h2:0<fl.count at_:=(by omega);exact (al at_ (List.count_pos_iff.1 h2)).2.1 rfl
  have h1:=ht.cnt (kidA A at_ i) s6
  rw [if_pos e] at h1;have h2:0<fl.count (kidA A at_ i):=(by omega);exact (al _ (List.count_pos_iff.1 h2)).2.2.1 rfl
 have ad:splitA A fl at_ i=(((takeA A fl).set (takeI A fl) ⟨(ndA A (kidA A at_ i)).pairs.drop 5,(ndA A (kidA A at_ i)).kids.drop 5⟩).set (kidA A at_ i) ⟨(ndA A (kidA A at_ i)).pairs.take 4,(ndA A (kidA A at_ i)).kids.take 5⟩).set at_
  ⟨(ndA A at_).pairs.take i++(ndA A (kidA A at_ i)).pairs.getD 4 default :: (ndA A at_).pairs.drop i,(ndA A at_).kids.take (i+1)++takeI A fl :: (ndA A at_).kids.drop (i+1)⟩:=rfl
 have cD:=H_ h;have e9:=H_ aL;obtain ⟨nv,fv,Z,hR,hZ,hF⟩:=h;subst hZ;have c0:=hR.obj.cell 0 rfl;obtain ⟨za,aY,c1⟩:=zdb s1;obtain ⟨a,cap,rfl,fN,fC,ha⟩:=hR.nodes.shape;have eP:at_<Z.length:=by rw [zaw] at s1;exact s1
 obtain ⟨nb,no,rfl⟩:=ha (by omega);have n1:=hR.nodes.cell zbt at_ 1 aY rfl;have a9:=hR.kids at_ za aY;obtain ⟨ka,cI,bQ,eE,eF,dw⟩:=a9.shape;rw [c1] at s3 s5;have fq:i<za.nd.kids.length:=(List.getElem?_eq_some_iff.1 s5).1;obtain ⟨kb,ko,rfl⟩:=dw (by omega);rw [bQ] at a9;have k0:=a9.cell1 zah i s5 rfl;have eW:=cD;have cr:∀ x,nzC za=x->True:=fun _ _=>trivial;have fB:w.cell? ⟨nb,no+at_ * 2+1,none⟩=some (.slice (some ⟨kb,ko,none⟩) za.nd.kids.length cI):=by rw [<-bQ];exact n1
 have c5:=H_ s5;have cL:=H_ c1;have ed:=H_ ad;have a7:=H_ cE;have dQ:=H_ ht;have fp:=H_ hF;have dS:=H_ s8;have dO:=H_ s9;have f1:=H_ al;have fS:=H_ hR;have fI:=H_ aY;have ep:(ndsZ Z).length<=109951162:=hA;rw [zaw] at ep;have fW:(at_:Int)<(Z.length:Int):=by omega
 have fj:(i:Int)<(za.nd.kids.length:Int):=by omega
 have fR:=H_ k0;generalize bH:kidA (ndsZ Z) at_ i=kid at *;generalize bh:takeI (ndsZ Z) fl=r at *;have ez:=H_ bH;have fF:=H_ bh;have dE:at_<(takeA (ndsZ Z) fl).length:=by have:=ht.len;omega
 have eo:kid<(takeA (ndsZ Z) fl).length:=by have:=ht.len;omega
 have dP:r<(takeA (ndsZ Z) fl).length:=by have:=ht.lt;rwa [bh] at this
 have ct:(takeA (ndsZ Z) fl).length<=109951163:=by unfold takeA;rw [zaw] at hA;split <;> simp [zaw] <;> omega
 have o1:=ht.old at_ s1;have o2:=ht.old kid s6;have o3:=ht.new;rw [bh] at o3;have O1:=H_ o1;have O2:=H_ o2;have O3:=H_ o3;have dH:=H_ ct;clear hR hF ha dw a9 aY c1 s5 ad cE ht aL s8 s9 al bQ n1 cr bH bh o1 o2 o3 ct;go_enter Tryz.func156,Tryz.ntmps156
 go_wp2_with (first
  | (go_at_call 155;refine (e9.out _ cD.out).mono ?_;rintro e w1 ⟨rfl,F1,eh,cu,cA⟩
     obtain ⟨fA,q,u,K,aW,cP⟩:=eh;obtain ⟨g,am,bU⟩:=zbk aW eo;have fm:u.length<=109951163:=(by rw [<-zaw,aW];exact dH.out);have fH:kid<u.length:=(List.getElem?_eq_some_iff.1 am).1;obtain ⟨d,j,l,rfl,dY⟩:=K.headLen (by omega);obtain ⟨k1,k2,k3,k4⟩:=K.look kid g am;have ca:g.nd.pairs.length=9:=(by rw [bU,O2.out];exact dS.out);obtain ⟨pa,v,cc,bJ,eN,dk⟩:=(K.pairs kid g am).shape;obtain ⟨pb,po,rfl⟩:=dk (by omega);have ax:=K.pairs kid g am;rw [cc] at ax k1;obtain ⟨k,J⟩:∃ k,g.nd.pairs[4]?=some k:=⟨_,List.getElem?_eq_getElem (by omega)⟩;have x0:=ax.cell0 zag 4 J rfl;have x1:=ax.cell zag 4 1 J rfl;rw [ca] at ax k1;simp only [Nat.reduceMul] at x0 x1;have fX:(kid:Int)<(u.length:Int):=(by omega);have d0:=K.obj.cell 0 rfl
     have ey:t<w1.heap.size:=K.obj.lt;have ab:d<w1.heap.size:=K.nodes.lt d rfl;have eB:pb<w1.heap.size:=World.block_lt_of_cell? _ _ x0;have bW:=H_ K;have c8:=H_ aW;have bf:=H_ cP;have bV:=H_ am;have d1:=H_ bU;have G:=H_ ca;have c4:=H_ cc;have HM:=H_ J;have bt:=H_ cu;have aZ:=H_ cA;have fo:=H_ k2;clear K aW cP am bU ca cc J cu cA dk ax k2 k3 k4))
 have R:Fr No w1 (w1.alloc (Obj.cells #[.string k.1,.int .i64 k.2] 122)):=(Fr.refl No w1).alloc _;have hm:=zad w1 (Obj.cells #[.string k.1,.int .i64 k.2] 122) _ rfl;generalize w1.alloc (Obj.cells #[.string k.1,.int .i64 k.2] 122)=W2 at R hm ⊢
 have ba:=R.cell0 d0;have b8:=R.cell0 k1;have bg:=bW.out.fr0 R;obtain ⟨zr,bc,dv⟩:=zbk c8.out dP;have e8:r<u.length:=(List.getElem?_eq_some_iff.1 bc).1;have dX:(r:Int)<(u.length:Int):=by omega
 obtain ⟨r1,r2,r3,r4⟩:=bg.look r zr bc;have aD:SlF W2 122 2 pairC (.slice (some ⟨pb,po,none⟩) 9 v) g.nd.pairs:=by have:=bg.pairs kid g bV.out;rwa [c4.out,G.out] at this
 have bx:SlF W2 122 2 pairC (.slice (some ⟨pb,po+10,none⟩) 4 (v-5)) (g.nd.pairs.drop 5):=by
  have:=SlF.drop zag (L:=g.nd.pairs) (by rw [G.out];exact aD) 5 (by rw [G.out];omega);rw [G.out] at this;exact this
 have fQ:9<=v:=by rw [<-G.out];exact bJ
 have g2:¬ v=5:=by omega
 have cs:(g.nd.pairs.drop 5).length=4:=by rw [List.length_drop,G.out]
 have dn:=H_ bx;have f5:=H_ aD;have dN:=H_ bg;have bX:=H_ bc;have dR:=H_ dv;have ej:=H_ hm;have cR:=H_ R;have ek:=H_ cs;have eH:t<W2.heap.size:=by have:=R.size;omega
 have f9:d<W2.heap.size:=by have:=R.size;omega
 have fg:(5:Int)<=(v:Int):=by omega
 clear bg aD bx bc dv hm R d0 k1 x0 x1 cs bJ;have cB:t≠d:=fun e=>bW.out.a1.1 (by rw [e];rfl);have dm:j+r * 2≠j+kid * 2:=by have:=a7.out.2;omega
 go_region_held3 (fun W=>W.cell? ⟨t,0,none⟩=some (.slice (some ⟨d,j,none⟩) u.length l)/\W.cell? ⟨d,j+kid * 2,none⟩=some (.slice (some ⟨pb,po,none⟩) 9 v))
  (first | exact ⟨ba,b8⟩ | exact ⟨U.cell0 ba,U.cell0 b8⟩ | exact ⟨zhj (U.cell0 ba) (.inl cB.symm) _,zhj (U.cell0 b8) (.inr dm) _⟩)
  (first | (go_at_call 175;refine (zni _ _ _ 4 ek.out (dn.out.fr0 (Fr.refl No W2).drew) (by omega)).mono ?_;rintro e w3 ⟨g3,rfl,cC,U,er⟩
            have y1:=U.cell0 r1;have y2:=U.free0 r1 r3;have di:=H_ cC;clear cC))
 have aM:Fr No W2 w3:=(Fr.refl No W2).drew.trans0 U
 obtain ⟨y,z,Q⟩:=dN.out.setPairs (w1:=w3) (pv':=.slice (some ⟨g3,0,none⟩) 4 4) (P':=g.nd.pairs.drop 5) r zr bX.out (aM.mono fun _ _ s=>s.elim) di.out fun b e=>by
  obtain rfl:g3=b:=by simpa [Value.ownBlock] using e
  exact .inr er
 have bT:(w3.setCell ⟨d,j+r * 2,none⟩ (.slice (some ⟨g3,0,none⟩) 4 4)).heap[w1.heap.size]?=some (.cells #[.string k.1,.int .i64 k.2] 122 (0,0)):=by
  have h1:=aM.heap ej.out id;have h2:d<w1.heap.size:=ab;exact (Below.heap_setCell w3 _ _ _ (by show w1.heap.size≠d;omega)).trans h1
 have cJ:W2.heap.size<=(w3.setCell ⟨d,j+r * 2,none⟩ (.slice (some ⟨g3,0,none⟩) 4 4)).heap.size:=z.size;generalize w3.setCell ⟨d,j+r * 2,none⟩ (.slice (some ⟨g3,0,none⟩) 4 4)=W4 at y z bT cJ ⊢
 have X:(u.set r ⟨⟨g.nd.pairs.drop 5,zr.nd.kids⟩,.slice (some ⟨g3,0,none⟩) 4 4,zr.kv⟩)[kid]?=some g:=by rw [List.getElem?_set_ne a7.out.2];exact bV.out
 generalize bY:u.set r ⟨⟨g.nd.pairs.drop 5,zr.nd.kids⟩,.slice (some ⟨g3,0,none⟩) 4 4,zr.kv⟩=Z2 at y X;have aw:Z2.length=u.length:=by rw [<-bY];simp
 have m:TreeR W4 t (.slice (some ⟨d,j,none⟩) Z2.length l) q Z2 fl.dropLast root many:=by rw [aw];exact y
 obtain ⟨u1,u2,u3,u4⟩:=m.look kid g X;rw [c4.out,G.out] at u1;have bw:SlF W4 122 2 pairC (.slice (some ⟨pb,po,none⟩) 9 v) g.nd.pairs:=by have:=m.pairs kid g X;rwa [c4.out,G.out] at this
 have bM:SlF W4 122 2 pairC (.slice (some ⟨pb,po,none⟩) 4 v) (g.nd.pairs.take 4):=SlF.take zag (by rw [G.out];exact bw) 4 (by rw [G.out];omega);have bs:(g.nd.pairs.take 4).length=4:=by rw [List.length_take,G.out];rfl
 have dL:=H_ m;have eb:=H_ z;have dT:=H_ Q;have cW:=H_ bM;have cT:=H_ bs;have bp:=H_ X;have bb:=H_ bY;have aj:=H_ aw;have e6:=H_ bT;have ew:t<W4.heap.size:=by omega
 have eJ:d<W4.heap.size:=by omega
 have fz:(4:Int)<=(v:Int):=by omega
 clear y m z Q bw bM bs X bY aw bT y1 y2 di U aM ba b8 r1 r2 r3 r4 u2 u4
 go_upto_region 6 with (first
  | (go_at_call 175;refine (zni _ _ _ 4 cT.out cW.out (by omega)).mono ?_;rintro e w5 ⟨g5,rfl,cY,ap,ef⟩
     have y1:=ap.cell0 u1;have y2:=ap.free0 u1 u3;have c5:=H_ cY;clear cY))
 obtain ⟨y,z,Q⟩:=dL.out.setPairs (w1:=w5) (pv':=.slice (some ⟨g5,0,none⟩) 4 4) (P':=g.nd.pairs.take 4) kid g bp.out (ap.mono fun _ _ s=>s.elim) c5.out fun b e=>by
  obtain rfl:g5=b:=by simpa [Value.ownBlock] using e
  exact .inr ef
 have c9:(w5.setCell ⟨d,j+kid * 2,none⟩ (.slice (some ⟨g5,0,none⟩) 4 4)).heap[w1.heap.size]?=some (.cells #[.string k.1,.int .i64 k.2] 122 (0,0)):=by
  have h1:=ap.heap e6.out id;have h2:d<w1.heap.size:=ab;exact (Below.heap_setCell w5 _ _ _ (by show w1.heap.size≠d;omega)).trans h1
 have dr:W4.heap.size<=(w5.setCell ⟨d,j+kid * 2,none⟩ (.slice (some ⟨g5,0,none⟩) 4 4)).heap.size:=z.size;generalize w5.setCell ⟨d,j+kid * 2,none⟩ (.slice (some ⟨g5,0,none⟩) 4 4)=W6 at y z c9 dr ⊢
 have d5:kid<Z2.length:=by have:=aj.out;omega
 have V:(Z2.set kid ⟨⟨g.nd.pairs.take 4,g.nd.kids⟩,.slice (some ⟨g5,0,none⟩) 4 4,g.kv⟩)[kid]?=some ⟨⟨g.nd.pairs.take 4,g.nd.kids⟩,.slice (some ⟨g5,0,none⟩) 4 4,g.kv⟩:=List.getElem?_set_self d5
 have ae:(Z2.set kid ⟨⟨g.nd.pairs.take 4,g.nd.kids⟩,.slice (some ⟨g5,0,none⟩) 4 4,g.kv⟩)[r]?=some ⟨⟨g.nd.pairs.drop 5,zr.nd.kids⟩,.slice (some ⟨g3,0,none⟩) 4 4,zr.kv⟩:=by
  rw [List.getElem?_set_ne (Ne.symm a7.out.2),<-bb.out];exact List.getElem?_set_self e8
 have aq:ndsZ (Z2.set kid ⟨⟨g.nd.pairs.take 4,g.nd.kids⟩,.slice (some ⟨g5,0,none⟩) 4 4,g.kv⟩)=((takeA (ndsZ Z) fl).set r ⟨g.nd.pairs.drop 5,zr.nd.kids⟩).set kid ⟨g.nd.pairs.take 4,g.nd.kids⟩:=by
  rw [zay,<-bb.out,zay,c8.out]
 have aF:(Z2.set kid ⟨⟨g.nd.pairs.take 4,g.nd.kids⟩,.slice (some ⟨g5,0,none⟩) 4 4,g.kv⟩)[at_]?=u[at_]?:=by
  rw [List.getElem?_set_ne s7,<-bb.out,List.getElem?_set_ne a7.out.1]
 generalize c7:Z2.set kid ⟨⟨g.nd.pairs.take 4,g.nd.kids⟩,.slice (some ⟨g5,0,none⟩) 4 4,g.kv⟩=Z6 at y V ae aq aF;have ak:Z6.length=u.length:=by rw [<-c7,List.length_set];exact aj.out
 have m:TreeR W6 t (.slice (some ⟨d,j,none⟩) Z6.length l) q Z6 fl.dropLast root many:=by rw [ak];rw [aj.out] at y;exact y
 obtain ⟨dU,u2,ee,u4⟩:=m.look kid _ V;obtain ⟨v1,v2,v3,v4⟩:=m.look r _ ae;obtain ⟨ka,o,ag,cQ,f2,az⟩:=(m.kids kid _ V).shape;dsimp only at dU u2 ee u4 v1 v2 v3 v4 ag cQ az;rw [ag] at u2;have d6:=m.obj.cell 0 rfl
 have aI:Fr (treeF t (.slice (some ⟨d,j,none⟩) u.length l) q u) w1 W6:=by
  refine ((cR.out.mono fun _ _ s=>s.elim).trans eb.out fun b O e=>?_).trans z fun b O e=>?_
  · rcases e with rfl | e
    · exact .inr (.inl rfl)
    exact .inr (.inr (.inr ⟨r,zr,bX.out,.inl e⟩))
  rcases e with rfl | e
  · exact .inr (.inl rfl)
  exact .inr (.inr (.inr ⟨kid,g,bV.out,.inl e⟩))
 have aa:∀ b,treeF t (.slice (some ⟨d,j,none⟩) Z6.length l) q Z6 b->treeF t (.slice (some ⟨d,j,none⟩) u.length l) q u b\/w1.heap.size<=b:=by
  intro b O;rw [<-c7,List.length_set,aj.out] at O;have fs:w1.heap.size<=W2.heap.size:=cR.out.size;rcases zbf bp.out Q b O with e | e
  · rw [<-bb.out] at e
    rcases zbf bX.out dT.out b e with e | e
    · exact .inl e
    exact .inr (by omega)
  exact .inr (by omega)
 have bm:=H_ aF;have c3:=H_ m;have aO:=H_ V;have aA:=H_ ae;have bo:=H_ aq;have bv:=H_ ak;have d4:=H_ c9;have aE:=H_ ag;have cy:=H_ az;have a0:=H_ aI;have D:=H_ aa;have eK:t<W6.heap.size:=by omega
 have f6:d<W6.heap.size:=by omega
 have eY:(r:Int)<(u.length:Int):=dX;rw [ak] at d6;clear aF y m z Q V ae aq c7 ak c9 ag az y1 y2 c5 ap u1 u3 aI aa v1 v3;go_upto_if 63 with fail
 go_cut [64] (fun _ wx=>∃ C:List Nz,Hid (TreeR wx t (.slice (some ⟨d,j,none⟩) C.length l) q C fl.dropLast root many)/\Hid (C.length=u.length) ∧
  Hid (ndsZ C=((takeA (ndsZ Z) fl).set r ⟨g.nd.pairs.drop 5,g.nd.kids.drop 5⟩).set kid ⟨g.nd.pairs.take 4,g.nd.kids.take 5⟩)/\Hid (wx.heap[w1.heap.size]?=some (.cells #[.string k.1,.int .i64 k.2] 122 (0,0))) ∧
  Hid (Fr (treeF t (.slice (some ⟨d,j,none⟩) u.length l) q u) w1 wx)/\Hid (∀ b,treeF t (.slice (some ⟨d,j,none⟩) C.length l) q C b->treeF t (.slice (some ⟨d,j,none⟩) u.length l) q u b\/w1.heap.size<=b)/\Hid (C[at_]?=u[at_]?))
 case first =>
  have H:g.nd=ndA (ndsZ Z) kid:=d1.out.trans O2.out;have b3:zr.nd.kids = []:=(by rw [dR.out,O3.out];rfl);rcases dO.out with a9 | bK
  · have aQ:g.nd.kids = []:=by rw [H];exact a9
    have cM:=H_ aQ;have dg:=H_ b3;have e1:g.nd.kids.length=0:=(by rw [aQ];rfl);have hz:¬ (0:Int)<(g.nd.kids.length:Int):=(by omega);clear a9 aQ H b3 e1;go_wp2;go_meet
    case rel =>
     refine ⟨Z6,c3.out,bv.out,H_ ?_,d4.out,a0.out,D.out,bm.out⟩;rw [bo.out,dg.out,cM.out]
     rfl
  have n:g.nd.kids.length=10:=by rw [H];exact bK
  obtain ⟨cb,co,rfl⟩:=cy.out (by omega)
  have b9:SlF W6 3 1 nat1 (.slice (some ⟨cb,co,none⟩) 10 o) g.nd.kids:=by
   have:=c3.out.kids kid _ aO.out;dsimp only at this
   rwa [aE.out,n] at this
  have bL:SlF W6 3 1 nat1 (.slice (some ⟨cb,co+5,none⟩) 5 (o-5)) (g.nd.kids.drop 5):=by
   have:=SlF.drop zah (L:=g.nd.kids) (by rw [n];exact b9) 5 (by omega);rw [n] at this;exact this
  have bz:SlF W6 3 1 nat1 (.slice (some ⟨cb,co,none⟩) 5 o) (g.nd.kids.take 5):=SlF.take zah (by rw [n];exact b9) 5 (by omega);have cG:(g.nd.kids.drop 5).length=5:=(by rw [List.length_drop,n]);have bF:(g.nd.kids.take 5).length=5:=(by rw [List.length_take,n];rfl);rw [n] at u2;have fP:10<=o:=(by omega);have f3:¬ o=5:=(by omega);have ff:(5:Int)<=(o:Int):=(by omega);have hz:(0:Int)<(g.nd.kids.length:Int):=(by omega);have d2:=H_ bL;have eO:=H_ bz;have dJ:=H_ cG;have cz:=H_ bF;have dg:=H_ b3;have fh:=H_ b9;have bl:=H_ n;clear b9 bL bz cG bF H bK n b3;go_upto_region 7 with fail
  go_region_held3 (fun W=>W.cell? ⟨t,0,none⟩=some (.slice (some ⟨d,j,none⟩) u.length l)/\W.cell? ⟨d,j+kid * 2+1,none⟩=some (.slice (some ⟨cb,co,none⟩) 10 o))
   (first | exact ⟨d6,u2⟩ | exact ⟨S.cell0 d6,S.cell0 u2⟩ | exact ⟨zhj (S.cell0 d6) (.inl cB.symm) _,zhj (S.cell0 u2) (.inr (by omega)) _⟩)
   (first | (go_at_call 176;refine (zrb _ _ _ 5 dJ.out (d2.out.fr0 (Fr.refl No W6).drew) (by omega)).mono ?_;rintro e w7 ⟨g7,rfl,cU,S,eg⟩
             have y1:=S.cell0 v2;have y2:=S.free0 v2 v4;have dh:=H_ cU;clear cU))
  have aN:Fr No W6 w7:=(Fr.refl No W6).drew.trans0 S
  obtain ⟨y,z,Q⟩:=c3.out.setKids (w1:=w7) (kv':=.slice (some ⟨g7,0,none⟩) 5 5) (K':=g.nd.kids.drop 5) r _ aA.out (aN.mono fun _ _ s=>s.elim) dh.out fun b e=>by
   obtain rfl:g7=b:=by simpa [Value.ownBlock] using e
   exact .inr eg
  have cf:(w7.setCell ⟨d,j+r * 2+1,none⟩ (.slice (some ⟨g7,0,none⟩) 5 5)).heap[w1.heap.size]?=some (.cells #[.string k.1,.int .i64 k.2] 122 (0,0)):=by
   have h1:=aN.heap d4.out id;have h2:d<w1.heap.size:=ab;exact (Below.heap_setCell w7 _ _ _ (by show w1.heap.size≠d;omega)).trans h1
  have bI:W6.heap.size<=(w7.setCell ⟨d,j+r * 2+1,none⟩ (.slice (some ⟨g7,0,none⟩) 5 5)).heap.size:=z.size;generalize w7.setCell ⟨d,j+r * 2+1,none⟩ (.slice (some ⟨g7,0,none⟩) 5 5)=W8 at y z cf bI ⊢
  dsimp only at y z Q;have T:(Z6.set r ⟨⟨g.nd.pairs.drop 5,g.nd.kids.drop 5⟩,.slice (some ⟨g3,0,none⟩) 4 4,.slice (some ⟨g7,0,none⟩) 5 5⟩)[kid]?=some ⟨⟨g.nd.pairs.take 4,g.nd.kids⟩,.slice (some ⟨g5,0,none⟩) 4 4,g.kv⟩:=(by rw [List.getElem?_set_ne a7.out.2];exact aO.out);have p:ndsZ (Z6.set r ⟨⟨g.nd.pairs.drop 5,g.nd.kids.drop 5⟩,.slice (some ⟨g3,0,none⟩) 4 4,.slice (some ⟨g7,0,none⟩) 5 5⟩)=(((takeA (ndsZ Z) fl).set r ⟨g.nd.pairs.drop 5,zr.nd.kids⟩).set kid ⟨g.nd.pairs.take 4,g.nd.kids⟩).set r ⟨g.nd.pairs.drop 5,g.nd.kids.drop 5⟩:=(by rw [zay,bo.out]);generalize ce:Z6.set r ⟨⟨g.nd.pairs.drop 5,g.nd.kids.drop 5⟩,.slice (some ⟨g3,0,none⟩) 4 4,.slice (some ⟨g7,0,none⟩) 5 5⟩=C at y T p;have aB:C.length=Z6.length:=(by rw [<-ce,List.length_set])
  have m:TreeR W8 t (.slice (some ⟨d,j,none⟩) C.length l) q C fl.dropLast root many:=(by rw [aB];exact y);obtain ⟨_,a2,_,a4⟩:=m.look kid _ T;dsimp only at a2;rw [aE.out,bl.out] at a2
  have bO:SlF W8 3 1 nat1 (.slice (some ⟨cb,co,none⟩) 5 o) (g.nd.kids.take 5):=by
   have:=m.kids kid _ T;dsimp only at this;rw [aE.out] at this;exact SlF.take zah this 5 (by rw [bl.out];omega)
  have et:=H_ m;have cK:=H_ z;have d7:=H_ Q;have br:=H_ T;have dq:=H_ p;have dy:=H_ ce;have cV:=H_ aB;have au:=H_ cf;have dd:=H_ bO;have fe:d<W8.heap.size:=(by omega);clear y m z Q T p ce aB cf bO y1 y2 dh S aN d6 u2 v2 v4
  go_wp2_with (first
   | (go_at_call 176;refine (zrb _ _ _ 5 cz.out dd.out (by omega)).mono ?_;rintro e w9 ⟨g9,rfl,dx,b4,e3⟩
      have y1:=b4.cell0 a2;have y2:=b4.free0 a2 a4;have dp:=H_ dx;clear dx))
  obtain ⟨y,z,Q⟩:=et.out.setKids (w1:=w9) (kv':=.slice (some ⟨g9,0,none⟩) 5 5) (K':=g.nd.kids.take 5) kid _ br.out (b4.mono fun _ _ s=>s.elim) dp.out fun b e=>by
   obtain rfl:g9=b:=by simpa [Value.ownBlock] using e
   exact .inr e3
  dsimp only at y z Q
  have ar:(w9.setCell ⟨d,j+kid * 2+1,none⟩ (.slice (some ⟨g9,0,none⟩) 5 5)).heap[w1.heap.size]?=some (.cells #[.string k.1,.int .i64 k.2] 122 (0,0)):=by
   have h1:=b4.heap au.out id;have h2:d<w1.heap.size:=ab;exact (Below.heap_setCell w9 _ _ _ (by show w1.heap.size≠d;omega)).trans h1
  have bj:=H_ y;have aJ:=H_ z;have cd:=H_ Q;have bD:=H_ ar;generalize w9.setCell ⟨d,j+kid * 2+1,none⟩ (.slice (some ⟨g9,0,none⟩) 5 5)=fV at y z bj aJ bD ar ⊢
  clear y z Q ar;go_meet
  case rel =>
   have cO:=cV.out;have aH:(C.set kid ⟨⟨g.nd.pairs.take 4,g.nd.kids.take 5⟩,.slice (some ⟨g5,0,none⟩) 4 4,.slice (some ⟨g9,0,none⟩) 5 5⟩).length=C.length:=(by simp);refine ⟨C.set kid ⟨⟨g.nd.pairs.take 4,g.nd.kids.take 5⟩,.slice (some ⟨g5,0,none⟩) 4 4,.slice (some ⟨g9,0,none⟩) 5 5⟩,H_ (by rw [aH];exact bj.out),H_ (by rw [aH,cO];exact bv.out),H_ ?_,bD,H_ ?_,H_ ?_,H_ (by rw [List.getElem?_set_ne s7,<-dy.out,List.getElem?_set_ne a7.out.1];exact bm.out)⟩
   · rw [zay,dq.out]
     rw [List.set_comm _ _ a7.out.2.symm,List.set_set,List.set_set]
   · refine (a0.out.trans cK.out fun b O e=>?_).trans aJ.out fun b O e=>?_
     · rcases e with rfl | e
       · exact .inr (.inl rfl)
       rcases D.out b (.inr (.inr (.inr ⟨r,_,aA.out,.inr e⟩))) with e | e
       · exact e
       omega
     rcases e with rfl | e
     · exact .inr (.inl rfl)
     rcases D.out b (.inr (.inr (.inr ⟨kid,_,aO.out,.inr e⟩))) with e | e
     · exact e
     omega
   intro b O
   rw [aH] at O;have fY:=a0.out.size;rcases zbf br.out cd.out b O with e | e
   · rw [<-dy.out,List.length_set] at e
     rcases zbf aA.out d7.out b e with e | e
     · exact D.out b e
     exact .inr (by omega)
   exact .inr (by omega)
 case rest =>
  obtain ⟨C,H8,dj,dV,au,ah,de,du⟩:=hcut;obtain ⟨c,Y,bi⟩:=zbk c8.out dE;have B:C[at_]?=some c:=du.out.trans Y;have p:c.nd=ndA (ndsZ Z) at_:=bi.trans O1.out;have en:at_<u.length:=(List.getElem?_eq_some_iff.1 Y).1;obtain ⟨a1,a2,a3,a4⟩:=H8.out.look at_ _ B;have d8:=H8.out.obj.cell 0 rfl;rw [dj.out] at d8;have b0:wc.cell? ⟨w1.heap.size,0,none⟩=some (.string k.1):=(by simp [World.cell?,au.out]);have b1:wc.cell? ⟨w1.heap.size,1,none⟩=some (.int .i64 k.2):=(by simp [World.cell?,au.out]);have av:∀ b,zown c b->b<w1.heap.size:=fun b O=>bW.out.zlt Y O;have da:¬ c.pv.ownBlock=some d:=fun e=>(H8.out.a2 at_ _ d B (.inl e)).2.1 rfl;have H:¬ c.kv.ownBlock=some d:=fun e=>(H8.out.a2 at_ _ d B (.inr e)).2.1 rfl
  have db:∀ b,c.pv.ownBlock=some b->c.kv.ownBlock≠some b:=fun b=>H8.out.a3 at_ c b B;have fE:¬ c.pv.ownBlock=some w1.heap.size:=fun e=>by have:=av _ (.inl e);omega
  have dl:=H8.out.pairs at_ _ B;have cx:=H8.out.kids at_ _ B;have dI:i<=c.nd.pairs.length:=(by rw [p];exact s4);have fU:c.nd.pairs.length<=9:=(by rw [p];exact s2);have eI:c.nd.kids.length<=10:=(by rw [p,cL.out];exact s3);have ec:i+1<=c.nd.kids.length:=(by rw [p,cL.out];omega);have eM:t<wc.heap.size:=(by have:=ah.out.size;omega);have eC:d<wc.heap.size:=(by have:=ah.out.size;omega);have eL:w1.heap.size<wc.heap.size:=zaa au.out;have eZ:(at_:Int)<(u.length:Int):=(by omega);have dG:=H_ dl;have fi:=H_ cx;have cv:=H_ B;have e0:=H_ p;have f0:=H_ av;have fu:=H_ db;have bN:=H_ Y;clear dl cx B p av db Y bi;go_upto_region 10 with fail
  go_region_law (go_simp;go_at_call 158;refine (zel _ _ _ i k (dG.out.drew) dI (by omega)).mono ?_;rintro e b5 ⟨I,N,M,rfl,bn,ai,bE⟩
                 have y1:=ai.cell a1 da;have y2:=ai.free a1 a3 da;have cw:=H_ bn;have ds:=H_ bE;clear bn bE)
  all_goals
   have ay:Fr (fun b=>c.pv.ownBlock=some b) wc b5:=(Fr.refl _ wc).drew.trans ai fun _ _ e=>e
   have bd:∀ b,(Value.slice (some ⟨I,N,none⟩) (c.nd.pairs.length+1) M).ownBlock=some b->c.pv.ownBlock=some b\/wc.heap.size<=b:=fun b e=>by
    obtain rfl:I=b:=by simpa [Value.ownBlock] using e
    exact ds.out
   obtain ⟨y,z,Q⟩:=H8.out.setPairs (w1:=b5) (pv':=.slice (some ⟨I,N,none⟩) (c.nd.pairs.length+1) M) (P':=c.nd.pairs.take i++k :: c.nd.pairs.drop i) at_ c cv.out ay cw.out bd;have c6:wc.heap.size<=(b5.setCell ⟨d,j+at_ * 2,none⟩ (.slice (some ⟨I,N,none⟩) (c.nd.pairs.length+1) M)).heap.size:=z.size;generalize b5.setCell ⟨d,j+at_ * 2,none⟩ (.slice (some ⟨I,N,none⟩) (c.nd.pairs.length+1) M)=ci at y z c6 ⊢
   have dt:at_<C.length:=(by have:=dj.out;omega);have E:(C.set at_ ⟨⟨c.nd.pairs.take i++k :: c.nd.pairs.drop i,c.nd.kids⟩,.slice (some ⟨I,N,none⟩) (c.nd.pairs.length+1) M,c.kv⟩)[at_]?=some ⟨⟨c.nd.pairs.take i++k :: c.nd.pairs.drop i,c.nd.kids⟩,.slice (some ⟨I,N,none⟩) (c.nd.pairs.length+1) M,c.kv⟩:=List.getElem?_set_self dt;have a5:ndsZ (C.set at_ ⟨⟨c.nd.pairs.take i++k :: c.nd.pairs.drop i,c.nd.kids⟩,.slice (some ⟨I,N,none⟩) (c.nd.pairs.length+1) M,c.kv⟩)=(ndsZ C).set at_ ⟨c.nd.pairs.take i++k :: c.nd.pairs.drop i,c.nd.kids⟩:=(by rw [zay]);have P:=zbf (t:=t) (nv:=.slice (some ⟨d,j,none⟩) C.length l) (fv:=q) cv.out Q
   generalize bk:C.set at_ ⟨⟨c.nd.pairs.take i++k :: c.nd.pairs.drop i,c.nd.kids⟩,.slice (some ⟨I,N,none⟩) (c.nd.pairs.length+1) M,c.kv⟩=aX at y E a5 P;have a6:aX.length=C.length:=(by rw [<-bk,List.length_set]);have m:TreeR ci t (.slice (some ⟨d,j,none⟩) aX.length l) q aX fl.dropLast root many:=(by rw [a6];exact y);obtain ⟨_,e2,_,e4⟩:=m.look at_ _ E;have a8:=m.kids at_ _ E;dsimp only at e2 e4 a8;have d9:=H_ m;have bZ:=H_ z;have cj:=H_ P;have aC:=H_ E;have bP:=H_ a5;have ch:=H_ a6;have cg:=H_ a8;have eu:d<ci.heap.size:=(by omega);clear y m z Q P E a5 bk a6 a8 ai ay bd y1 y2 a1 a2 a3 a4 b0 b1 d8
   go_wp2_with (first
    | (go_at_call 177;refine (zhy _ _ _ (i+1) r cg.out ec (by omega)).mono ?_;rintro e ei ⟨aT,bS,c2,rfl,bq,aK,bC⟩
       have y1:=aK.cell e2 H;have y2:=aK.free e2 e4 H;have cH:=H_ bq;have df:=H_ bC;clear bq bC))
   refine bodyPost_end (results_none rfl _ _ _) rfl ⟨rfl,?_⟩
   have bd:∀ b,(Value.slice (some ⟨aT,bS,none⟩) (c.nd.kids.length+1) c2).ownBlock=some b->c.kv.ownBlock=some b\/ci.heap.size<=b:=fun b e=>by
    obtain rfl:aT=b:=by simpa [Value.ownBlock] using e
    exact df.out
   obtain ⟨y,z,Q⟩:=d9.out.setKids (w1:=ei) (kv':=.slice (some ⟨aT,bS,none⟩) (c.nd.kids.length+1) c2) (K':=c.nd.kids.take (i+1)++r :: c.nd.kids.drop (i+1)) at_ _ aC.out aK cH.out bd;dsimp only at y z Q;have H:g.nd=ndA (ndsZ Z) kid:=d1.out.trans O2.out
   have dZ:splitA (ndsZ Z) fl at_ i=ndsZ (aX.set at_ ⟨⟨c.nd.pairs.take i++k :: c.nd.pairs.drop i,c.nd.kids.take (i+1)++r :: c.nd.kids.drop (i+1)⟩,.slice (some ⟨I,N,none⟩) (c.nd.pairs.length+1) M,.slice (some ⟨aT,bS,none⟩) (c.nd.kids.length+1) c2⟩):=by
    have J:(ndA (ndsZ Z) kid).pairs.getD 4 default=k:=(by rw [<-H];simp [List.getD,HM.out]);rw [ed.out,J,zay,bP.out,dV.out,<-H,<-e0.out,List.set_set]
   have eG:=bt.out.size;have bI:=ah.out.size;refine ⟨_,⟨_,_,_,y,dZ.symm,fun b=>Iff.rfl⟩,((bt.out.trans ah.out fun b O e=>?_).trans bZ.out fun b O e=>?_).trans z fun b O e=>?_,fun b O=>?_⟩
   · rcases aZ.out b ((bf.out b).2 e) with e | e
     · exact e
     omega
   · have e':treeF t (.slice (some ⟨d,j,none⟩) u.length l) q u b:=by
      rcases e with rfl | e
      · exact .inr (.inl rfl)
      exact .inr (.inr (.inr ⟨at_,c,bN.out,.inl e⟩))
     rcases aZ.out b ((bf.out b).2 e') with e | e
     · exact e
     omega
   · have e':treeF t (.slice (some ⟨d,j,none⟩) u.length l) q u b:=by
      rcases e with rfl | e
      · exact .inr (.inl rfl)
      exact .inr (.inr (.inr ⟨at_,c,bN.out,.inr e⟩))
     rcases aZ.out b ((bf.out b).2 e') with e | e
     · exact e
     omega
   rw [ch.out] at O
   have key:∀ b,treeF t (.slice (some ⟨d,j,none⟩) C.length l) q C b->F b\/w.heap.size<=b:=by
    intro b O;rcases de.out b O with e | e
    · exact aZ.out b ((bf.out b).2 e)
    exact .inr (by omega)
   rcases zbf aC.out Q b O with e | e
   · rcases cj.out b e with e | e
     · exact key b e
     exact .inr (by omega)
   exact .inr (by omega)
end Go.Proofs.YthljnnjpmdgkoaaGreat