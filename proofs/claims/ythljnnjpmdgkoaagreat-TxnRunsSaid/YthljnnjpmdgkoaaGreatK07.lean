/- Own lemmas. -/
import Derived.Test.YthljnnjpmdgkoaaGreatK06
import Derived.Test.YthljnnjpmdgkoaaGreatK05
import Derived.Laws.Rows
namespace Go.Proofs.YthljnnjpmdgkoaaGreat
open Go Go.Proofs Go.RowKit
set_option maxRecDepth 100000
theorem spotZ {w:World} {t:Nat} {nv fv:Value} {Z:List Nz} {fl:List Nat} {root:Nat} {many:Int} (h:TreeR w t nv fv Z fl root many) (at_:Nat) (z:Nz) (hz:Z[at_]?=some z) (h9:z.nd.pairs.length<=9) (hZ:Z.length<=1099511627) (key:ByteArray) :
 Calls Tryz.prog 157 #[.pointer (some ⟨t,0,none⟩),.int .i64 at_,.string key] w fun e w'=>e=.returned (zbv z.nd.pairs key)/\w=w':=by
 refine zry w t at_ nv z.pv z.kv (Z.map fun z=>(z.pv,z.kv)) z.nd.pairs key (h.obj.cell 0 rfl) (SlF.mapped (f:=nodeC) (g:=fun z:Nz=>(z.pv,z.kv)) (h:=nzC) (fun _=>rfl) h.nodes) (by rw [List.getElem?_map,hz];rfl) (by simp;omega) (h.pairs at_ z hz) (by omega)
set_option maxHeartbeats 2000000 in
theorem zlc (w:World) (t:Nat) (A:Arr) (fl:List Nat) (root:Nat) (many:Int) (F:Nat->Prop) (T:Pairs) (key:ByteArray) (h:TreeZ w t A fl root many F) (hg:GoodT A fl root T) (hA:A.length<=109951162) :
 Calls Tryz.prog 121 #[.pointer (some ⟨t,0,none⟩),.string key] w fun e w'=>e=.returned (zcw (getT T key))/\Fr No w w':=by
 obtain ⟨nv,fv,Z,L,O,hF⟩:=h;obtain ⟨D,q⟩:=hg;have l:=zvo key D (D+1) A root (Nat.le_refl _) q.pt.wf (by rw [q.trav];exact q.sorted);rw [q.trav] at l;have ak:Z.length<=109951162:=by rw [<-zaw,O];exact hA
 have aj:root<Z.length:=by rw [<-zaw,O];exact q.pt.lt
 obtain ⟨nb,no,cap,rfl,X⟩:=L.headLen (by omega);have c2:=L.obj.cell 2 rfl;have HR:=H_ L;have HZ:=H_ O;have H:=H_ l;have HW:=H_ q.pt.wf;have E:=q.pt.lt;have h9:=q.hi;have S:=H_ E;have H9:=H_ h9;clear L O hF q l E h9;generalize getT T key=G at *;go_enter Tryz.func121,Tryz.ntmps121;go_wp2_with fail
 go_loopg [6] (D+1) (fun g s6 wr=>∃ (d a:Nat),s6=.int .i64 a/\g=d+1/\Hid (Fr No w wr)/\Hid (nWf A d (ndA A a))/\Hid (a<A.length)/\Hid ((ndA A a).pairs.length<=9)/\Hid (getA (d+1) A a key=G))
 case atStart=>exact ⟨D,root,rfl,rfl,H_ (Fr.refl _ _),HW,S,H9,H⟩
 case round =>
  obtain ⟨d,a,rfl,rfl,N,K,HL,V,HG⟩:=hrel;obtain ⟨z,y,j⟩:=zbk HZ.out HL.out;have a8:a<Z.length:=(List.getElem?_eq_some_iff.1 y).1;have c:=HR.out.fr0 N.out;have f:=spotZ c a z y (by rw [j];exact V.out) (by omega) key;unfold zbv at f;obtain ⟨a1,a2,_,_⟩:=c.look a z y;have d0:=c.obj.cell 0 rfl;have C:=c.pairs a z y;have B:=c.kids a z y;obtain ⟨pa,Y,s,ax,ar,x⟩:=C.shape;obtain ⟨ka,W,p,ag,aw,r⟩:=B.shape;rw [s] at a1 C;rw [p] at a2 B;have av:(a:Int)<(Z.length:Int):=(by omega);have b:getA (d+1) A a key=G:=HG.out;unfold getA at b;rw [<-j] at b;have ab:nb<wr.heap.size:=c.nodes.lt nb rfl;have E:t<wr.heap.size:=c.obj.lt
  cases hh:hitOf z.nd.pairs key with
  | true =>
    obtain ⟨m,M⟩:=hit_at hh;have ap:=(List.getElem?_eq_some_iff.1 M).1;obtain ⟨pb,po,rfl⟩:=x (by omega);have hc:=C.cell zag _ 1 M rfl;rw [hh,if_pos rfl,M] at b;rw [hh] at f;have o:=H_ b;have af:(spotOf z.nd.pairs key:Int)<(z.nd.pairs.length:Int):=(by omega);have ae:pb<wr.heap.size:=C.lt pb rfl;have n:=N;clear b hh M s p C B c y j x r;generalize spotOf z.nd.pairs key=i at *;go_wp2_with (go_at_call 157;refine f.mono ?_;clear f;rintro e w' ⟨rfl,rfl⟩)
    go_ret2
    exact ⟨by rw [<-o.out];rfl,n.out.alloc _⟩
  | false =>
    rw [hh] at f b;simp only [Bool.false_eq_true,if_false] at b;by_cases hk0:z.nd.kids = []
    · rw [if_pos hk0] at b
      have v:z.nd.kids.length=0:=(by rw [hk0];rfl);rw [v] at a2;have o:=H_ b;have n:=N;clear b hh s p C B c y j x r hk0 v;generalize spotOf z.nd.pairs key=i at *;go_wp2_with (go_at_call 157;refine f.mono ?_;clear f;rintro e w' ⟨rfl,rfl⟩)
      go_ret2
      exact ⟨by rw [<-o.out];rfl,n.out.alloc _⟩
    rw [if_neg hk0] at b
    cases d with
    | zero =>
      have J:(ndA A a).kids = []:=K.out;rw [<-j] at J;exact absurd J hk0
    | succ d =>
      have u:=K.out;rw [<-j] at u;have v:z.nd.kids.length=z.nd.pairs.length+1:=u.1;have P:=zbq z.nd.pairs key;obtain ⟨kid,k⟩:∃ kid,z.nd.kids[spotOf z.nd.pairs key]?=some kid:=⟨_,List.getElem?_eq_getElem (by omega)⟩;have I:kidA A a (spotOf z.nd.pairs key)=kid:=(by unfold kidA;rw [<-j];simp [List.getD,k]);obtain ⟨w1,w4,w9,ww⟩:=u.2 kid (List.mem_of_getElem? k);rw [I] at b;obtain ⟨kb,ko,rfl⟩:=r (by omega);have aq:=B.cell1 zah _ k rfl;have o:=H_ b;have U:=H_ w1;have Q:=H_ w9;have R:=H_ ww;have a0:(spotOf z.nd.pairs key:Int)<(z.nd.kids.length:Int):=(by omega);have au:(z.nd.kids.length:Int)≠0:=(by omega);have aa:((z.nd.kids.length:Int)==0)=false:=(by simp;omega);have a9:kb<wr.heap.size:=B.lt kb rfl;have n:=N
      clear b hh s p C B c y j x r hk0 v P k I w1 w9 ww u;generalize spotOf z.nd.pairs key=i at *;go_wp2_with (go_at_call 157;refine f.mono ?_;clear f;rintro e w' ⟨rfl,rfl⟩);go_roundg (d+1)
      case rel=>exact ⟨d,kid,rfl,rfl,H_ (n.out.alloc _),R,U,Q,o⟩
      case measure=>omega
theorem zto (w:World) (t:Nat) (A:Arr) (fl:List Nat) (root:Nat) (many:Int) (F:Nat->Prop) (h:TreeZ w t A fl root many F) :
 Calls Tryz.prog 61 #[.pointer (some ⟨t,0,none⟩)] w fun e w'=>e=.returned (.int .i64 many)/\w=w':=by
 obtain ⟨nv,fv,Z,a,b,hF⟩:=h;have c:=a.obj.cell 3 rfl;clear a b hF;go_enter Tryz.func61,Tryz.ntmps61;go_wp2;go_ret;exact ⟨rfl,rfl⟩
theorem ztn (w:World):Calls Tryz.prog 51 #[] w fun e w'=>∃ t,e=.returned (.pointer (some ⟨t,0,none⟩))/\∃ F,TreeZ w' t [nd0] [] 0 0 F/\Fr No w w'/\(∀ b,F b->w.heap.size<=b):=by
 have g:∀ w,(Instr.makeSlice 175 (.int .i64 1) (.int .i64 1)).run Tryz.prog w=.ok (.slice (some ⟨w.heap.size,0,none⟩) 1 1) (w.alloc (.cells #[.slice none 0 0,.slice none 0 0] 231)):=fun _=>by kernel_rfl
 go_enter Tryz.func51,Tryz.ntmps51;go_wp2;go_ret;have a:∀ (i:Nat) z,[nz0][i]?=some z->z=nz0:=fun i z c=>by have:=List.mem_of_getElem? c;simpa using this
 have f:∀ b,¬ zown nz0 b:=by rintro b (e | e) <;> simp [nz0,Value.ownBlock] at e
 refine ⟨_,rfl,_,⟨.slice (some ⟨w.heap.size,0,none⟩) 1 1,.slice none 0 0,[nz0],⟨?_,?_,SlF.nil _ _ _ _,?_,?_,?_,?_,?_,?_⟩,rfl,fun b=>Iff.rfl⟩,((Fr.refl _ w).alloc _).alloc _,?_⟩
 · exact ⟨_,zad _ _ _ (by simp)⟩
 · exact ⟨rfl,.inr ⟨_,_,_,_,rfl,zaj (zad _ _ _ rfl) _,by simp,by unfold maxLen;omega,by simp,rfl⟩⟩
 · intro i z c;rw [a i z c];exact SlF.nil _ _ _ _
 · intro i z c;rw [a i z c];exact SlF.nil _ _ _ _
 · refine ⟨by simp [Value.ownBlock],by simp [Value.ownBlock],fun b _=>by simp [Value.ownBlock]⟩
 · intro i z b c d;rw [a i z c] at d;exact absurd d (f b)
 · intro i z b c d;rw [a i z c] at d;exact absurd (.inl d) (f b)
 · intro i j z y b c _ d _;rw [a i z c] at d;exact absurd d (f b)
 rintro b (rfl | e | e | ⟨i,z,c,d⟩)
 · omega
 · simp [Value.ownBlock] at e;omega
 · simp [Value.ownBlock] at e
 rw [a i z c] at d;exact absurd d (f b)
open Go Go.RowKit
theorem zfh {P:Program} (w:World) (t ty e:TypeId) (i:TypeInfo) (ht:P.underlying t=some (.slice e)) (hi:P.info? e=some i) (a sp:Option Addr) (n cap c:Nat) (hn:n<=cap) :
 (Builtin.append_ #[t,t] ty #[.slice a n cap,.slice sp 0 c]).run P w=.ok (.slice a n cap) w:=by
 cases a <;> cases sp <;> simp [Builtin.append_,run_underlying ht,sizeOf,typeInfo,hi,Builtin.lenOf,hn,Builtin.firstCells,loadCells,loadCellsFrom,storeCells]
theorem zkg {α:Type} {f:α->List Value} {P:Program} (w:World) (t ty e:TypeId) (i:TypeInfo) (z:Value) (ht:P.underlying t=some (.slice e)) (hi:P.info? e=some i) (hz:i.zero=some z) (hzs:z.cells.size=i.size) (hsz:0<i.size)
 (hf:∀ x,(f x).length=i.size) (h1:∀ x,∀ u∈f x,u.oneCell'=true) (v x:Value) (L M:List α) (hv:SlF w e i.size f v L) (hx:SlF w e i.size f x M) (h63:L.length+M.length<=maxLen) (hbytes:(L.length+M.length) * i.bytes<=140737488355328) :
 ∃ v' w',(Builtin.append_ #[t,t] ty #[v,x]).run P w=.ok v' w'/\SlF w' e i.size f v' (L++M)/\Fr (fun b=>v.ownBlock=some b) w w'/\(∀ b,v'.ownBlock=some b->v.ownBlock=some b\/w.heap.size<=b):=by
 rcases Nat.eq_zero_or_pos M.length with F | m
 · obtain rfl:=List.eq_nil_of_length_eq_zero F
   obtain ⟨a,cap,rfl,r,_⟩:=hv.shape;obtain ⟨l,c,rfl,_⟩:=hx.shape;exact ⟨_,w,zfh w t ty e i ht hi a l _ cap c r,by rw [List.append_nil];exact hv,Fr.refl _ w,fun b hb=>.inl hb⟩
 obtain ⟨l,c,rfl,p,E,d⟩:=hx.shape
 obtain ⟨q,A,rfl⟩:=d m
 obtain ⟨g,o,cap,w',B,s,n,C,G⟩:=zcl (P:=P) w t ty e i z ht hi hz hzs hsz v L.length (L.flatMap f) hv ⟨q,A,none⟩ M.length c (M.flatMap f) (zam hf M) m
  (fun j u hu=>SlF.cells hf hx j u hu) (fun u hu=>by obtain ⟨y,_,D⟩:=List.mem_flatMap.1 hu;exact h1 y u D) h63 hbytes
 refine ⟨_,w',B,?_,(Fr.refl _ w).grown n fun k hk=>.inl hk,fun b hb=>?_⟩
 · unfold SlF
   rw [List.length_append,List.flatMap_append];exact s
 obtain rfl:g=b:=by simpa [Value.ownBlock] using hb
 rcases C with e | e
 · exact .inl e
 right;omega
theorem zbj {α:Type} {f:α->List Value} {P:Program} {w:World} {ops:Array Oper} {o:Oper} {a:Act} {K:Act->World->Prop} {Q:Exit->Act->World->Prop} {E:Prop} (hgd:o.guard=none) (s x:Operand) (t:TypeId)
 (ho:o.op=.call { callee:=.builtin .append,args:=#[s,x],argTypes:=#[t,t] })
 (e:TypeId) (i:TypeInfo) (z:Value) (sz bytes:Nat) (ht:P.underlying t=some (.slice e)) (hi:P.info? e=some i) (hz:i.zero=some z) (hsize:i.size=sz) (hby:i.bytes=bytes) (hzs:z.cells.size=sz) (hsz:0<sz)
 (hf:∀ x,(f x).length=sz) (h1:∀ x,∀ u∈f x,u.oneCell'=true) (v xv:Value) (L M:List α) (hs:a.eval s=v) (hx:a.eval x=xv) (hv:SlF w e sz f v L) (hxv:SlF w e sz f xv M)
 (h63:L.length+M.length<=maxLen) (hbytes:(L.length+M.length) * bytes<=140737488355328)
 (h:∀ v' w',SlF w' e sz f v' (L++M)->Fr (fun b=>v.ownBlock=some b) w w'->(∀ b,v'.ownBlock=some b->v.ownBlock=some b\/w.heap.size<=b)->K (a.put o.dst v') w') :
 if Region.wanted o (yielded ops a.tmps)=true then Oper.wp P o a w K Q else E:=by
 have k:Region.wanted o (yielded ops a.tmps)=true:=by simp [Region.wanted,hgd]
 rw [if_pos k];subst hsize;subst hby;obtain ⟨v',w',j,c,d,g⟩:=zkg (P:=P) (f:=f) w t o.type e i z ht hi hz hzs hsz hf h1 v xv L M hv hxv h63 hbytes;unfold Oper.wp execOp;simp only [ho,resolve,invoke,builtin,Sem.run_bind,Sem.run_pure,Result.andThen_ok,List.map_toArray,List.map_cons,List.map_nil,hs,hx,j];exact h v' w' c d g
theorem zhq (x:ByteArray×Int):∀ u∈pairC x,u.oneCell'=true:=by
 intro u a;simp [pairC] at a;rcases a with rfl | rfl <;> rfl
theorem zno (x:Nat):∀ u∈nat1 x,u.oneCell'=true:=by
 intro u a;simp [nat1] at a;subst a;rfl
theorem zre (W:World) (p:ByteArray×Int) (n:Nat) (hn:n=W.heap.size):SlF (W.alloc (.cells #[.string p.1,.int .i64 p.2] 122)) 122 2 pairC (.slice (some ⟨n,0,none⟩) 1 1) [p]:=by
 subst hn;exact ⟨rfl,.inr ⟨_,_,_,_,rfl,zad _ _ _ rfl,Nat.le_refl _,by unfold maxLen;omega,by simp,rfl⟩⟩
structure AtZ (w W:World) (t nb no cap:Nat) (fv:Value) (Z:List Nz) (fl:List Nat) (root:Nat) (many:Int) (F:Nat->Prop):Prop where
 r:TreeR W t (.slice (some ⟨nb,no,none⟩) Z.length cap) fv Z fl root many
 fr:Fr F w W
 new:∀ b,treeF t (.slice (some ⟨nb,no,none⟩) Z.length cap) fv Z b->F b\/w.heap.size<=b
theorem AtZ.fr0 {w W W':World} {t nb no cap:Nat} {fv:Value} {Z:List Nz} {fl:List Nat} {root:Nat} {many:Int} {F:Nat->Prop} (h:AtZ w W t nb no cap fv Z fl root many F) (hf:Fr No W W'):AtZ w W' t nb no cap fv Z fl root many F :=
 ⟨h.r.fr0 hf,h.fr.trans0 hf,h.new⟩
theorem AtZ.setPairs {w W w1:World} {t nb no cap:Nat} {fv pv':Value} {Z:List Nz} {fl:List Nat} {root:Nat} {many:Int} {F:Nat->Prop} {P':Pairs} (h:AtZ w W t nb no cap fv Z fl root many F) (i:Nat) (z:Nz) (hz:Z[i]?=some z)
 (hf:Fr (fun b=>z.pv.ownBlock=some b) W w1) (hs:SlF w1 122 2 pairC pv' P') (hown:∀ b,pv'.ownBlock=some b->z.pv.ownBlock=some b\/W.heap.size<=b) :
 AtZ w (w1.setCell ⟨nb,no+i * 2,none⟩ pv') t nb no cap fv (Z.set i ⟨⟨P',z.nd.kids⟩,pv',z.kv⟩) fl root many F:=by
 obtain ⟨f,a,c⟩:=h.r.setPairs i z hz hf hs hown;have d:=h.fr.size
 have key:∀ b,treeF t (.slice (some ⟨nb,no,none⟩) Z.length cap) fv Z b->b<w.heap.size->F b:=fun b hb hl=>by
  rcases h.new b hb with e | e
  · exact e
  omega
 refine ⟨by rw [List.length_set];exact f,h.fr.trans a fun b hb e=>?_,fun b hb=>?_⟩
 · rcases e with rfl | e
   · exact key b (.inr (.inl rfl)) hb
   exact key b (.inr (.inr (.inr ⟨i,z,hz,.inl e⟩))) hb
 rw [List.length_set] at hb
 rcases zbf hz c b hb with e | e
 · exact h.new b e
 exact .inr (by omega)
theorem AtZ.setKids {w W w1:World} {t nb no cap:Nat} {fv kv':Value} {Z:List Nz} {fl:List Nat} {root:Nat} {many:Int} {F:Nat->Prop} {K':List Nat} (h:AtZ w W t nb no cap fv Z fl root many F) (i:Nat) (z:Nz) (hz:Z[i]?=some z)
 (hf:Fr (fun b=>z.kv.ownBlock=some b) W w1) (hs:SlF w1 3 1 nat1 kv' K') (hown:∀ b,kv'.ownBlock=some b->z.kv.ownBlock=some b\/W.heap.size<=b) :
 AtZ w (w1.setCell ⟨nb,no+i * 2+1,none⟩ kv') t nb no cap fv (Z.set i ⟨⟨z.nd.pairs,K'⟩,z.pv,kv'⟩) fl root many F:=by
 obtain ⟨f,a,c⟩:=h.r.setKids i z hz hf hs hown;have d:=h.fr.size
 have key:∀ b,treeF t (.slice (some ⟨nb,no,none⟩) Z.length cap) fv Z b->b<w.heap.size->F b:=fun b hb hl=>by
  rcases h.new b hb with e | e
  · exact e
  omega
 refine ⟨by rw [List.length_set];exact f,h.fr.trans a fun b hb e=>?_,fun b hb=>?_⟩
 · rcases e with rfl | e
   · exact key b (.inr (.inl rfl)) hb
   exact key b (.inr (.inr (.inr ⟨i,z,hz,.inr e⟩))) hb
 rw [List.length_set] at hb
 rcases zbf hz c b hb with e | e
 · exact h.new b e
 exact .inr (by omega)
theorem AtZ.setPair {w W:World} {t nb no cap pb po pcap k:Nat} {fv:Value} {Z:List Nz} {fl:List Nat} {root:Nat} {many:Int} {F:Nat->Prop} (h:AtZ w W t nb no cap fv Z fl root many F) (i:Nat) (z:Nz) (hz:Z[i]?=some z)
 (hpv:z.pv=.slice (some ⟨pb,po,none⟩) z.nd.pairs.length pcap) (x y:ByteArray×Int) (hk:z.nd.pairs[k]?=some x) :
 AtZ w ((W.setCell ⟨pb,po+k * 2,none⟩ (.string y.1)).setCell ⟨pb,po+k * 2+1,none⟩ (.int .i64 y.2)) t nb no cap fv (Z.set i ⟨⟨z.nd.pairs.set k y,z.nd.kids⟩,z.pv,z.kv⟩) fl root many F:=by
 have f:Fr (fun b=>b=pb) W ((W.setCell ⟨pb,po+k * 2,none⟩ (.string y.1)).setCell ⟨pb,po+k * 2+1,none⟩ (.int .i64 y.2)) :=
  (Fr.setCell (S:=fun b=>b=pb) (Fr.setCell (S:=fun b=>b=pb) (Fr.refl _ W) (p:=⟨pb,po+k * 2,none⟩) (.inl rfl) _) (p:=⟨pb,po+k * 2+1,none⟩) (.inl rfl) _)
 have j:=h.r.pairs i z hz;rw [hpv] at j;have g:=SlF.set zag j k 0 (by omega) x (y.1,x.2) (.string y.1) hk rfl;have d:=(List.getElem?_eq_some_iff.1 hk).1;rw [Nat.add_zero] at g;have a:=SlF.set (L:=z.nd.pairs.set k (y.1,x.2)) (cap:=pcap) zag (by rw [List.length_set];exact g) k 1 (by omega) (y.1,x.2) y (.int .i64 y.2) (by rw [List.getElem?_set_self d]) rfl;rw [List.set_set,List.length_set] at a
 have l:=h.r.setPair i z hz hpv f (P':=z.nd.pairs.set k y) (by
  rw [hpv];unfold SlF at a ⊢
  rw [List.length_set] at a ⊢
  exact a)
 have c:zown z pb:=.inl (by rw [hpv];rfl);refine ⟨by rw [List.length_set];exact l,h.fr.trans f fun b hb e=>?_,fun b hb=>?_⟩
 · have m:b=pb:=e
   rcases h.new b (.inr (.inr (.inr ⟨i,z,hz,m▸c⟩))) with e | e
   · exact e
   omega
 rw [List.length_set] at hb
 rcases zbf (z':=⟨⟨z.nd.pairs.set k y,z.nd.kids⟩,z.pv,z.kv⟩) hz (B:=w.heap.size) (fun b e=>.inl e) b hb with e | e
 · exact h.new b e
 exact .inr e
set_option maxHeartbeats 4000000 in
theorem zhu (w:World) (t:Nat) (A:Arr) (fl:List Nat) (root:Nat) (many:Int) (F:Nat->Prop) (h:TreeZ w t A fl root many F) (at_ i:Nat) (hs:zbo A fl at_) (hi:i<(ndA A at_).pairs.length) (hA:A.length<=109951162) :
 Calls Tryz.prog 173 #[.pointer (some ⟨t,0,none⟩),.int .i64 at_,.int .i64 i] w fun e w'=>e=.returned (.tuple #[])/\∃ F',TreeZ w' t (joinA A at_ i) (fl++[kidA A at_ (i+1)]) root many F'/\Fr F w w'/\∀ b,F' b->F b\/w.heap.size<=b:=by
 obtain ⟨l,hl⟩:∃ l,(ndA A at_).kids[i]?=some l:=⟨_,List.getElem?_eq_getElem (by have:=hs.len;omega)⟩;obtain ⟨r,hr⟩:∃ r,(ndA A at_).kids[i+1]?=some r:=⟨_,List.getElem?_eq_getElem (by have:=hs.len;omega)⟩;obtain ⟨p,hp⟩:∃ p,(ndA A at_).pairs[i]?=some p:=⟨_,List.getElem?_eq_getElem hi⟩;have ba:kidA A at_ i=l:=by unfold kidA;simp [List.getD,hl]
 have an:kidA A at_ (i+1)=r:=by unfold kidA;simp [List.getD,hr]
 obtain ⟨l1,l2,l3,l4⟩:=hs.kid l (List.mem_of_getElem? hl);obtain ⟨r1,r2,r3,r4⟩:=hs.kid r (List.mem_of_getElem? hr);have aP:l≠r:=fun e=>by have:=hs.apart i (i+1) l hl (by rw [e];exact hr);omega
 have hj:joinA A at_ i=((A.set l ⟨(ndA A l).pairs++p :: (ndA A r).pairs,(ndA A l).kids++(ndA A r).kids⟩).set at_ ⟨(ndA A at_).pairs.take i++(ndA A at_).pairs.drop (i+1),(ndA A at_).kids.take (i+1)++(ndA A at_).kids.drop (i+2)⟩).set r nd0:=by
  unfold joinA;rw [ba,an];simp [List.getD,hp]
 obtain ⟨nv,fv,Z,f,hZ,hF⟩:=h;obtain ⟨c,x,au⟩:=zbk hZ hs.lt;obtain ⟨a,ag,ax⟩:=zbk hZ l1;obtain ⟨d,am,ay⟩:=zbk hZ r1;have cy:Z.length<=109951162:=by rw [<-zaw,hZ];exact hA
 have cl:at_<Z.length:=(List.getElem?_eq_some_iff.1 x).1;have bq:l<Z.length:=(List.getElem?_eq_some_iff.1 ag).1;have bo:r<Z.length:=(List.getElem?_eq_some_iff.1 am).1;obtain ⟨j,no,cap,rfl,cg⟩:=f.headLen (by omega);have aa:=hs.len;have bH:=hs.hi;have cA:=hs.free;rw [<-au] at hl hr hp aa bH hi;rw [<-ax] at l3 l4;rw [<-ay] at r3 r4;rw [<-ax,<-ay,<-au] at hj;have aO:AtZ w w t j no cap fv Z fl root many F:=⟨f,Fr.refl _ w,fun b hb=>.inl ((hF b).2 hb)⟩;have c0:=f.obj.cell 0 rfl;obtain ⟨a1,a2,a3,a4⟩:=f.look at_ c x;obtain ⟨pa,ci,aR,cC,cw,aT⟩:=(f.pairs at_ c x).shape;obtain ⟨ka,cd,aM,cE,cz,b8⟩:=(f.kids at_ c x).shape;obtain ⟨pb,po,rfl⟩:=aT (by omega);obtain ⟨kb,ko,rfl⟩:=b8 (by omega);have s:=f.kids at_ c x;rw [aM] at a2 s
 have kl:=s.cell1 zah i hl rfl;have kr:=s.cell1 zah (i+1) hr rfl;have bW:(at_:Int)<(Z.length:Int):=by omega
 have cG:(l:Int)<(Z.length:Int):=by omega
 have cH:(r:Int)<(Z.length:Int):=by omega
 have cL:(i:Int)<(c.nd.kids.length:Int):=by omega
 have cc:(i:Int)+1<(c.nd.kids.length:Int):=by omega
 have bX:(0:Int)<=(i:Int)+1:=by omega
 have bT:((i:Int)+1).toNat=i+1:=by omega
 have cb:c.nd.kids.length<=10:=by omega
 have bJ:=H_ aO;have HZ:=H_ hZ;have HJ:=H_ hj;have bz:=H_ an;have az:=H_ x;have B:=H_ ag;have a6:=H_ am;have HP:=H_ hp;have bc:=H_ aR;have aZ:=H_ aP;clear aO hZ hj an x ag am hp aR aP f hF hs hl hr ba au ax ay aT b8 aM s a3 a4 aa l1 r1;go_enter Tryz.func173,Tryz.ntmps173;go_upto_region 1 with fail
 go_quiet (fail)
 have X:=Fr.drewN No w nq;generalize w.drewN nq=W1 at X ⊢
 have aX:=bJ.out.fr0 X;have br:=X.cell0 c0;have bp:=H_ aX;clear X aX c0 a1 a2 kl kr;go_upto_region 2 with fail
 go_quiet (fail)
 have av:=Fr.drewN No W1 nq;generalize W1.drewN nq=Y at av ⊢
 have aV:=bp.out.fr0 av;have aQ:=H_ aV;clear av aV br
 -- the pairs
 go_upto_region 3 with fail
 go_cut [44] (fun _ wx=>∃ v,Hid (AtZ w wx t j no cap fv (Z.set l ⟨⟨a.nd.pairs++p :: d.nd.pairs,a.nd.kids⟩,v,a.kv⟩) fl root many F))
 case first =>
  obtain ⟨i0,a0,a8,a7,a5⟩:=info_parts info127;have f:=aQ.out.r;obtain ⟨b1,b2,b3,b4⟩:=f.look at_ c az.out;obtain ⟨e1,e2,e3,e4⟩:=f.look l a B.out;obtain ⟨d1,d2,d3,d4⟩:=f.look r d a6.out;rw [bc.out] at b1;have o:=f.pairs at_ c az.out;rw [bc.out] at o;have x0:=o.cell0 zag i HP.out rfl;have x1:=o.cell zag i 1 HP.out rfl;have S:=f.pairs l a B.out;have T:=f.pairs r d a6.out;have k:¬ a.pv.ownBlock=some j:=fun e=>(f.a2 l _ j B.out (.inl e)).2.1 rfl;have aK:∀ b,d.pv.ownBlock=some b->¬ a.pv.ownBlock=some b:=fun b e e'=>aZ.out (f.a4 l r a d b B.out a6.out (.inl e') (.inl e));have b9:j<Y.heap.size:=f.nodes.lt j rfl;have cI:pb<Y.heap.size:=o.lt pb rfl;have ch:(i:Int)<(c.nd.pairs.length:Int):=(by omega);have ae:=H_ S;have ap:=H_ T
  have bv:=H_ aK;have cJ:Hid (∀ b,zown a b->b<Y.heap.size):=H_ fun b hb=>f.zlt B.out hb;clear f o S T aK
  go_region_law (first
   | (refine zbj rfl _ _ 119 rfl 122 i0 _ 2 24 Tryz.underlying119 a0 a8 a7 a5 rfl (by decide) zag zhq a.pv (.slice (some ⟨Y.heap.size,0,none⟩) 1 1) a.nd.pairs [p] rfl rfl (ae.out.fr0 ((Fr.refl No Y).drew.alloc _)) (zre Y.drew p _ rfl) (by unfold maxLen;simp;omega) (by simp;omega) ?_
      intro v1 w4 C V K;have m:Fr (fun b=>a.pv.ownBlock=some b) Y w4:=((Fr.refl _ Y).drew.alloc _).trans V fun _ _ e=>e;have u1:=m.cell e1 k;have u2:=m.free e1 e3 k;have u3:=m.cell d1 k;have ao:=H_ C;have Q:=H_ m;have P:=H_ K;clear C V K m)
   | (refine zbj rfl _ _ 119 rfl 122 i0 _ 2 24 Tryz.underlying119 a0 a8 a7 a5 rfl (by decide) zag zhq v1 d.pv (a.nd.pairs++[p]) d.nd.pairs rfl rfl ao.out (ap.out.fr Q.out bv.out) (by unfold maxLen;simp;omega) (by simp;omega) ?_
      intro v w5 z n M;obtain ⟨va,H,N,_,_,_⟩:=z.shape;generalize (a.nd.pairs++[p]++d.nd.pairs).length=n2 at N;subst N
      have aS:¬ v1.ownBlock=some j:=fun e=>by
       rcases P.out j e with e | e
       · exact k e
       simp at e;omega
      have y1:=n.cell u1 aS;have y2:=n.free u1 u2 aS;have af:=H_ z;have al:=H_ n;have aq:=H_ M;clear z n M))
  all_goals
   have b0:Fr (fun b=>a.pv.ownBlock=some b) Y w5:=Q.out.trans al.out fun b hb e=>by
    rcases P.out b e with e | e
    · exact e
    simp at e;omega
   have y:=aQ.out.setPairs (w1:=w5) (pv':=.slice va n2 H) (P':=a.nd.pairs++p :: d.nd.pairs) l a B.out b0 (by have:=af.out;simpa using this) fun b e=>by
    have bM:=Q.out.size;rcases aq.out b e with e | e
    · rcases P.out b e with e | e
      · exact .inl e
      simp at e;exact .inr (by omega)
    exact .inr (by omega)
   have HQ:=H_ y;clear y b0;go_wp2_with fail;go_meet
   case rel=>exact ⟨_,HQ⟩
 case rest =>
  obtain ⟨v,HQ⟩:=hcut;have R:(Z.set l ⟨⟨a.nd.pairs++p :: d.nd.pairs,a.nd.kids⟩,v,a.kv⟩)[l]?=some ⟨⟨a.nd.pairs++p :: d.nd.pairs,a.nd.kids⟩,v,a.kv⟩:=List.getElem?_set_self bq;have L:(Z.set l ⟨⟨a.nd.pairs++p :: d.nd.pairs,a.nd.kids⟩,v,a.kv⟩)[r]?=some d:=(by rw [List.getElem?_set_ne aZ.out];exact a6.out);have I:(Z.set l ⟨⟨a.nd.pairs++p :: d.nd.pairs,a.nd.kids⟩,v,a.kv⟩)[at_]?=some c:=(by rw [List.getElem?_set_ne l2];exact az.out);have E:ndsZ (Z.set l ⟨⟨a.nd.pairs++p :: d.nd.pairs,a.nd.kids⟩,v,a.kv⟩)=A.set l ⟨a.nd.pairs++p :: d.nd.pairs,a.nd.kids⟩:=(by rw [zay,HZ.out]);have ah:(Z.set l ⟨⟨a.nd.pairs++p :: d.nd.pairs,a.nd.kids⟩,v,a.kv⟩).length=Z.length:=(by simp)
  generalize Z.set l ⟨⟨a.nd.pairs++p :: d.nd.pairs,a.nd.kids⟩,v,a.kv⟩=Z2 at HQ R L I E ah;have u:=H_ R;have O:=H_ L;have a9:=H_ I;have ab:=H_ E;have aw:=H_ ah;clear R L I E ah
  -- the kids
  go_upto_region 4 with fail
  go_cut [65] (fun _ wx=>∃ k2,Hid (AtZ w wx t j no cap fv (Z2.set l ⟨⟨a.nd.pairs++p :: d.nd.pairs,a.nd.kids++d.nd.kids⟩,v,k2⟩) fl root many F))
  case first =>
   obtain ⟨i0,a0,a8,a7,a5⟩:=info_parts info3;have f:=HQ.out.r;obtain ⟨e1,e2,e3,e4⟩:=f.look l _ u.out;obtain ⟨d1,d2,d3,d4⟩:=f.look r d O.out;have S:=f.kids l _ u.out;have T:=f.kids r d O.out;have k:¬ a.kv.ownBlock=some j:=fun e=>(f.a2 l _ j u.out (.inr e)).2.1 rfl;have b9:j<wc.heap.size:=f.nodes.lt j rfl;have ae:=H_ S;have ap:=H_ T;dsimp only at e2 e4
   have ce:a.nd.kids.length<=10:=by rcases l4 with e | e
                                    · rw [e];simp
                                    omega
   have bV:d.nd.kids.length<=10:=by rcases r4 with e | e
                                    · rw [e];simp
                                    omega
   clear f S T
   go_region_law (refine zbj rfl _ _ 76 rfl 3 i0 _ 1 8 Tryz.underlying76 a0 a8 a7 a5 rfl (by decide) zah zno a.kv d.kv a.nd.kids d.nd.kids rfl rfl (ae.out.drew) (ap.out.drew) (by unfold maxLen;omega) (by omega) ?_
                  intro v3 w4 C V K;obtain ⟨va,H,N,_,_,_⟩:=C.shape;generalize (a.nd.kids++d.nd.kids).length=n2 at N;subst N;have m:Fr (fun b=>a.kv.ownBlock=some b) wc w4:=((Fr.refl _ wc).drew).trans V fun _ _ e=>e;have u1:=m.cell e2 k;have u2:=m.free e2 e4 k;have ao:=H_ C;have Q:=H_ m;have P:=H_ K;clear C V K m)
   all_goals
    have y:=HQ.out.setKids (w1:=w4) (kv':=.slice va n2 H) (K':=a.nd.kids++d.nd.kids) l _ u.out Q.out ao.out P.out;have bE:=H_ y;clear y;go_wp2_with fail;go_meet
    case rel=>exact ⟨_,bE⟩
  case rest =>
   obtain ⟨k2,ak⟩:=hcut;have bI:at_<Z2.length:=(by have:=aw.out;omega);have g:(Z2.set l ⟨⟨a.nd.pairs++p :: d.nd.pairs,a.nd.kids++d.nd.kids⟩,v,k2⟩)[at_]?=some c:=(by rw [List.getElem?_set_ne l2];exact a9.out);have D:ndsZ (Z2.set l ⟨⟨a.nd.pairs++p :: d.nd.pairs,a.nd.kids++d.nd.kids⟩,v,k2⟩)=A.set l ⟨a.nd.pairs++p :: d.nd.pairs,a.nd.kids++d.nd.kids⟩:=(by rw [zay,ab.out,List.set_set]);have ar:(Z2.set l ⟨⟨a.nd.pairs++p :: d.nd.pairs,a.nd.kids++d.nd.kids⟩,v,k2⟩).length=Z.length:=(by rw [List.length_set];exact aw.out);generalize Z2.set l ⟨⟨a.nd.pairs++p :: d.nd.pairs,a.nd.kids++d.nd.kids⟩,v,k2⟩=Z3 at ak g D ar;have f:=ak.out.r;obtain ⟨b1,b2,b3,b4⟩:=f.look at_ c g;have o:=f.pairs at_ c g
   have k:¬ c.pv.ownBlock=some j:=fun e=>(f.a2 at_ _ j g (.inl e)).2.1 rfl;have aY:¬ c.kv.ownBlock=some j:=fun e=>(f.a2 at_ _ j g (.inr e)).2.1 rfl;have b9:j<wc.heap.size:=f.nodes.lt j rfl;have hcut:=zev wc c.pv c.nd.pairs i o hi (by omega);have b5:=H_ g;have bb:=H_ D;have bK:=H_ ar;have ct:=H_ o;clear f g D ar o HQ u O a9 ab aw
   go_upto_region 6 with (first
    | (go_at_call 170;refine hcut.mono ?_;clear hcut;rintro e w5 ⟨g5,o5,c5,rfl,z,n,M⟩
       have y1:=n.cell b1 k;have y2:=n.free b1 b3 k;have af:=H_ z;have al:=H_ n;have aq:=H_ M;clear z n M))
   have y:=ak.out.setPairs (w1:=w5) (pv':=.slice (some ⟨g5,o5,none⟩) (c.nd.pairs.length-1) c5) (P':=c.nd.pairs.take i++c.nd.pairs.drop (i+1)) at_ c b5.out al.out af.out fun b e=>by
    obtain rfl:g5=b:=by simpa [Value.ownBlock] using e
    exact .inl aq.out
   generalize w5.setCell ⟨j,no+at_ * 2,none⟩ (.slice (some ⟨g5,o5,none⟩) (c.nd.pairs.length-1) c5)=W6 at y ⊢
   have aj:at_<Z3.length:=(by have:=bK.out;omega);have q:(Z3.set at_ ⟨⟨c.nd.pairs.take i++c.nd.pairs.drop (i+1),c.nd.kids⟩,.slice (some ⟨g5,o5,none⟩) (c.nd.pairs.length-1) c5,c.kv⟩)[at_]?=some ⟨⟨c.nd.pairs.take i++c.nd.pairs.drop (i+1),c.nd.kids⟩,.slice (some ⟨g5,o5,none⟩) (c.nd.pairs.length-1) c5,c.kv⟩:=List.getElem?_set_self aj;have G:ndsZ (Z3.set at_ ⟨⟨c.nd.pairs.take i++c.nd.pairs.drop (i+1),c.nd.kids⟩,.slice (some ⟨g5,o5,none⟩) (c.nd.pairs.length-1) c5,c.kv⟩)=(A.set l ⟨a.nd.pairs++p :: d.nd.pairs,a.nd.kids++d.nd.kids⟩).set at_ ⟨c.nd.pairs.take i++c.nd.pairs.drop (i+1),c.nd.kids⟩:=(by rw [zay,bb.out]);generalize Z3.set at_ ⟨⟨c.nd.pairs.take i++c.nd.pairs.drop (i+1),c.nd.kids⟩,.slice (some ⟨g5,o5,none⟩) (c.nd.pairs.length-1) c5,c.kv⟩=Z6 at y q G
   have f:=y.r;obtain ⟨_,u2,_,u4⟩:=f.look at_ _ q;have s:=f.kids at_ _ q;dsimp only at u2 u4 s;have J:=zic W6 c.kv c.nd.kids (i+1) s (by omega) (by omega);have bN:=H_ y;have aL:=H_ q;have aU:=H_ G;have cj:j<W6.heap.size:=f.nodes.lt j rfl;clear f y q G s y1 y2 b1 b2 b3 b4
   go_upto_region 7 with (first
    | (go_at_call 182;refine J.mono ?_;clear J;rintro e w7 ⟨g7,o7,c7,rfl,b7,W,aW⟩
       have y1:=W.cell u2 aY;have y2:=W.free u2 u4 aY;have bw:=H_ b7;have bx:=H_ W;have bs:=H_ aW;clear b7 W aW))
   have y:=bN.out.setKids (w1:=w7) (kv':=.slice (some ⟨g7,o7,none⟩) (c.nd.kids.length-1) c7) (K':=c.nd.kids.take (i+1)++c.nd.kids.drop (i+2)) at_ _ aL.out bx.out bw.out fun b e=>by
    obtain rfl:g7=b:=by simpa [Value.ownBlock] using e
    exact .inl bs.out
   generalize w7.setCell ⟨j,no+at_ * 2+1,none⟩ (.slice (some ⟨g7,o7,none⟩) (c.nd.kids.length-1) c7)=W8 at y ⊢
   have U:=H_ y;clear y y1 y2 u2 u4
   have aJ:TreeZ W8 t ((A.set l ⟨a.nd.pairs++p :: d.nd.pairs,a.nd.kids++d.nd.kids⟩).set at_ ⟨c.nd.pairs.take i++c.nd.pairs.drop (i+1),c.nd.kids.take (i+1)++c.nd.kids.drop (i+2)⟩) fl root many _ :=
    ⟨_,_,_,U.out.r,by rw [zay,aU.out,List.set_set],fun b=>Iff.rfl⟩
   have bt:=H_ aJ;clear aJ
   have aN:r<((A.set l ⟨a.nd.pairs++p :: d.nd.pairs,a.nd.kids++d.nd.kids⟩).set at_ ⟨c.nd.pairs.take i++c.nd.pairs.drop (i+1),c.nd.kids.take (i+1)++c.nd.kids.drop (i+2)⟩).length:=by
    rw [List.length_set,List.length_set,<-HZ.out,zaw];exact bo
   have b6:((A.set l ⟨a.nd.pairs++p :: d.nd.pairs,a.nd.kids++d.nd.kids⟩).set at_ ⟨c.nd.pairs.take i++c.nd.pairs.drop (i+1),c.nd.kids.take (i+1)++c.nd.kids.drop (i+2)⟩).length<=1099511627:=by
    rw [List.length_set,List.length_set];omega
   have bD:=H_ aN;have bC:=H_ b6;clear aN b6
   go_wp2_with (first
    | (go_at_call 149;refine (zkz W8 t _ fl root many _ bt.out r bD.out bC.out (by omega)).mono ?_;rintro e w9 ⟨rfl,F9,bO,bn,bG⟩))
   refine bodyPost_end (results_none rfl _ _ _) rfl ⟨rfl,F9,?_,?_,?_⟩
   · rw [HJ.out,bz.out];exact bO
   · exact U.out.fr.trans bn fun b hb e=>by
      rcases U.out.new b e with e | e
      · exact e
      omega
   intro b hb
   have bM:=U.out.fr.size;rcases bG b hb with e | e
   · exact U.out.new b e
   exact .inr (by omega)
set_option maxHeartbeats 4000000 in
theorem zoh (w:World) (t:Nat) (nv fv:Value) (Z:List Nz) (fl:List Nat) (root:Nat) (many:Int) (h:TreeR w t nv fv Z fl root many) (hZ:Z.length<=109951162) (at_:Nat) (last:Bool) (g:Nat) (hs:zes g (ndsZ Z) at_ last) :
 Calls Tryz.prog 172 #[.pointer (some ⟨t,0,none⟩),.int .i64 at_,.bool last] w fun e w'=>e=.returned (.agg #[.string (endA g (ndsZ Z) at_ last).1,.int .i64 (endA g (ndsZ Z) at_ last).2])/\Fr No w w':=by
 have a6:0<Z.length:=by
  cases g with
  | zero=>exact absurd hs id
  | succ g=>have:=hs.1;rw [zaw] at this;omega
 obtain ⟨nb,no,cap,rfl,aA⟩:=h.headLen a6;have H:=H_ h;have HS:=H_ hs;clear h hs;generalize N:endA g (ndsZ Z) at_ last=L;have M:=H_ N;clear N;cases last
 · go_enter Tryz.func172,Tryz.ntmps172
   go_wp2_with fail
   go_loopg [1] g (fun gg P wr=>∃ c:Nat,P=.int .i64 c/\Hid (zes gg (ndsZ Z) c false)/\Hid (endA gg (ndsZ Z) c false=L)/\Hid (Fr No w wr)/\Hid (∃ s i,wr.heap[w.heap.size]?=some (.cells #[.string s,.int .i64 i] 122 (0,0))))
   case atStart=>exact ⟨at_,rfl,HS,M,H_ ((Fr.refl No w).alloc _),H_ ⟨_,_,zad _ _ _ rfl⟩⟩
   case round =>
    obtain ⟨c,rfl,F,T,U,HB⟩:=hrel
    cases gk with
    | zero=>exact absurd F.out id
    | succ q =>
      obtain ⟨P,s2,s3,s4,K⟩:=F.out;have a:=T.out;unfold endA at a;obtain ⟨z,D,A⟩:=zdb P;rw [A] at s2 s3 s4 K a;have ad:c<Z.length:=(List.getElem?_eq_some_iff.1 D).1;have k:=H.out.fr0 U.out;obtain ⟨b,i,f⟩:=HB.out;obtain ⟨a1,a2,_,_⟩:=k.look c z D;have c0:=k.obj.cell 0 rfl;have r:=k.pairs c z D;have C:=k.kids c z D;obtain ⟨pa,a3,x,az,av,B⟩:=r.shape;obtain ⟨ka,W,u,aj,ax,v⟩:=C.shape;obtain ⟨pb,po,rfl⟩:=B (by omega);rw [x] at a1 r;rw [u] at a2 C;have a4:(c:Int)<(Z.length:Int):=(by omega);have x0:wr.cell? ⟨w.heap.size,0,none⟩=some (.string b):=cellAt f 0 rfl;have x1:wr.cell? ⟨w.heap.size,1,none⟩=some (.int .i64 i):=cellAt f 1 rfl
      have xf:∀ j,wr.frozen? ⟨w.heap.size,j,none⟩=false:=fun j=>by simp [World.frozen?,f]
      have aw:w.heap.size<wr.heap.size:=zaa f;have ao:t<wr.heap.size:=k.obj.lt;have ay:nb<wr.heap.size:=k.nodes.lt nb rfl;have ar:pb<wr.heap.size:=r.lt pb rfl;have al:(0:Int)<(z.nd.pairs.length:Int):=(by omega);have a0:(0:Int)<=(z.nd.pairs.length:Int)-1:=(by omega);have Y:(z.nd.pairs.length:Int)-1<(z.nd.pairs.length:Int):=(by omega);have ah:((z.nd.pairs.length:Int)-1).toNat=z.nd.pairs.length-1:=(by omega);have ab:(z.nd.pairs.length:Int)<=9:=(by omega)
      have E:∀ (o:Obj) (y:ByteArray×Int),(((wr.setCell ⟨w.heap.size,0,none⟩ (.string y.1)).setCell ⟨w.heap.size,1,none⟩ (.int .i64 y.2)).alloc o).heap[w.heap.size]?=some (.cells #[.string y.1,.int .i64 y.2] 122 (0,0)):=fun o y=>by
       have h1:=zab (zab f 0 (.string y.1)) 1 (.int .i64 y.2);rw [zaj h1 o];simp
      have G:∀ (o:Obj) (y:ByteArray×Int),Fr No w (((wr.setCell ⟨w.heap.size,0,none⟩ (.string y.1)).setCell ⟨w.heap.size,1,none⟩ (.int .i64 y.2)).alloc o):=fun o y =>
       (((U.out.setCell (p:=⟨w.heap.size,0,none⟩) (.inr (Nat.le_refl _)) _).setCell (p:=⟨w.heap.size,1,none⟩) (.inr (Nat.le_refl _)) _)).alloc o
      have Q:=H_ E;have S:=H_ G;clear E G;by_cases hk0:z.nd.kids = []
      · rw [if_pos hk0] at a
        have I:z.nd.kids.length=0:=(by rw [hk0];rfl);rw [I] at a2;obtain ⟨y,l⟩:∃ y,z.nd.pairs[0]?=some y:=⟨_,List.getElem?_eq_getElem (by omega)⟩;have d:y=L:=(by rw [<-a,if_neg (by decide)];unfold List.getD;rw [l];rfl);have X:=r.cell0 zag 0 l rfl;have y1:=r.cell zag 0 1 l rfl;simp only [Nat.zero_mul,Nat.add_zero] at X y1;have V:=H_ d;clear d l a hk0 I r C x u k D A K B v f;go_wp2;rw [<-V.out];exact bodyPost_ret (results_cell_row rfl _ _ w.heap.size 122 _ (0,0) _ rfl (Q.out _ y) Tryz.underlying122 rfl (by kernel_rfl)) rfl ⟨rfl,S.out _ y⟩
      rw [if_neg hk0] at a
      have m:=K hk0;have n:0<z.nd.kids.length:=List.length_pos_iff.2 hk0;obtain ⟨kb,ko,rfl⟩:=v n;have a9:(0:Int)<(z.nd.kids.length:Int):=(by omega);have aa:((z.nd.kids.length:Int)==0)=false:=(by simp;omega);have af:(0:Int)<=(z.nd.kids.length:Int)-1:=(by omega);have ae:(z.nd.kids.length:Int)-1<(z.nd.kids.length:Int):=(by omega);have ag:((z.nd.kids.length:Int)-1).toNat=z.nd.kids.length-1:=(by omega);have a7:(z.nd.kids.length:Int)<=10:=(by omega);have ap:kb<wr.heap.size:=C.lt kb rfl;obtain ⟨y,l⟩:∃ y,z.nd.kids[0]?=some y:=⟨_,List.getElem?_eq_getElem (by omega)⟩;have d:z.nd.kids.getD 0 0=y:=(by simp [List.getD,l]);rw [if_neg (by decide),d] at a m;have X:=C.cell1 zah 0 l rfl;simp only [Nat.add_zero] at X;have J:=H_ a
      have O:=H_ m;have R:Hid (∀ o,∃ s i,(wr.alloc o).heap[w.heap.size]?=some (.cells #[.string s,.int .i64 i] 122 (0,0))):=H_ fun o=>⟨b,i,zaj f o⟩;clear d l a m hk0 r C x u k D A K B v f;go_wp2;go_roundg q
      case rel=>exact ⟨y,rfl,O,J,H_ (U.out.alloc _),H_ (R.out _)⟩
      case measure=>omega
 go_enter Tryz.func172,Tryz.ntmps172
 go_wp2_with fail
 go_loopg [1] g (fun gg P wr=>∃ c:Nat,P=.int .i64 c/\Hid (zes gg (ndsZ Z) c true)/\Hid (endA gg (ndsZ Z) c true=L)/\Hid (Fr No w wr)/\Hid (∃ s i,wr.heap[w.heap.size]?=some (.cells #[.string s,.int .i64 i] 122 (0,0))))
 case atStart=>exact ⟨at_,rfl,HS,M,H_ ((Fr.refl No w).alloc _),H_ ⟨_,_,zad _ _ _ rfl⟩⟩
 case round =>
  obtain ⟨c,rfl,F,T,U,HB⟩:=hrel
  cases gk with
  | zero=>exact absurd F.out id
  | succ q =>
    obtain ⟨P,s2,s3,s4,K⟩:=F.out;have a:=T.out;unfold endA at a;obtain ⟨z,D,A⟩:=zdb P;rw [A] at s2 s3 s4 K a;have ad:c<Z.length:=(List.getElem?_eq_some_iff.1 D).1;have k:=H.out.fr0 U.out;obtain ⟨b,i,f⟩:=HB.out;obtain ⟨a1,a2,_,_⟩:=k.look c z D;have c0:=k.obj.cell 0 rfl;have r:=k.pairs c z D;have C:=k.kids c z D;obtain ⟨pa,a3,x,az,av,B⟩:=r.shape;obtain ⟨ka,W,u,aj,ax,v⟩:=C.shape;obtain ⟨pb,po,rfl⟩:=B (by omega);rw [x] at a1 r;rw [u] at a2 C;have a4:(c:Int)<(Z.length:Int):=(by omega);have x0:wr.cell? ⟨w.heap.size,0,none⟩=some (.string b):=cellAt f 0 rfl;have x1:wr.cell? ⟨w.heap.size,1,none⟩=some (.int .i64 i):=cellAt f 1 rfl
    have xf:∀ j,wr.frozen? ⟨w.heap.size,j,none⟩=false:=fun j=>by simp [World.frozen?,f]
    have aw:w.heap.size<wr.heap.size:=zaa f;have ao:t<wr.heap.size:=k.obj.lt;have ay:nb<wr.heap.size:=k.nodes.lt nb rfl;have ar:pb<wr.heap.size:=r.lt pb rfl;have al:(0:Int)<(z.nd.pairs.length:Int):=(by omega);have a0:(0:Int)<=(z.nd.pairs.length:Int)-1:=(by omega);have Y:(z.nd.pairs.length:Int)-1<(z.nd.pairs.length:Int):=(by omega);have ah:((z.nd.pairs.length:Int)-1).toNat=z.nd.pairs.length-1:=(by omega);have ab:(z.nd.pairs.length:Int)<=9:=(by omega)
    have E:∀ (o:Obj) (y:ByteArray×Int),(((wr.setCell ⟨w.heap.size,0,none⟩ (.string y.1)).setCell ⟨w.heap.size,1,none⟩ (.int .i64 y.2)).alloc o).heap[w.heap.size]?=some (.cells #[.string y.1,.int .i64 y.2] 122 (0,0)):=fun o y=>by
     have h1:=zab (zab f 0 (.string y.1)) 1 (.int .i64 y.2);rw [zaj h1 o];simp
    have G:∀ (o:Obj) (y:ByteArray×Int),Fr No w (((wr.setCell ⟨w.heap.size,0,none⟩ (.string y.1)).setCell ⟨w.heap.size,1,none⟩ (.int .i64 y.2)).alloc o):=fun o y =>
     (((U.out.setCell (p:=⟨w.heap.size,0,none⟩) (.inr (Nat.le_refl _)) _).setCell (p:=⟨w.heap.size,1,none⟩) (.inr (Nat.le_refl _)) _)).alloc o
    have Q:=H_ E;have S:=H_ G;clear E G;by_cases hk0:z.nd.kids = []
    · rw [if_pos hk0] at a
      have I:z.nd.kids.length=0:=(by rw [hk0];rfl);rw [I] at a2;obtain ⟨y,l⟩:∃ y,z.nd.pairs[z.nd.pairs.length-1]?=some y:=⟨_,List.getElem?_eq_getElem (by omega)⟩;have d:y=L:=(by rw [<-a,if_pos rfl];unfold lastOf List.getD;rw [l];rfl);have X:=r.cell0 zag _ l rfl;have y1:=r.cell zag _ 1 l rfl;have V:=H_ d;clear d l a hk0 I r C x u k D A K B v f;go_wp2;rw [<-V.out];exact bodyPost_ret (results_cell_row rfl _ _ w.heap.size 122 _ (0,0) _ rfl (Q.out _ y) Tryz.underlying122 rfl (by kernel_rfl)) rfl ⟨rfl,S.out _ y⟩
    rw [if_neg hk0] at a
    have m:=K hk0;have n:0<z.nd.kids.length:=List.length_pos_iff.2 hk0;obtain ⟨kb,ko,rfl⟩:=v n;have a9:(0:Int)<(z.nd.kids.length:Int):=(by omega);have aa:((z.nd.kids.length:Int)==0)=false:=(by simp;omega);have af:(0:Int)<=(z.nd.kids.length:Int)-1:=(by omega);have ae:(z.nd.kids.length:Int)-1<(z.nd.kids.length:Int):=(by omega);have ag:((z.nd.kids.length:Int)-1).toNat=z.nd.kids.length-1:=(by omega);have a7:(z.nd.kids.length:Int)<=10:=(by omega);have ap:kb<wr.heap.size:=C.lt kb rfl;obtain ⟨y,l⟩:∃ y,z.nd.kids[z.nd.kids.length-1]?=some y:=⟨_,List.getElem?_eq_getElem (by omega)⟩;have d:lastOf z.nd.kids 0=y:=(by simp [lastOf,List.getD,l]);rw [if_pos rfl,d] at a m;have X:=C.cell1 zah _ l rfl;have J:=H_ a;have O:=H_ m
    have R:Hid (∀ o,∃ s i,(wr.alloc o).heap[w.heap.size]?=some (.cells #[.string s,.int .i64 i] 122 (0,0))):=H_ fun o=>⟨b,i,zaj f o⟩;clear d l a m hk0 r C x u k D A K B v f;go_wp2;go_roundg q
    case rel=>exact ⟨y,rfl,O,J,H_ (U.out.alloc _),H_ (R.out _)⟩
    case measure=>omega
end Go.Proofs.YthljnnjpmdgkoaaGreat