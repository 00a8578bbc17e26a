/- Own lemmas. -/
import Derived.Test.YtdgkdfmfoonbpaaGreatR06
import Derived.Test.YtdgkdfmfoonbpaaGreatR05
import Derived.Laws.Rows
namespace Go.Proofs.YtdgkdfmfoonbpaaGreat
open Go Go.Proofs Go.RowKit
set_option maxRecDepth 100000
theorem spotZ {w:World} {t:Nat} {nv fv:Value} {Z:List Nz} {fl:List Nat} {root:Nat} {many:Int} (h:TreeR w t nv fv Z fl root many) (at_:Nat) (z:Nz) (hz:Z[at_]?=some z) (h9:z.nd.pairs.length<=9) (hZ:Z.length<=1099511627) (key:ByteArray) :
 Calls Tryz.prog 134 #[.pointer (some ⟨t,0,none⟩),.int .i64 at_,.string key] w fun e w'=>e=.returned (zbq z.nd.pairs key)/\w=w':=by
 refine zpr w t at_ nv z.pv z.kv (Z.map fun z=>(z.pv,z.kv)) z.nd.pairs key (h.obj.cell 0 rfl) (SlF.mapped (f:=nodeC) (g:=fun z:Nz=>(z.pv,z.kv)) (h:=nzC) (fun _=>rfl) h.nodes) (by rw [List.getElem?_map,hz];rfl) (by simp;omega) (h.pairs at_ z hz) (by omega)
set_option maxHeartbeats 2000000 in
theorem zju (w:World) (t:Nat) (A:Arr) (fl:List Nat) (root:Nat) (many:Int) (F:Nat->Prop) (T:Pairs) (key:ByteArray) (h:TreeZ w t A fl root many F) (hg:GoodT A fl root T) (hA:A.length<=109951162) :
 Calls Tryz.prog 105 #[.pointer (some ⟨t,0,none⟩),.string key] w fun e w'=>e=.returned (zcg (getT T key))/\Fr No w w':=by
 obtain ⟨nv,fv,Z,N,O,hF⟩:=h;obtain ⟨D,q⟩:=hg;have o:=ztf key D (D+1) A root (Nat.le_refl _) q.pt.wf (by rw [q.trav];exact q.sorted);rw [q.trav] at o;have aA:Z.length<=109951162:=by rw [<-zas,O];exact hA
 have az:root<Z.length:=by rw [<-zas,O];exact q.pt.lt
 obtain ⟨nb,no,cap,rfl,a3⟩:=N.headLen (by omega);have c2:=N.obj.cell 2 rfl;have HR:=H_ N;have HZ:=H_ O;have H:=H_ o;have HW:=H_ q.pt.wf;have G:=q.pt.lt;have Y:=q.hi;have R:=H_ G;have H9:=H_ Y;clear N O hF q o G Y;generalize getT T key=L at *;go_enter Tryz.func105,Tryz.ntmps105;go_wp2_with fail
 go_loopg [6] (D+1) (fun g s6 wr=>∃ (d a:Nat),s6=.int .i64 a/\g=d+1/\Hid (Fr No w wr)/\Hid (nWf A d (ndA A a))/\Hid (a<A.length)/\Hid ((ndA A a).pairs.length<=9)/\Hid (getA (d+1) A a key=L))
 case atStart=>exact ⟨D,root,rfl,rfl,H_ (Fr.refl _ _),HW,R,H9,H⟩
 case round =>
  obtain ⟨d,a,rfl,rfl,M,I,HL,Q,HG⟩:=hrel;obtain ⟨z,B,j⟩:=zbi HZ.out HL.out;have a0:a<Z.length:=(List.getElem?_eq_some_iff.1 B).1;have c:=HR.out.fr0 M.out;have f:=spotZ c a z B (by rw [j];exact Q.out) (by omega) key;unfold zbq at f;obtain ⟨a1,X,_,_⟩:=c.look a z B;have d0:=c.obj.cell 0 rfl;have E:=c.pairs a z B;have C:=c.kids a z B;obtain ⟨pa,af,x,ax,ay,v⟩:=E.shape;obtain ⟨ka,ab,u,ar,au,r⟩:=C.shape;rw [x] at a1 E;rw [u] at X C;have aq:(a:Int)<(Z.length:Int):=(by omega);have b:getA (d+1) A a key=L:=HG.out;unfold getA at b;rw [<-j] at b;have a8:nb<wr.heap.size:=c.nodes.lt nb rfl;have G:t<wr.heap.size:=c.obj.lt
  cases hh:hitOf z.nd.pairs key with
  | true =>
    obtain ⟨m,P⟩:=hit_at hh;have ap:=(List.getElem?_eq_some_iff.1 P).1;obtain ⟨pb,po,rfl⟩:=v (by omega);have hc:=E.cell zad _ 1 P rfl;rw [hh,if_pos rfl,P] at b;rw [hh] at f;have n:=H_ b;have a4:(spotOf z.nd.pairs key:Int)<(z.nd.pairs.length:Int):=(by omega);have a9:pb<wr.heap.size:=E.lt pb rfl;have l:=M;clear b hh P x u E C c B j v r;generalize spotOf z.nd.pairs key=i at *;go_wp2_with (go_at_call 134;refine f.mono ?_;clear f;rintro e w' ⟨rfl,rfl⟩)
    go_ret2
    exact ⟨by rw [<-n.out];rfl,l.out.alloc _⟩
  | false =>
    rw [hh] at f b;simp only [Bool.false_eq_true,if_false] at b;by_cases hk0:z.nd.kids = []
    · rw [if_pos hk0] at b
      have s:z.nd.kids.length=0:=(by rw [hk0];rfl);rw [s] at X;have n:=H_ b;have l:=M;clear b hh x u E C c B j v r hk0 s;generalize spotOf z.nd.pairs key=i at *;go_wp2_with (go_at_call 134;refine f.mono ?_;clear f;rintro e w' ⟨rfl,rfl⟩)
      go_ret2
      exact ⟨by rw [<-n.out];rfl,l.out.alloc _⟩
    rw [if_neg hk0] at b
    cases d with
    | zero =>
      have K:(ndA A a).kids = []:=I.out;rw [<-j] at K;exact absurd K hk0
    | succ d =>
      have y:=I.out;rw [<-j] at y;have s:z.nd.kids.length=z.nd.pairs.length+1:=y.1;have W:=zbm z.nd.pairs key;obtain ⟨kid,k⟩:∃ kid,z.nd.kids[spotOf z.nd.pairs key]?=some kid:=⟨_,List.getElem?_eq_getElem (by omega)⟩;have J:kidA A a (spotOf z.nd.pairs key)=kid:=(by unfold kidA;rw [<-j];simp [List.getD,k]);obtain ⟨w1,w4,w9,ww⟩:=y.2 kid (List.mem_of_getElem? k);rw [J] at b;obtain ⟨kb,ko,rfl⟩:=r (by omega);have av:=C.cell1 zag _ k rfl;have n:=H_ b;have S:=H_ w1;have U:=H_ w9;have V:=H_ ww;have a5:(spotOf z.nd.pairs key:Int)<(z.nd.kids.length:Int):=(by omega);have aw:(z.nd.kids.length:Int)≠0:=(by omega);have a6:((z.nd.kids.length:Int)==0)=false:=(by simp;omega);have a7:kb<wr.heap.size:=C.lt kb rfl;have l:=M
      clear b hh x u E C c B j v r hk0 s W k J w1 w9 ww y;generalize spotOf z.nd.pairs key=i at *;go_wp2_with (go_at_call 134;refine f.mono ?_;clear f;rintro e w' ⟨rfl,rfl⟩);go_roundg (d+1)
      case rel=>exact ⟨d,kid,rfl,rfl,H_ (l.out.alloc _),V,S,U,n⟩
      case measure=>omega
theorem zre (w:World) (t:Nat) (A:Arr) (fl:List Nat) (root:Nat) (many:Int) (F:Nat->Prop) (h:TreeZ w t A fl root many F) :
 Calls Tryz.prog 59 #[.pointer (some ⟨t,0,none⟩)] w fun e w'=>e=.returned (.int .i64 many)/\w=w':=by
 obtain ⟨nv,fv,Z,a,b,hF⟩:=h;have c:=a.obj.cell 3 rfl;clear a b hF;go_enter Tryz.func59,Tryz.ntmps59;go_wp2;go_ret;exact ⟨rfl,rfl⟩
theorem zrd (w:World):Calls Tryz.prog 49 #[] w fun e w'=>∃ t,e=.returned (.pointer (some ⟨t,0,none⟩))/\∃ F,TreeZ w' t [nd0] [] 0 0 F/\Fr No w w'/\(∀ b,F b->w.heap.size<=b):=by
 have g:∀ w,(Instr.makeSlice 145 (.int .i64 1) (.int .i64 1)).run Tryz.prog w=.ok (.slice (some ⟨w.heap.size,0,none⟩) 1 1) (w.alloc (.cells #[.slice none 0 0,.slice none 0 0] 194)):=fun _=>by kernel_rfl
 go_enter Tryz.func49,Tryz.ntmps49;go_wp2;go_ret;have c:∀ (i:Nat) z,[nz0][i]?=some z->z=nz0:=fun i z a=>by have:=List.mem_of_getElem? a;simpa using this
 have f:∀ b,¬ zown nz0 b:=by rintro b (e | e) <;> simp [nz0,Value.ownBlock] at e
 refine ⟨_,rfl,_,⟨.slice (some ⟨w.heap.size,0,none⟩) 1 1,.slice none 0 0,[nz0],⟨?_,?_,SlF.nil _ _ _ _,?_,?_,?_,?_,?_,?_⟩,rfl,fun b=>Iff.rfl⟩,((Fr.refl _ w).alloc _).alloc _,?_⟩
 · exact ⟨_,zae _ _ _ (by simp)⟩
 · exact ⟨rfl,.inr ⟨_,_,_,_,rfl,zaq (zae _ _ _ rfl) _,by simp,by unfold maxLen;omega,by simp,rfl⟩⟩
 · intro i z a;rw [c i z a];exact SlF.nil _ _ _ _
 · intro i z a;rw [c i z a];exact SlF.nil _ _ _ _
 · refine ⟨by simp [Value.ownBlock],by simp [Value.ownBlock],fun b _=>by simp [Value.ownBlock]⟩
 · intro i z b a d;rw [c i z a] at d;exact absurd d (f b)
 · intro i z b a d;rw [c i z a] at d;exact absurd (.inl d) (f b)
 · intro i j z y b a _ d _;rw [c i z a] at d;exact absurd d (f b)
 rintro b (rfl | e | e | ⟨i,z,a,d⟩)
 · omega
 · simp [Value.ownBlock] at e;omega
 · simp [Value.ownBlock] at e
 rw [c i z a] at d;exact absurd d (f b)
open Go Go.RowKit
theorem zeq {P:Program} (w:World) (t ty e:TypeId) (i:TypeInfo) (ht:P.underlying t=some (.slice e)) (hi:P.info? e=some i) (a sp:Option Addr) (n cap c:Nat) (hn:n<=cap) :
 (Builtin.append_ #[t,t] ty #[.slice a n cap,.slice sp 0 c]).run P w=.ok (.slice a n cap) w:=by
 cases a <;> cases sp <;> simp [Builtin.append_,run_underlying ht,sizeOf,typeInfo,hi,Builtin.lenOf,hn,Builtin.firstCells,loadCells,loadCellsFrom,storeCells]
theorem zja {α:Type} {f:α->List Value} {P:Program} (w:World) (t ty e:TypeId) (i:TypeInfo) (z:Value) (ht:P.underlying t=some (.slice e)) (hi:P.info? e=some i) (hz:i.zero=some z) (hzs:z.cells.size=i.size) (hsz:0<i.size)
 (hf:∀ x,(f x).length=i.size) (h1:∀ x,∀ u∈f x,u.oneCell'=true) (v x:Value) (L M:List α) (hv:SlF w e i.size f v L) (hx:SlF w e i.size f x M) (h63:L.length+M.length<=maxLen) (hbytes:(L.length+M.length) * i.bytes<=140737488355328) :
 ∃ v' w',(Builtin.append_ #[t,t] ty #[v,x]).run P w=.ok v' w'/\SlF w' e i.size f v' (L++M)/\Fr (fun b=>v.ownBlock=some b) w w'/\(∀ b,v'.ownBlock=some b->v.ownBlock=some b\/w.heap.size<=b):=by
 rcases Nat.eq_zero_or_pos M.length with q | l
 · obtain rfl:=List.eq_nil_of_length_eq_zero q
   obtain ⟨a,cap,rfl,B,_⟩:=hv.shape;obtain ⟨m,c,rfl,_⟩:=hx.shape;exact ⟨_,w,zeq w t ty e i ht hi a m _ cap c B,by rw [List.append_nil];exact hv,Fr.refl _ w,fun b hb=>.inl hb⟩
 obtain ⟨m,c,rfl,C,D,d⟩:=hx.shape
 obtain ⟨n,G,rfl⟩:=d l
 obtain ⟨g,o,cap,w',E,r,s,A,H⟩:=zcb (P:=P) w t ty e i z ht hi hz hzs hsz v L.length (L.flatMap f) hv ⟨n,G,none⟩ M.length c (M.flatMap f) (zak hf M) l
  (fun j u hu=>SlF.cells hf hx j u hu) (fun u hu=>by obtain ⟨y,_,F⟩:=List.mem_flatMap.1 hu;exact h1 y u F) h63 hbytes
 refine ⟨_,w',E,?_,(Fr.refl _ w).grown s fun k hk=>.inl hk,fun b hb=>?_⟩
 · unfold SlF
   rw [List.length_append,List.flatMap_append];exact r
 obtain rfl:g=b:=by simpa [Value.ownBlock] using hb
 rcases A with e | e
 · exact .inl e
 right;omega
theorem zbh {α:Type} {f:α->List Value} {P:Program} {w:World} {ops:Array Oper} {o:Oper} {a:Act} {K:Act->World->Prop} {Q:Exit->Act->World->Prop} {E:Prop} (hgd:o.guard=none) (s x:Operand) (t:TypeId)
 (ho:o.op=.call { callee:=.builtin .append,args:=#[s,x],argTypes:=#[t,t] })
 (e:TypeId) (i:TypeInfo) (z:Value) (sz bytes:Nat) (ht:P.underlying t=some (.slice e)) (hi:P.info? e=some i) (hz:i.zero=some z) (hsize:i.size=sz) (hby:i.bytes=bytes) (hzs:z.cells.size=sz) (hsz:0<sz)
 (hf:∀ x,(f x).length=sz) (h1:∀ x,∀ u∈f x,u.oneCell'=true) (v xv:Value) (L M:List α) (hs:a.eval s=v) (hx:a.eval x=xv) (hv:SlF w e sz f v L) (hxv:SlF w e sz f xv M)
 (h63:L.length+M.length<=maxLen) (hbytes:(L.length+M.length) * bytes<=140737488355328)
 (h:∀ v' w',SlF w' e sz f v' (L++M)->Fr (fun b=>v.ownBlock=some b) w w'->(∀ b,v'.ownBlock=some b->v.ownBlock=some b\/w.heap.size<=b)->K (a.put o.dst v') w') :
 if Region.wanted o (yielded ops a.tmps)=true then Oper.wp P o a w K Q else E:=by
 have k:Region.wanted o (yielded ops a.tmps)=true:=by simp [Region.wanted,hgd]
 rw [if_pos k];subst hsize;subst hby;obtain ⟨v',w',j,c,d,g⟩:=zja (P:=P) (f:=f) w t o.type e i z ht hi hz hzs hsz hf h1 v xv L M hv hxv h63 hbytes;unfold Oper.wp execOp;simp only [ho,resolve,invoke,builtin,Sem.run_bind,Sem.run_pure,Result.andThen_ok,List.map_toArray,List.map_cons,List.map_nil,hs,hx,j];exact h v' w' c d g
theorem zgr (x:ByteArray×Int):∀ u∈pairC x,u.oneCell'=true:=by
 intro u a;simp [pairC] at a;rcases a with rfl | rfl <;> rfl
theorem zls (x:Nat):∀ u∈nat1 x,u.oneCell'=true:=by
 intro u a;simp [nat1] at a;subst a;rfl
theorem zow (W:World) (p:ByteArray×Int) (n:Nat) (hn:n=W.heap.size):SlF (W.alloc (.cells #[.string p.1,.int .i64 p.2] 125)) 125 2 pairC (.slice (some ⟨n,0,none⟩) 1 1) [p]:=by
 subst hn;exact ⟨rfl,.inr ⟨_,_,_,_,rfl,zae _ _ _ rfl,Nat.le_refl _,by unfold maxLen;omega,by simp,rfl⟩⟩
structure AtZ (w W:World) (t nb no cap:Nat) (fv:Value) (Z:List Nz) (fl:List Nat) (root:Nat) (many:Int) (F:Nat->Prop):Prop where
 r:TreeR W t (.slice (some ⟨nb,no,none⟩) Z.length cap) fv Z fl root many
 fr:Fr F w W
 new:∀ b,treeF t (.slice (some ⟨nb,no,none⟩) Z.length cap) fv Z b->F b\/w.heap.size<=b
theorem AtZ.fr0 {w W W':World} {t nb no cap:Nat} {fv:Value} {Z:List Nz} {fl:List Nat} {root:Nat} {many:Int} {F:Nat->Prop} (h:AtZ w W t nb no cap fv Z fl root many F) (hf:Fr No W W'):AtZ w W' t nb no cap fv Z fl root many F :=
 ⟨h.r.fr0 hf,h.fr.trans0 hf,h.new⟩
theorem AtZ.setPairs {w W w1:World} {t nb no cap:Nat} {fv pv':Value} {Z:List Nz} {fl:List Nat} {root:Nat} {many:Int} {F:Nat->Prop} {P':Pairs} (h:AtZ w W t nb no cap fv Z fl root many F) (i:Nat) (z:Nz) (hz:Z[i]?=some z)
 (hf:Fr (fun b=>z.pv.ownBlock=some b) W w1) (hs:SlF w1 125 2 pairC pv' P') (hown:∀ b,pv'.ownBlock=some b->z.pv.ownBlock=some b\/W.heap.size<=b) :
 AtZ w (w1.setCell ⟨nb,no+i * 2,none⟩ pv') t nb no cap fv (Z.set i ⟨⟨P',z.nd.kids⟩,pv',z.kv⟩) fl root many F:=by
 obtain ⟨c,d,f⟩:=h.r.setPairs i z hz hf hs hown;have a:=h.fr.size
 have key:∀ b,treeF t (.slice (some ⟨nb,no,none⟩) Z.length cap) fv Z b->b<w.heap.size->F b:=fun b hb hl=>by
  rcases h.new b hb with e | e
  · exact e
  omega
 refine ⟨by rw [List.length_set];exact c,h.fr.trans d fun b hb e=>?_,fun b hb=>?_⟩
 · rcases e with rfl | e
   · exact key b (.inr (.inl rfl)) hb
   exact key b (.inr (.inr (.inr ⟨i,z,hz,.inl e⟩))) hb
 rw [List.length_set] at hb
 rcases zbe hz f b hb with e | e
 · exact h.new b e
 exact .inr (by omega)
theorem AtZ.setKids {w W w1:World} {t nb no cap:Nat} {fv kv':Value} {Z:List Nz} {fl:List Nat} {root:Nat} {many:Int} {F:Nat->Prop} {K':List Nat} (h:AtZ w W t nb no cap fv Z fl root many F) (i:Nat) (z:Nz) (hz:Z[i]?=some z)
 (hf:Fr (fun b=>z.kv.ownBlock=some b) W w1) (hs:SlF w1 3 1 nat1 kv' K') (hown:∀ b,kv'.ownBlock=some b->z.kv.ownBlock=some b\/W.heap.size<=b) :
 AtZ w (w1.setCell ⟨nb,no+i * 2+1,none⟩ kv') t nb no cap fv (Z.set i ⟨⟨z.nd.pairs,K'⟩,z.pv,kv'⟩) fl root many F:=by
 obtain ⟨c,d,f⟩:=h.r.setKids i z hz hf hs hown;have a:=h.fr.size
 have key:∀ b,treeF t (.slice (some ⟨nb,no,none⟩) Z.length cap) fv Z b->b<w.heap.size->F b:=fun b hb hl=>by
  rcases h.new b hb with e | e
  · exact e
  omega
 refine ⟨by rw [List.length_set];exact c,h.fr.trans d fun b hb e=>?_,fun b hb=>?_⟩
 · rcases e with rfl | e
   · exact key b (.inr (.inl rfl)) hb
   exact key b (.inr (.inr (.inr ⟨i,z,hz,.inr e⟩))) hb
 rw [List.length_set] at hb
 rcases zbe hz f b hb with e | e
 · exact h.new b e
 exact .inr (by omega)
theorem AtZ.setPair {w W:World} {t nb no cap pb po pcap k:Nat} {fv:Value} {Z:List Nz} {fl:List Nat} {root:Nat} {many:Int} {F:Nat->Prop} (h:AtZ w W t nb no cap fv Z fl root many F) (i:Nat) (z:Nz) (hz:Z[i]?=some z)
 (hpv:z.pv=.slice (some ⟨pb,po,none⟩) z.nd.pairs.length pcap) (x y:ByteArray×Int) (hk:z.nd.pairs[k]?=some x) :
 AtZ w ((W.setCell ⟨pb,po+k * 2,none⟩ (.string y.1)).setCell ⟨pb,po+k * 2+1,none⟩ (.int .i64 y.2)) t nb no cap fv (Z.set i ⟨⟨z.nd.pairs.set k y,z.nd.kids⟩,z.pv,z.kv⟩) fl root many F:=by
 have g:Fr (fun b=>b=pb) W ((W.setCell ⟨pb,po+k * 2,none⟩ (.string y.1)).setCell ⟨pb,po+k * 2+1,none⟩ (.int .i64 y.2)) :=
  (Fr.setCell (S:=fun b=>b=pb) (Fr.setCell (S:=fun b=>b=pb) (Fr.refl _ W) (p:=⟨pb,po+k * 2,none⟩) (.inl rfl) _) (p:=⟨pb,po+k * 2+1,none⟩) (.inl rfl) _)
 have j:=h.r.pairs i z hz;rw [hpv] at j;have f:=SlF.set zad j k 0 (by omega) x (y.1,x.2) (.string y.1) hk rfl;have d:=(List.getElem?_eq_some_iff.1 hk).1;rw [Nat.add_zero] at f;have a:=SlF.set (L:=z.nd.pairs.set k (y.1,x.2)) (cap:=pcap) zad (by rw [List.length_set];exact f) k 1 (by omega) (y.1,x.2) y (.int .i64 y.2) (by rw [List.getElem?_set_self d]) rfl;rw [List.set_set,List.length_set] at a
 have m:=h.r.setPair i z hz hpv g (P':=z.nd.pairs.set k y) (by
  rw [hpv];unfold SlF at a ⊢
  rw [List.length_set] at a ⊢
  exact a)
 have c:zown z pb:=.inl (by rw [hpv];rfl);refine ⟨by rw [List.length_set];exact m,h.fr.trans g fun b hb e=>?_,fun b hb=>?_⟩
 · have l:b=pb:=e
   rcases h.new b (.inr (.inr (.inr ⟨i,z,hz,l▸c⟩))) with e | e
   · exact e
   omega
 rw [List.length_set] at hb
 rcases zbe (z':=⟨⟨z.nd.pairs.set k y,z.nd.kids⟩,z.pv,z.kv⟩) hz (B:=w.heap.size) (fun b e=>.inl e) b hb with e | e
 · exact h.new b e
 exact .inr e
set_option maxHeartbeats 4000000 in
theorem zgu (w:World) (t:Nat) (A:Arr) (fl:List Nat) (root:Nat) (many:Int) (F:Nat->Prop) (h:TreeZ w t A fl root many F) (at_ i:Nat) (hs:zbk A fl at_) (hi:i<(ndA A at_).pairs.length) (hA:A.length<=109951162) :
 Calls Tryz.prog 138 #[.pointer (some ⟨t,0,none⟩),.int .i64 at_,.int .i64 i] w fun e w'=>e=.returned (.tuple #[])/\∃ F',TreeZ w' t (joinA A at_ i) (fl++[kidA A at_ (i+1)]) root many F'/\Fr F w w'/\∀ b,F' b->F b\/w.heap.size<=b:=by
 obtain ⟨l,hl⟩:∃ l,(ndA A at_).kids[i]?=some l:=⟨_,List.getElem?_eq_getElem (by have:=hs.len;omega)⟩;obtain ⟨r,hr⟩:∃ r,(ndA A at_).kids[i+1]?=some r:=⟨_,List.getElem?_eq_getElem (by have:=hs.len;omega)⟩;obtain ⟨p,hp⟩:∃ p,(ndA A at_).pairs[i]?=some p:=⟨_,List.getElem?_eq_getElem hi⟩;have aX:kidA A at_ i=l:=by unfold kidA;simp [List.getD,hl]
 have au:kidA A at_ (i+1)=r:=by unfold kidA;simp [List.getD,hr]
 obtain ⟨l1,l2,l3,l4⟩:=hs.kid l (List.mem_of_getElem? hl);obtain ⟨r1,r2,r3,r4⟩:=hs.kid r (List.mem_of_getElem? hr);have b5:l≠r:=fun e=>by have:=hs.apart i (i+1) l hl (by rw [e];exact hr);omega
 have hj:joinA A at_ i=((A.set l ⟨(ndA A l).pairs++p :: (ndA A r).pairs,(ndA A l).kids++(ndA A r).kids⟩).set at_ ⟨(ndA A at_).pairs.take i++(ndA A at_).pairs.drop (i+1),(ndA A at_).kids.take (i+1)++(ndA A at_).kids.drop (i+2)⟩).set r nd0:=by
  unfold joinA;rw [aX,au];simp [List.getD,hp]
 obtain ⟨nv,fv,Z,f,hZ,hF⟩:=h;obtain ⟨c,x,am⟩:=zbi hZ hs.lt;obtain ⟨a,ay,an⟩:=zbi hZ l1;obtain ⟨d,az,ao⟩:=zbi hZ r1;have cB:Z.length<=109951162:=by rw [<-zas,hZ];exact hA
 have c3:at_<Z.length:=(List.getElem?_eq_some_iff.1 x).1;have bI:l<Z.length:=(List.getElem?_eq_some_iff.1 ay).1;have bK:r<Z.length:=(List.getElem?_eq_some_iff.1 az).1;obtain ⟨j,no,cap,rfl,c6⟩:=f.headLen (by omega);have ab:=hs.len;have bG:=hs.hi;have cC:=hs.free;rw [<-am] at hl hr hp ab bG hi;rw [<-an] at l3 l4;rw [<-ao] at r3 r4;rw [<-an,<-ao,<-am] at hj;have aS:AtZ w w t j no cap fv Z fl root many F:=⟨f,Fr.refl _ w,fun b hb=>.inl ((hF b).2 hb)⟩;have c0:=f.obj.cell 0 rfl;obtain ⟨a1,a2,a3,a4⟩:=f.look at_ c x;obtain ⟨pa,cm,b8,cI,cJ,b7⟩:=(f.pairs at_ c x).shape;obtain ⟨ka,cg,aZ,cE,cF,aW⟩:=(f.kids at_ c x).shape;obtain ⟨pb,po,rfl⟩:=b7 (by omega);obtain ⟨kb,ko,rfl⟩:=aW (by omega);have s:=f.kids at_ c x;rw [aZ] at a2 s
 have kl:=s.cell1 zag i hl rfl;have kr:=s.cell1 zag (i+1) hr rfl;have c4:(at_:Int)<(Z.length:Int):=by omega
 have cH:(l:Int)<(Z.length:Int):=by omega
 have cK:(r:Int)<(Z.length:Int):=by omega
 have cD:(i:Int)<(c.nd.kids.length:Int):=by omega
 have c8:(i:Int)+1<(c.nd.kids.length:Int):=by omega
 have c9:(0:Int)<=(i:Int)+1:=by omega
 have ca:((i:Int)+1).toNat=i+1:=by omega
 have cc:c.nd.kids.length<=10:=by omega
 have bu:=H_ aS;have HZ:=H_ hZ;have HJ:=H_ hj;have bn:=H_ au;have al:=H_ x;have z:=H_ ay;have W:=H_ az;have HP:=H_ hp;have aM:=H_ b8;have aJ:=H_ b5;clear aS hZ hj au x ay az hp b8 b5 f hF hs hl hr aX am an ao b7 aW aZ s a3 a4 ab l1 r1;go_enter Tryz.func138,Tryz.ntmps138;go_upto_region 1 with fail
 go_quiet (fail)
 have a5:=Fr.drewN No w nq;generalize w.drewN nq=W1 at a5 ⊢
 have aT:=bu.out.fr0 a5;have bz:=a5.cell0 c0;have bv:=H_ aT;clear a5 aT c0 a1 a2 kl kr;go_upto_region 2 with fail
 go_quiet (fail)
 have ax:=Fr.drewN No W1 nq;generalize W1.drewN nq=X at ax ⊢
 have aU:=bv.out.fr0 ax;have aN:=H_ aU;clear ax aU bz
 -- the pairs
 go_upto_region 3 with fail
 go_cut [44] (fun _ wx=>∃ y,Hid (AtZ w wx t j no cap fv (Z.set l ⟨⟨a.nd.pairs++p :: d.nd.pairs,a.nd.kids⟩,y,a.kv⟩) fl root many F))
 case first =>
  obtain ⟨i0,a0,a6,a7,a8⟩:=info_parts info127;have f:=aN.out.r;obtain ⟨b1,b2,b3,b4⟩:=f.look at_ c al.out;obtain ⟨e1,e2,e3,e4⟩:=f.look l a z.out;obtain ⟨d1,d2,d3,d4⟩:=f.look r d W.out;rw [aM.out] at b1;have o:=f.pairs at_ c al.out;rw [aM.out] at o;have x0:=o.cell0 zad i HP.out rfl;have x1:=o.cell zad i 1 HP.out rfl;have M:=f.pairs l a z.out;have Q:=f.pairs r d W.out;have m:¬ a.pv.ownBlock=some j:=fun e=>(f.a2 l _ j z.out (.inl e)).2.1 rfl;have ba:∀ b,d.pv.ownBlock=some b->¬ a.pv.ownBlock=some b:=fun b e e'=>aJ.out (f.a4 l r a d b z.out W.out (.inl e') (.inl e));have b0:j<X.heap.size:=f.nodes.lt j rfl;have cG:pb<X.heap.size:=o.lt pb rfl;have cb:(i:Int)<(c.nd.pairs.length:Int):=(by omega);have ag:=H_ M;have ai:=H_ Q
  have bs:=H_ ba;have cu:Hid (∀ b,zown a b->b<X.heap.size):=H_ fun b hb=>f.zlt z.out hb;clear f o M Q ba
  go_region_law (first
   | (refine zbh rfl _ _ 122 rfl 125 i0 _ 2 24 Tryz.underlying122 a0 a6 a7 a8 rfl (by decide) zad zgr a.pv (.slice (some ⟨X.heap.size,0,none⟩) 1 1) a.nd.pairs [p] rfl rfl (ag.out.fr0 ((Fr.refl No X).drew.alloc _)) (zow X.drew p _ rfl) (by unfold maxLen;simp;omega) (by simp;omega) ?_
      intro v1 w4 B J K;have k:Fr (fun b=>a.pv.ownBlock=some b) X w4:=((Fr.refl _ X).drew.alloc _).trans J fun _ _ e=>e;have u1:=k.cell e1 m;have u2:=k.free e1 e3 m;have u3:=k.cell d1 m;have aj:=H_ B;have D:=H_ k;have E:=H_ K;clear B J K k)
   | (refine zbh rfl _ _ 122 rfl 125 i0 _ 2 24 Tryz.underlying122 a0 a6 a7 a8 rfl (by decide) zad zgr v1 d.pv (a.nd.pairs++[p]) d.nd.pairs rfl rfl aj.out (ai.out.fr D.out bs.out) (by unfold maxLen;simp;omega) (by simp;omega) ?_
      intro y w5 C n L;obtain ⟨va,V,R,_,_,_⟩:=C.shape;generalize (a.nd.pairs++[p]++d.nd.pairs).length=n2 at R;subst R
      have b6:¬ v1.ownBlock=some j:=fun e=>by
       rcases E.out j e with e | e
       · exact m e
       simp at e;omega
      have y1:=n.cell u1 b6;have y2:=n.free u1 u2 b6;have ak:=H_ C;have ad:=H_ n;have ae:=H_ L;clear C n L))
  all_goals
   have aR:Fr (fun b=>a.pv.ownBlock=some b) X w5:=D.out.trans ad.out fun b hb e=>by
    rcases E.out b e with e | e
    · exact e
    simp at e;omega
   have v:=aN.out.setPairs (w1:=w5) (pv':=.slice va n2 V) (P':=a.nd.pairs++p :: d.nd.pairs) l a z.out aR (by have:=ak.out;simpa using this) fun b e=>by
    have bL:=D.out.size;rcases ae.out b e with e | e
    · rcases E.out b e with e | e
      · exact .inl e
      simp at e;exact .inr (by omega)
    exact .inr (by omega)
   have HQ:=H_ v;clear v aR;go_wp2_with fail;go_meet
   case rel=>exact ⟨_,HQ⟩
 case rest =>
  obtain ⟨y,HQ⟩:=hcut;have T:(Z.set l ⟨⟨a.nd.pairs++p :: d.nd.pairs,a.nd.kids⟩,y,a.kv⟩)[l]?=some ⟨⟨a.nd.pairs++p :: d.nd.pairs,a.nd.kids⟩,y,a.kv⟩:=List.getElem?_set_self bI;have U:(Z.set l ⟨⟨a.nd.pairs++p :: d.nd.pairs,a.nd.kids⟩,y,a.kv⟩)[r]?=some d:=(by rw [List.getElem?_set_ne aJ.out];exact W.out);have S:(Z.set l ⟨⟨a.nd.pairs++p :: d.nd.pairs,a.nd.kids⟩,y,a.kv⟩)[at_]?=some c:=(by rw [List.getElem?_set_ne l2];exact al.out);have N:ndsZ (Z.set l ⟨⟨a.nd.pairs++p :: d.nd.pairs,a.nd.kids⟩,y,a.kv⟩)=A.set l ⟨a.nd.pairs++p :: d.nd.pairs,a.nd.kids⟩:=(by rw [zau,HZ.out]);have av:(Z.set l ⟨⟨a.nd.pairs++p :: d.nd.pairs,a.nd.kids⟩,y,a.kv⟩).length=Z.length:=(by simp)
  generalize Z.set l ⟨⟨a.nd.pairs++p :: d.nd.pairs,a.nd.kids⟩,y,a.kv⟩=Z2 at HQ T U S N av;have q:=H_ T;have H:=H_ U;have aa:=H_ S;have a9:=H_ N;have af:=H_ av;clear T U S N av
  -- the kids
  go_upto_region 4 with fail
  go_cut [65] (fun _ wx=>∃ k2,Hid (AtZ w wx t j no cap fv (Z2.set l ⟨⟨a.nd.pairs++p :: d.nd.pairs,a.nd.kids++d.nd.kids⟩,y,k2⟩) fl root many F))
  case first =>
   obtain ⟨i0,a0,a6,a7,a8⟩:=info_parts info3;have f:=HQ.out.r;obtain ⟨e1,e2,e3,e4⟩:=f.look l _ q.out;obtain ⟨d1,d2,d3,d4⟩:=f.look r d H.out;have M:=f.kids l _ q.out;have Q:=f.kids r d H.out;have m:¬ a.kv.ownBlock=some j:=fun e=>(f.a2 l _ j q.out (.inr e)).2.1 rfl;have b0:j<wc.heap.size:=f.nodes.lt j rfl;have ag:=H_ M;have ai:=H_ Q;dsimp only at e2 e4
   have cd:a.nd.kids.length<=10:=by rcases l4 with e | e
                                    · rw [e];simp
                                    omega
   have ce:d.nd.kids.length<=10:=by rcases r4 with e | e
                                    · rw [e];simp
                                    omega
   clear f M Q
   go_region_law (refine zbh rfl _ _ 48 rfl 3 i0 _ 1 8 Tryz.underlying48 a0 a6 a7 a8 rfl (by decide) zag zls a.kv d.kv a.nd.kids d.nd.kids rfl rfl (ag.out.drew) (ai.out.drew) (by unfold maxLen;omega) (by omega) ?_
                  intro v3 w4 B J K;obtain ⟨va,V,R,_,_,_⟩:=B.shape;generalize (a.nd.kids++d.nd.kids).length=n2 at R;subst R;have k:Fr (fun b=>a.kv.ownBlock=some b) wc w4:=((Fr.refl _ wc).drew).trans J fun _ _ e=>e;have u1:=k.cell e2 m;have u2:=k.free e2 e4 m;have aj:=H_ B;have D:=H_ k;have E:=H_ K;clear B J K k)
   all_goals
    have v:=HQ.out.setKids (w1:=w4) (kv':=.slice va n2 V) (K':=a.nd.kids++d.nd.kids) l _ q.out D.out aj.out E.out;have bp:=H_ v;clear v;go_wp2_with fail;go_meet
    case rel=>exact ⟨_,bp⟩
  case rest =>
   obtain ⟨k2,ah⟩:=hcut;have bE:at_<Z2.length:=(by have:=af.out;omega);have g:(Z2.set l ⟨⟨a.nd.pairs++p :: d.nd.pairs,a.nd.kids++d.nd.kids⟩,y,k2⟩)[at_]?=some c:=(by rw [List.getElem?_set_ne l2];exact aa.out);have O:ndsZ (Z2.set l ⟨⟨a.nd.pairs++p :: d.nd.pairs,a.nd.kids++d.nd.kids⟩,y,k2⟩)=A.set l ⟨a.nd.pairs++p :: d.nd.pairs,a.nd.kids++d.nd.kids⟩:=(by rw [zau,a9.out,List.set_set]);have aw:(Z2.set l ⟨⟨a.nd.pairs++p :: d.nd.pairs,a.nd.kids++d.nd.kids⟩,y,k2⟩).length=Z.length:=(by rw [List.length_set];exact af.out);generalize Z2.set l ⟨⟨a.nd.pairs++p :: d.nd.pairs,a.nd.kids++d.nd.kids⟩,y,k2⟩=Z3 at ah g O aw;have f:=ah.out.r;obtain ⟨b1,b2,b3,b4⟩:=f.look at_ c g;have o:=f.pairs at_ c g
   have m:¬ c.pv.ownBlock=some j:=fun e=>(f.a2 at_ _ j g (.inl e)).2.1 rfl;have aY:¬ c.kv.ownBlock=some j:=fun e=>(f.a2 at_ _ j g (.inr e)).2.1 rfl;have b0:j<wc.heap.size:=f.nodes.lt j rfl;have hcut:=zeh wc c.pv c.nd.pairs i o hi (by omega);have aO:=H_ g;have aK:=H_ O;have bo:=H_ aw;have ct:=H_ o;clear f g O aw o HQ q H aa a9 af
   go_upto_region 6 with (first
    | (go_at_call 135;refine hcut.mono ?_;clear hcut;rintro e w5 ⟨g5,o5,c5,rfl,C,n,L⟩
       have y1:=n.cell b1 m;have y2:=n.free b1 b3 m;have ak:=H_ C;have ad:=H_ n;have ae:=H_ L;clear C n L))
   have v:=ah.out.setPairs (w1:=w5) (pv':=.slice (some ⟨g5,o5,none⟩) (c.nd.pairs.length-1) c5) (P':=c.nd.pairs.take i++c.nd.pairs.drop (i+1)) at_ c aO.out ad.out ak.out fun b e=>by
    obtain rfl:g5=b:=by simpa [Value.ownBlock] using e
    exact .inl ae.out
   generalize w5.setCell ⟨j,no+at_ * 2,none⟩ (.slice (some ⟨g5,o5,none⟩) (c.nd.pairs.length-1) c5)=W6 at v ⊢
   have aq:at_<Z3.length:=(by have:=bo.out;omega);have u:(Z3.set at_ ⟨⟨c.nd.pairs.take i++c.nd.pairs.drop (i+1),c.nd.kids⟩,.slice (some ⟨g5,o5,none⟩) (c.nd.pairs.length-1) c5,c.kv⟩)[at_]?=some ⟨⟨c.nd.pairs.take i++c.nd.pairs.drop (i+1),c.nd.kids⟩,.slice (some ⟨g5,o5,none⟩) (c.nd.pairs.length-1) c5,c.kv⟩:=List.getElem?_set_self aq;have P:ndsZ (Z3.set at_ ⟨⟨c.nd.pairs.take i++c.nd.pairs.drop (i+1),c.nd.kids⟩,.slice (some ⟨g5,o5,none⟩) (c.nd.pairs.length-1) c5,c.kv⟩)=(A.set l ⟨a.nd.pairs++p :: d.nd.pairs,a.nd.kids++d.nd.kids⟩).set at_ ⟨c.nd.pairs.take i++c.nd.pairs.drop (i+1),c.nd.kids⟩:=(by rw [zau,aK.out]);generalize Z3.set at_ ⟨⟨c.nd.pairs.take i++c.nd.pairs.drop (i+1),c.nd.kids⟩,.slice (some ⟨g5,o5,none⟩) (c.nd.pairs.length-1) c5,c.kv⟩=Z6 at v u P
   have f:=v.r;obtain ⟨_,u2,_,u4⟩:=f.look at_ _ u;have s:=f.kids at_ _ u;dsimp only at u2 u4 s;have I:=zhd W6 c.kv c.nd.kids (i+1) s (by omega) (by omega);have bq:=H_ v;have aP:=H_ u;have aL:=H_ P;have cf:j<W6.heap.size:=f.nodes.lt j rfl;clear f v u P s y1 y2 b1 b2 b3 b4
   go_upto_region 7 with (first
    | (go_at_call 156;refine I.mono ?_;clear I;rintro e w7 ⟨g7,o7,c7,rfl,bb,Y,aV⟩
       have y1:=Y.cell u2 aY;have y2:=Y.free u2 u4 aY;have bt:=H_ bb;have bl:=H_ Y;have bm:=H_ aV;clear bb Y aV))
   have v:=bq.out.setKids (w1:=w7) (kv':=.slice (some ⟨g7,o7,none⟩) (c.nd.kids.length-1) c7) (K':=c.nd.kids.take (i+1)++c.nd.kids.drop (i+2)) at_ _ aP.out bl.out bt.out fun b e=>by
    obtain rfl:g7=b:=by simpa [Value.ownBlock] using e
    exact .inl bm.out
   generalize w7.setCell ⟨j,no+at_ * 2+1,none⟩ (.slice (some ⟨g7,o7,none⟩) (c.nd.kids.length-1) c7)=W8 at v ⊢
   have G:=H_ v;clear v y1 y2 u2 u4
   have bc:TreeZ W8 t ((A.set l ⟨a.nd.pairs++p :: d.nd.pairs,a.nd.kids++d.nd.kids⟩).set at_ ⟨c.nd.pairs.take i++c.nd.pairs.drop (i+1),c.nd.kids.take (i+1)++c.nd.kids.drop (i+2)⟩) fl root many _ :=
    ⟨_,_,_,G.out.r,by rw [zau,aL.out,List.set_set],fun b=>Iff.rfl⟩
   have bw:=H_ bc;clear bc
   have b9:r<((A.set l ⟨a.nd.pairs++p :: d.nd.pairs,a.nd.kids++d.nd.kids⟩).set at_ ⟨c.nd.pairs.take i++c.nd.pairs.drop (i+1),c.nd.kids.take (i+1)++c.nd.kids.drop (i+2)⟩).length:=by
    rw [List.length_set,List.length_set,<-HZ.out,zas];exact bK
   have aQ:((A.set l ⟨a.nd.pairs++p :: d.nd.pairs,a.nd.kids++d.nd.kids⟩).set at_ ⟨c.nd.pairs.take i++c.nd.pairs.drop (i+1),c.nd.kids.take (i+1)++c.nd.kids.drop (i+2)⟩).length<=1099511627:=by
    rw [List.length_set,List.length_set];omega
   have br:=H_ b9;have bk:=H_ aQ;clear b9 aQ
   go_wp2_with (first
    | (go_at_call 107;refine (zjr W8 t _ fl root many _ bw.out r br.out bk.out (by omega)).mono ?_;rintro e w9 ⟨rfl,F9,bM,bF,bJ⟩))
   refine bodyPost_end (results_none rfl _ _ _) rfl ⟨rfl,F9,?_,?_,?_⟩
   · rw [HJ.out,bn.out];exact bM
   · exact G.out.fr.trans bF fun b hb e=>by
      rcases G.out.new b e with e | e
      · exact e
      omega
   intro b hb
   have bL:=G.out.fr.size;rcases bJ b hb with e | e
   · exact G.out.new b e
   exact .inr (by omega)
set_option maxHeartbeats 4000000 in
theorem zmn (w:World) (t:Nat) (nv fv:Value) (Z:List Nz) (fl:List Nat) (root:Nat) (many:Int) (h:TreeR w t nv fv Z fl root many) (hZ:Z.length<=109951162) (at_:Nat) (last:Bool) (g:Nat) (hs:zef g (ndsZ Z) at_ last) :
 Calls Tryz.prog 137 #[.pointer (some ⟨t,0,none⟩),.int .i64 at_,.bool last] w fun e w'=>e=.returned (.agg #[.string (endA g (ndsZ Z) at_ last).1,.int .i64 (endA g (ndsZ Z) at_ last).2])/\Fr No w w':=by
 have a8:0<Z.length:=by
  cases g with
  | zero=>exact absurd hs id
  | succ g=>have:=hs.1;rw [zas] at this;omega
 obtain ⟨nb,no,cap,rfl,aD⟩:=h.headLen a8;have H:=H_ h;have HS:=H_ hs;clear h hs;generalize N:endA g (ndsZ Z) at_ last=K;have M:=H_ N;clear N;cases last
 · go_enter Tryz.func137,Tryz.ntmps137
   go_wp2_with fail
   go_loopg [1] g (fun gg V wr=>∃ a:Nat,V=.int .i64 a/\Hid (zef gg (ndsZ Z) a false)/\Hid (endA gg (ndsZ Z) a false=K)/\Hid (Fr No w wr)/\Hid (∃ s i,wr.heap[w.heap.size]?=some (.cells #[.string s,.int .i64 i] 125 (0,0))))
   case atStart=>exact ⟨at_,rfl,HS,M,H_ ((Fr.refl No w).alloc _),H_ ⟨_,_,zae _ _ _ rfl⟩⟩
   case round =>
    obtain ⟨a,rfl,F,S,Q,HB⟩:=hrel
    cases gk with
    | zero=>exact absurd F.out id
    | succ q =>
      obtain ⟨V,s2,s3,s4,L⟩:=F.out;have c:=S.out;unfold endA at c;obtain ⟨z,D,v⟩:=zcj V;rw [v] at s2 s3 s4 L c;have X:a<Z.length:=(List.getElem?_eq_some_iff.1 D).1;have f:=H.out.fr0 Q.out;obtain ⟨b,i,k⟩:=HB.out;obtain ⟨a1,W,_,_⟩:=f.look a z D;have c0:=f.obj.cell 0 rfl;have m:=f.pairs a z D;have C:=f.kids a z D;obtain ⟨pa,ah,A,aw,ax,x⟩:=m.shape;obtain ⟨ka,af,u,an,ao,n⟩:=C.shape;obtain ⟨pb,po,rfl⟩:=x (by omega);rw [A] at a1 m;rw [u] at W C;have Y:(a:Int)<(Z.length:Int):=(by omega);have x0:wr.cell? ⟨w.heap.size,0,none⟩=some (.string b):=cellAt k 0 rfl;have x1:wr.cell? ⟨w.heap.size,1,none⟩=some (.int .i64 i):=cellAt k 1 rfl
      have xf:∀ j,wr.frozen? ⟨w.heap.size,j,none⟩=false:=fun j=>by simp [World.frozen?,k]
      have ap:w.heap.size<wr.heap.size:=zac k;have av:t<wr.heap.size:=f.obj.lt;have ar:nb<wr.heap.size:=f.nodes.lt nb rfl;have au:pb<wr.heap.size:=m.lt pb rfl;have ay:(0:Int)<(z.nd.pairs.length:Int):=(by omega);have a9:(0:Int)<=(z.nd.pairs.length:Int)-1:=(by omega);have aa:(z.nd.pairs.length:Int)-1<(z.nd.pairs.length:Int):=(by omega);have ab:((z.nd.pairs.length:Int)-1).toNat=z.nd.pairs.length-1:=(by omega);have ad:(z.nd.pairs.length:Int)<=9:=(by omega)
      have G:∀ (o:Obj) (y:ByteArray×Int),(((wr.setCell ⟨w.heap.size,0,none⟩ (.string y.1)).setCell ⟨w.heap.size,1,none⟩ (.int .i64 y.2)).alloc o).heap[w.heap.size]?=some (.cells #[.string y.1,.int .i64 y.2] 125 (0,0)):=fun o y=>by
       have h1:=zab (zab k 0 (.string y.1)) 1 (.int .i64 y.2);rw [zaq h1 o];simp
      have I:∀ (o:Obj) (y:ByteArray×Int),Fr No w (((wr.setCell ⟨w.heap.size,0,none⟩ (.string y.1)).setCell ⟨w.heap.size,1,none⟩ (.int .i64 y.2)).alloc o):=fun o y =>
       (((Q.out.setCell (p:=⟨w.heap.size,0,none⟩) (.inr (Nat.le_refl _)) _).setCell (p:=⟨w.heap.size,1,none⟩) (.inr (Nat.le_refl _)) _)).alloc o
      have P:=H_ G;have R:=H_ I;clear G I;by_cases hk0:z.nd.kids = []
      · rw [if_pos hk0] at c
        have J:z.nd.kids.length=0:=(by rw [hk0];rfl);rw [J] at W;obtain ⟨y,l⟩:∃ y,z.nd.pairs[0]?=some y:=⟨_,List.getElem?_eq_getElem (by omega)⟩;have d:y=K:=(by rw [<-c,if_neg (by decide)];unfold List.getD;rw [l];rfl);have y0:=m.cell0 zad 0 l rfl;have y1:=m.cell zad 0 1 l rfl;simp only [Nat.zero_mul,Nat.add_zero] at y0 y1;have U:=H_ d;clear d l c hk0 J m C A u f D v L x n k;go_wp2;rw [<-U.out];exact bodyPost_ret (results_cell_row rfl _ _ w.heap.size 125 _ (0,0) _ rfl (P.out _ y) Tryz.underlying125 rfl (by kernel_rfl)) rfl ⟨rfl,R.out _ y⟩
      rw [if_neg hk0] at c
      have B:=L hk0;have r:0<z.nd.kids.length:=List.length_pos_iff.2 hk0;obtain ⟨kb,ko,rfl⟩:=n r;have a0:(0:Int)<(z.nd.kids.length:Int):=(by omega);have a7:((z.nd.kids.length:Int)==0)=false:=(by simp;omega);have a3:(0:Int)<=(z.nd.kids.length:Int)-1:=(by omega);have a4:(z.nd.kids.length:Int)-1<(z.nd.kids.length:Int):=(by omega);have a5:((z.nd.kids.length:Int)-1).toNat=z.nd.kids.length-1:=(by omega);have a6:(z.nd.kids.length:Int)<=10:=(by omega);have aq:kb<wr.heap.size:=C.lt kb rfl;obtain ⟨y,l⟩:∃ y,z.nd.kids[0]?=some y:=⟨_,List.getElem?_eq_getElem (by omega)⟩;have d:z.nd.kids.getD 0 0=y:=(by simp [List.getD,l]);rw [if_neg (by decide),d] at c B;have y0:=C.cell1 zag 0 l rfl;simp only [Nat.add_zero] at y0;have E:=H_ c
      have T:=H_ B;have O:Hid (∀ o,∃ s i,(wr.alloc o).heap[w.heap.size]?=some (.cells #[.string s,.int .i64 i] 125 (0,0))):=H_ fun o=>⟨b,i,zaq k o⟩;clear d l c B hk0 m C A u f D v L x n k;go_wp2;go_roundg q
      case rel=>exact ⟨y,rfl,T,E,H_ (Q.out.alloc _),H_ (O.out _)⟩
      case measure=>omega
 go_enter Tryz.func137,Tryz.ntmps137
 go_wp2_with fail
 go_loopg [1] g (fun gg V wr=>∃ a:Nat,V=.int .i64 a/\Hid (zef gg (ndsZ Z) a true)/\Hid (endA gg (ndsZ Z) a true=K)/\Hid (Fr No w wr)/\Hid (∃ s i,wr.heap[w.heap.size]?=some (.cells #[.string s,.int .i64 i] 125 (0,0))))
 case atStart=>exact ⟨at_,rfl,HS,M,H_ ((Fr.refl No w).alloc _),H_ ⟨_,_,zae _ _ _ rfl⟩⟩
 case round =>
  obtain ⟨a,rfl,F,S,Q,HB⟩:=hrel
  cases gk with
  | zero=>exact absurd F.out id
  | succ q =>
    obtain ⟨V,s2,s3,s4,L⟩:=F.out;have c:=S.out;unfold endA at c;obtain ⟨z,D,v⟩:=zcj V;rw [v] at s2 s3 s4 L c;have X:a<Z.length:=(List.getElem?_eq_some_iff.1 D).1;have f:=H.out.fr0 Q.out;obtain ⟨b,i,k⟩:=HB.out;obtain ⟨a1,W,_,_⟩:=f.look a z D;have c0:=f.obj.cell 0 rfl;have m:=f.pairs a z D;have C:=f.kids a z D;obtain ⟨pa,ah,A,aw,ax,x⟩:=m.shape;obtain ⟨ka,af,u,an,ao,n⟩:=C.shape;obtain ⟨pb,po,rfl⟩:=x (by omega);rw [A] at a1 m;rw [u] at W C;have Y:(a:Int)<(Z.length:Int):=(by omega);have x0:wr.cell? ⟨w.heap.size,0,none⟩=some (.string b):=cellAt k 0 rfl;have x1:wr.cell? ⟨w.heap.size,1,none⟩=some (.int .i64 i):=cellAt k 1 rfl
    have xf:∀ j,wr.frozen? ⟨w.heap.size,j,none⟩=false:=fun j=>by simp [World.frozen?,k]
    have ap:w.heap.size<wr.heap.size:=zac k;have av:t<wr.heap.size:=f.obj.lt;have ar:nb<wr.heap.size:=f.nodes.lt nb rfl;have au:pb<wr.heap.size:=m.lt pb rfl;have ay:(0:Int)<(z.nd.pairs.length:Int):=(by omega);have a9:(0:Int)<=(z.nd.pairs.length:Int)-1:=(by omega);have aa:(z.nd.pairs.length:Int)-1<(z.nd.pairs.length:Int):=(by omega);have ab:((z.nd.pairs.length:Int)-1).toNat=z.nd.pairs.length-1:=(by omega);have ad:(z.nd.pairs.length:Int)<=9:=(by omega)
    have G:∀ (o:Obj) (y:ByteArray×Int),(((wr.setCell ⟨w.heap.size,0,none⟩ (.string y.1)).setCell ⟨w.heap.size,1,none⟩ (.int .i64 y.2)).alloc o).heap[w.heap.size]?=some (.cells #[.string y.1,.int .i64 y.2] 125 (0,0)):=fun o y=>by
     have h1:=zab (zab k 0 (.string y.1)) 1 (.int .i64 y.2);rw [zaq h1 o];simp
    have I:∀ (o:Obj) (y:ByteArray×Int),Fr No w (((wr.setCell ⟨w.heap.size,0,none⟩ (.string y.1)).setCell ⟨w.heap.size,1,none⟩ (.int .i64 y.2)).alloc o):=fun o y =>
     (((Q.out.setCell (p:=⟨w.heap.size,0,none⟩) (.inr (Nat.le_refl _)) _).setCell (p:=⟨w.heap.size,1,none⟩) (.inr (Nat.le_refl _)) _)).alloc o
    have P:=H_ G;have R:=H_ I;clear G I;by_cases hk0:z.nd.kids = []
    · rw [if_pos hk0] at c
      have J:z.nd.kids.length=0:=(by rw [hk0];rfl);rw [J] at W;obtain ⟨y,l⟩:∃ y,z.nd.pairs[z.nd.pairs.length-1]?=some y:=⟨_,List.getElem?_eq_getElem (by omega)⟩;have d:y=K:=(by rw [<-c,if_pos rfl];unfold lastOf List.getD;rw [l];rfl);have y0:=m.cell0 zad _ l rfl;have y1:=m.cell zad _ 1 l rfl;have U:=H_ d;clear d l c hk0 J m C A u f D v L x n k;go_wp2;rw [<-U.out];exact bodyPost_ret (results_cell_row rfl _ _ w.heap.size 125 _ (0,0) _ rfl (P.out _ y) Tryz.underlying125 rfl (by kernel_rfl)) rfl ⟨rfl,R.out _ y⟩
    rw [if_neg hk0] at c
    have B:=L hk0;have r:0<z.nd.kids.length:=List.length_pos_iff.2 hk0;obtain ⟨kb,ko,rfl⟩:=n r;have a0:(0:Int)<(z.nd.kids.length:Int):=(by omega);have a7:((z.nd.kids.length:Int)==0)=false:=(by simp;omega);have a3:(0:Int)<=(z.nd.kids.length:Int)-1:=(by omega);have a4:(z.nd.kids.length:Int)-1<(z.nd.kids.length:Int):=(by omega);have a5:((z.nd.kids.length:Int)-1).toNat=z.nd.kids.length-1:=(by omega);have a6:(z.nd.kids.length:Int)<=10:=(by omega);have aq:kb<wr.heap.size:=C.lt kb rfl;obtain ⟨y,l⟩:∃ y,z.nd.kids[z.nd.kids.length-1]?=some y:=⟨_,List.getElem?_eq_getElem (by omega)⟩;have d:lastOf z.nd.kids 0=y:=(by simp [lastOf,List.getD,l]);rw [if_pos rfl,d] at c B;have y0:=C.cell1 zag _ l rfl;have E:=H_ c;have T:=H_ B
    have O:Hid (∀ o,∃ s i,(wr.alloc o).heap[w.heap.size]?=some (.cells #[.string s,.int .i64 i] 125 (0,0))):=H_ fun o=>⟨b,i,zaq k o⟩;clear d l c B hk0 m C A u f D v L x n k;go_wp2;go_roundg q
    case rel=>exact ⟨y,rfl,T,E,H_ (Q.out.alloc _),H_ (O.out _)⟩
    case measure=>omega
end Go.Proofs.YtdgkdfmfoonbpaaGreat