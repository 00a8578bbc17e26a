/- Own lemmas and contracts that the claim's proof needs, laid together. The conditions stand in each. -/
import Derived.Test.YthljnnjpmdgkoaaGreatB06
import Derived.Test.YthljnnjpmdgkoaaGreatB05
import Derived.Laws.Rows
namespace Go.Proofs.YthljnnjpmdgkoaaGreat
open Go Go.Proofs Go.RowKit
set_option maxRecDepth 100000
theorem spotZ {w:World} {t:Nat} {nv fv:Value} {Z:List Nz} {fl:List Nat} {root:Nat} {many:Int} (h:TreeR w t nv fv Z fl root many) (at_:Nat) (z:Nz) (hz:Z[at_]? = some z) (h9:z.nd.pairs.length<=9) (hZ:Z.length<=1099511627) (key:ByteArray) :
 Calls Tryz.prog 157 #[.pointer (some ⟨t,0,none⟩),.int .i64 at_,.string key] w fun e w'=>e = .returned (zbt z.nd.pairs key)/\w=w':=by
 refine zqa w t at_ nv z.pv z.kv (Z.map fun z=>(z.pv,z.kv)) z.nd.pairs key (h.obj.cell 0 rfl) (SlF.mapped (f:=nodeC) (g:=fun z:Nz=>(z.pv,z.kv)) (h:=nzC) (fun _=>rfl) h.nodes) (by rw [List.getElem?_map,hz];rfl) (by simp;omega) (h.pairs at_ z hz) (by omega)
set_option maxHeartbeats 2000000 in
theorem zjt (w:World) (t:Nat) (A:Arr) (fl:List Nat) (root:Nat) (many:Int) (F:Nat->Prop) (T:Pairs) (key:ByteArray) (h:TreeZ w t A fl root many F) (hg:GoodT A fl root T) (hA:A.length<=109951162) :
 Calls Tryz.prog 121 #[.pointer (some ⟨t,0,none⟩),.string key] w fun e w'=>e = .returned (zck (getT T key))/\Fr No w w':=by
 obtain ⟨nv,fv,Z,hR,hZ,hF⟩:=h;obtain ⟨D,hD⟩:=hg;have hres:=ztd key D (D+1) A root (Nat.le_refl _) hD.pt.wf (by rw [hD.trav];exact hD.sorted);rw [hD.trav] at hres;have hzl:Z.length<=109951162:=by rw [<-zav,hZ];exact hA
 have hrl:root < Z.length:=by rw [<-zav,hZ];exact hD.pt.lt
 obtain ⟨nb,no,cap,rfl,hcap⟩:=hR.headLen (by omega);have c2:=hR.obj.cell 2 rfl;have HR:=H_ hR;have HZ:=H_ hZ;have HRES:=H_ hres;have HW:=H_ hD.pt.wf;have hlt:=hD.pt.lt;have h9:=hD.hi;have HLT:=H_ hlt;have H9:=H_ h9;clear hR hZ hF hD hres hlt h9;generalize getT T key=res at *;go_enter Tryz.func121,Tryz.ntmps121;go_wp2_with fail
 go_loopg [6] (D+1) (fun g s6 wr=>∃ (d at_:Nat),s6 = .int .i64 at_/\g=d+1/\Hid (Fr No w wr)/\Hid (nWf A d (ndA A at_))/\Hid (at_ < A.length)/\Hid ((ndA A at_).pairs.length<=9)/\Hid (getA (d+1) A at_ key=res))
 case atStart=>exact ⟨D,root,rfl,rfl,H_ (Fr.refl _ _),HW,HLT,H9,HRES⟩
 case round =>
  obtain ⟨d,at_,rfl,rfl,HF,HWd,HL,H9d,HG⟩:=hrel;obtain ⟨z,hz,hnd⟩:=zbj HZ.out HL.out;have hatl:at_ < Z.length:=(List.getElem?_eq_some_iff.1 hz).1;have hRr:=HR.out.fr0 HF.out;have hsp:=spotZ hRr at_ z hz (by rw [hnd];exact H9d.out) (by omega) key;unfold zbt at hsp;obtain ⟨a1,a2,_,_⟩:=hRr.look at_ z hz;have d0:=hRr.obj.cell 0 rfl;have hP:=hRr.pairs at_ z hz;have hK:=hRr.kids at_ z hz;obtain ⟨pa,pcap,hpv,hp1,hp2,hpa⟩:=hP.shape;obtain ⟨ka,kcap,hkv,hk1,hk2,hka⟩:=hK.shape;rw [hpv] at a1 hP;rw [hkv] at a2 hK;have hiz:(at_:Int) < (Z.length:Int):=(by omega);have hgd:getA (d+1) A at_ key=res:=HG.out;unfold getA at hgd;rw [<-hnd] at hgd;have hlnb:nb < wr.heap.size:=hRr.nodes.lt nb rfl;have hlt:t < wr.heap.size:=hRr.obj.lt
  cases hh:hitOf z.nd.pairs key with
  | true =>
    obtain ⟨m,hm⟩:=hit_at hh;have hil:=(List.getElem?_eq_some_iff.1 hm).1;obtain ⟨pb,po,rfl⟩:=hpa (by omega);have hc:=hP.cell zae _ 1 hm rfl;rw [hh,if_pos rfl,hm] at hgd;rw [hh] at hsp;have HGD:=H_ hgd;have hilz:(spotOf z.nd.pairs key:Int) < (z.nd.pairs.length:Int):=(by omega);have hlpb:pb < wr.heap.size:=hP.lt pb rfl;have HFo:=HF;clear hgd hh hm hpv hkv hP hK hRr hz hnd hpa hka;generalize spotOf z.nd.pairs key=i at *;go_wp2_with (go_at_call 157;refine hsp.mono ?_;clear hsp;rintro e w' ⟨rfl,rfl⟩)
    go_ret2
    exact ⟨by rw [<-HGD.out];rfl,HFo.out.alloc _⟩
  | false =>
    rw [hh] at hsp hgd;simp only [Bool.false_eq_true,if_false] at hgd;by_cases hk0:z.nd.kids = []
    · rw [if_pos hk0] at hgd
      have hkl:z.nd.kids.length=0:=(by rw [hk0];rfl);rw [hkl] at a2;have HGD:=H_ hgd;have HFo:=HF;clear hgd hh hpv hkv hP hK hRr hz hnd hpa hka hk0 hkl;generalize spotOf z.nd.pairs key=i at *;go_wp2_with (go_at_call 157;refine hsp.mono ?_;clear hsp;rintro e w' ⟨rfl,rfl⟩)
      go_ret2
      exact ⟨by rw [<-HGD.out];rfl,HFo.out.alloc _⟩
    rw [if_neg hk0] at hgd
    cases d with
    | zero =>
      have hw0:(ndA A at_).kids = []:=HWd.out;rw [<-hnd] at hw0;exact absurd hw0 hk0
    | succ d =>
      have hw1:=HWd.out;rw [<-hnd] at hw1;have hkl:z.nd.kids.length=z.nd.pairs.length+1:=hw1.1;have hsl:=zbo z.nd.pairs key;obtain ⟨kid,hkid⟩:∃ kid,z.nd.kids[spotOf z.nd.pairs key]? = some kid:=⟨_,List.getElem?_eq_getElem (by omega)⟩;have hkA:kidA A at_ (spotOf z.nd.pairs key)=kid:=(by unfold kidA;rw [<-hnd];simp [List.getD,hkid]);obtain ⟨w1,w4,w9,ww⟩:=hw1.2 kid (List.mem_of_getElem? hkid);rw [hkA] at hgd;obtain ⟨kb,ko,rfl⟩:=hka (by omega);have hkc:=hK.cell1 zag _ hkid rfl;have HGD:=H_ hgd;have HW1:=H_ w1;have HW9:=H_ w9;have HWW:=H_ ww;have hiz2:(spotOf z.nd.pairs key:Int) < (z.nd.kids.length:Int):=(by omega);have hkz:(z.nd.kids.length:Int)≠0:=(by omega);have hkz2:((z.nd.kids.length:Int) == 0)=false:=(by simp;omega);have hlkb:kb < wr.heap.size:=hK.lt kb rfl;have HFo:=HF
      clear hgd hh hpv hkv hP hK hRr hz hnd hpa hka hk0 hkl hsl hkid hkA w1 w9 ww hw1;generalize spotOf z.nd.pairs key=i at *;go_wp2_with (go_at_call 157;refine hsp.mono ?_;clear hsp;rintro e w' ⟨rfl,rfl⟩);go_roundg (d+1)
      case rel=>exact ⟨d,kid,rfl,rfl,H_ (HFo.out.alloc _),HWW,HW1,HW9,HGD⟩
      case measure=>omega
theorem zri (w:World) (t:Nat) (A:Arr) (fl:List Nat) (root:Nat) (many:Int) (F:Nat->Prop) (h:TreeZ w t A fl root many F) :
 Calls Tryz.prog 61 #[.pointer (some ⟨t,0,none⟩)] w fun e w'=>e = .returned (.int .i64 many)/\w=w':=by
 obtain ⟨nv,fv,Z,hR,hZ,hF⟩:=h;have c3:=hR.obj.cell 3 rfl;clear hR hZ hF;go_enter Tryz.func61,Tryz.ntmps61;go_wp2;go_ret;exact ⟨rfl,rfl⟩
theorem zrh (w:World):Calls Tryz.prog 51 #[] w fun e w'=>∃ t,e = .returned (.pointer (some ⟨t,0,none⟩))/\∃ F,TreeZ w' t [nd0] [] 0 0 F/\Fr No w w'/\(∀ b,F b->w.heap.size<=b):=by
 have hmk:∀ w,(Instr.makeSlice 175 (.int .i64 1) (.int .i64 1)).run Tryz.prog w = .ok (.slice (some ⟨w.heap.size,0,none⟩) 1 1) (w.alloc (.cells #[.slice none 0 0,.slice none 0 0] 231)):=fun _=>by kernel_rfl
 go_enter Tryz.func51,Tryz.ntmps51;go_wp2;go_ret;have hz1:∀ (i:Nat) z,[nz0][i]? = some z->z=nz0:=fun i z hz=>by have:=List.mem_of_getElem? hz;simpa using this
 have hno:∀ b,¬ zown nz0 b:=by rintro b (e | e) <;> simp [nz0,Value.ownBlock] at e
 refine ⟨_,rfl,_,⟨.slice (some ⟨w.heap.size,0,none⟩) 1 1,.slice none 0 0,[nz0],⟨?_,?_,SlF.nil _ _ _ _,?_,?_,?_,?_,?_,?_⟩,rfl,fun b=>Iff.rfl⟩,((Fr.refl _ w).alloc _).alloc _,?_⟩
 · exact ⟨_,zad _ _ _ (by simp)⟩
 · exact ⟨rfl,.inr ⟨_,_,_,_,rfl,zaj (zad _ _ _ rfl) _,by simp,by unfold maxLen;omega,by simp,rfl⟩⟩
 · intro i z hz;rw [hz1 i z hz];exact SlF.nil _ _ _ _
 · intro i z hz;rw [hz1 i z hz];exact SlF.nil _ _ _ _
 · refine ⟨by simp [Value.ownBlock],by simp [Value.ownBlock],fun b _=>by simp [Value.ownBlock]⟩
 · intro i z b hz hb;rw [hz1 i z hz] at hb;exact absurd hb (hno b)
 · intro i z b hz hb;rw [hz1 i z hz] at hb;exact absurd (.inl hb) (hno b)
 · intro i j z y b hz _ hb _;rw [hz1 i z hz] at hb;exact absurd hb (hno b)
 rintro b (rfl | e | e | ⟨i,z,hz,hb⟩)
 · omega
 · simp [Value.ownBlock] at e;omega
 · simp [Value.ownBlock] at e
 rw [hz1 i z hz] at hb;exact absurd hb (hno b)
open Go Go.RowKit
theorem zhu {P:Program} (w:World) (t ty e:TypeId) (i:TypeInfo) (ht:P.underlying t=some (.slice e)) (hi:P.info? e=some i) (a sp:Option Addr) (n cap c:Nat) (hn:n<=cap) :
 (Builtin.append_ #[t,t] ty #[.slice a n cap,.slice sp 0 c]).run P w = .ok (.slice a n cap) w:=by
 cases a <;> cases sp <;> simp [Builtin.append_,run_underlying ht,sizeOf,typeInfo,hi,Builtin.lenOf,hn,Builtin.firstCells,loadCells,loadCellsFrom,storeCells]
theorem zjb {α:Type} {f:α->List Value} {P:Program} (w:World) (t ty e:TypeId) (i:TypeInfo) (z:Value) (ht:P.underlying t=some (.slice e)) (hi:P.info? e=some i) (hz:i.zero=some z) (hzs:z.cells.size=i.size) (hsz:0 < i.size)
 (hf:∀ x,(f x).length=i.size) (h1:∀ x,∀ u∈f x,u.oneCell'=true) (v x:Value) (L M:List α) (hv:SlF w e i.size f v L) (hx:SlF w e i.size f x M) (h63:L.length+M.length<=maxLen) (hbytes:(L.length+M.length) * i.bytes<=140737488355328) :
 ∃ v' w',(Builtin.append_ #[t,t] ty #[v,x]).run P w = .ok v' w'/\SlF w' e i.size f v' (L++M)/\Fr (fun b=>v.ownBlock=some b) w w'/\(∀ b,v'.ownBlock=some b->v.ownBlock=some b\/w.heap.size<=b):=by
 rcases Nat.eq_zero_or_pos M.length with h0 | hp
 · obtain rfl:=List.eq_nil_of_length_eq_zero h0
   obtain ⟨a,cap,rfl,hc,_⟩:=hv.shape;obtain ⟨sp,c,rfl,_⟩:=hx.shape;exact ⟨_,w,zhu w t ty e i ht hi a sp _ cap c hc,by rw [List.append_nil];exact hv,Fr.refl _ w,fun b hb=>.inl hb⟩
 obtain ⟨sp,c,rfl,hc1,hc2,hsp⟩:=hx.shape
 obtain ⟨g0,o0,rfl⟩:=hsp hp
 obtain ⟨g,o,cap,w',hr,h2,h3,h4,h5⟩:=zcq (P:=P) w t ty e i z ht hi hz hzs hsz v L.length (L.flatMap f) hv ⟨g0,o0,none⟩ M.length c (M.flatMap f) (zao hf M) hp
  (fun j u hu=>SlF.cells hf hx j u hu) (fun u hu=>by obtain ⟨y,_,hy⟩:=List.mem_flatMap.1 hu;exact h1 y u hy) h63 hbytes
 refine ⟨_,w',hr,?_,(Fr.refl _ w).grown h3 fun k hk=>.inl hk,fun b hb=>?_⟩
 · unfold SlF
   rw [List.length_append,List.flatMap_append];exact h2
 obtain rfl:g=b:=by simpa [Value.ownBlock] using hb
 rcases h4 with e | e
 · exact .inl e
 right;omega
theorem zbh {α:Type} {f:α->List Value} {P:Program} {w:World} {ops:Array Oper} {o:Oper} {a:Act} {K:Act->World->Prop} {Q:Exit->Act->World->Prop} {E:Prop} (hgd:o.guard=none) (s x:Operand) (t:TypeId)
 (ho:o.op = .call { callee:=.builtin .append,args:=#[s,x],argTypes:=#[t,t] })
 (e:TypeId) (i:TypeInfo) (z:Value) (sz bytes:Nat) (ht:P.underlying t=some (.slice e)) (hi:P.info? e=some i) (hz:i.zero=some z) (hsize:i.size=sz) (hby:i.bytes=bytes) (hzs:z.cells.size=sz) (hsz:0 < sz)
 (hf:∀ x,(f x).length=sz) (h1:∀ x,∀ u∈f x,u.oneCell'=true) (v xv:Value) (L M:List α) (hs:a.eval s=v) (hx:a.eval x=xv) (hv:SlF w e sz f v L) (hxv:SlF w e sz f xv M)
 (h63:L.length+M.length<=maxLen) (hbytes:(L.length+M.length) * bytes<=140737488355328)
 (h:∀ v' w',SlF w' e sz f v' (L++M)->Fr (fun b=>v.ownBlock=some b) w w'->(∀ b,v'.ownBlock=some b->v.ownBlock=some b\/w.heap.size<=b)->K (a.put o.dst v') w') :
 if Region.wanted o (yielded ops a.tmps)=true then Oper.wp P o a w K Q else E:=by
 have hw:Region.wanted o (yielded ops a.tmps)=true:=by simp [Region.wanted,hgd]
 rw [if_pos hw];subst hsize;subst hby;obtain ⟨v',w',hr,h2,h3,h4⟩:=zjb (P:=P) (f:=f) w t o.type e i z ht hi hz hzs hsz hf h1 v xv L M hv hxv h63 hbytes;unfold Oper.wp execOp;simp only [ho,resolve,invoke,builtin,Sem.run_bind,Sem.run_pure,Result.andThen_ok,List.map_toArray,List.map_cons,List.map_nil,hs,hx,hr];exact h v' w' h2 h3 h4
theorem zgq (x:ByteArray × Int):∀ u∈pairC x,u.oneCell'=true:=by
 intro u hu;simp [pairC] at hu;rcases hu with rfl | rfl <;> rfl
theorem zlx (x:Nat):∀ u∈nat1 x,u.oneCell'=true:=by
 intro u hu;simp [nat1] at hu;subst hu;rfl
theorem zpd (W:World) (p:ByteArray × Int) (n:Nat) (hn:n=W.heap.size):SlF (W.alloc (.cells #[.string p.1,.int .i64 p.2] 122)) 122 2 pairC (.slice (some ⟨n,0,none⟩) 1 1) [p]:=by
 subst hn;exact ⟨rfl,.inr ⟨_,_,_,_,rfl,zad _ _ _ rfl,Nat.le_refl _,by unfold maxLen;omega,by simp,rfl⟩⟩
structure AtZ (w W:World) (t nb no cap:Nat) (fv:Value) (Z:List Nz) (fl:List Nat) (root:Nat) (many:Int) (F:Nat->Prop):Prop where
 r:TreeR W t (.slice (some ⟨nb,no,none⟩) Z.length cap) fv Z fl root many
 fr:Fr F w W
 new:∀ b,treeF t (.slice (some ⟨nb,no,none⟩) Z.length cap) fv Z b->F b\/w.heap.size<=b
theorem AtZ.fr0 {w W W':World} {t nb no cap:Nat} {fv:Value} {Z:List Nz} {fl:List Nat} {root:Nat} {many:Int} {F:Nat->Prop} (h:AtZ w W t nb no cap fv Z fl root many F) (hf:Fr No W W'):AtZ w W' t nb no cap fv Z fl root many F :=
 ⟨h.r.fr0 hf,h.fr.trans0 hf,h.new⟩
theorem AtZ.setPairs {w W w1:World} {t nb no cap:Nat} {fv pv':Value} {Z:List Nz} {fl:List Nat} {root:Nat} {many:Int} {F:Nat->Prop} {P':Pairs} (h:AtZ w W t nb no cap fv Z fl root many F) (i:Nat) (z:Nz) (hz:Z[i]? = some z)
 (hf:Fr (fun b=>z.pv.ownBlock=some b) W w1) (hs:SlF w1 122 2 pairC pv' P') (hown:∀ b,pv'.ownBlock=some b->z.pv.ownBlock=some b\/W.heap.size<=b) :
 AtZ w (w1.setCell ⟨nb,no+i * 2,none⟩ pv') t nb no cap fv (Z.set i ⟨⟨P',z.nd.kids⟩,pv',z.kv⟩) fl root many F:=by
 obtain ⟨q1,q2,q3⟩:=h.r.setPairs i z hz hf hs hown;have hsz:=h.fr.size
 have key:∀ b,treeF t (.slice (some ⟨nb,no,none⟩) Z.length cap) fv Z b->b < w.heap.size->F b:=fun b hb hl=>by
  rcases h.new b hb with e | e
  · exact e
  omega
 refine ⟨by rw [List.length_set];exact q1,h.fr.trans q2 fun b hb e=>?_,fun b hb=>?_⟩
 · rcases e with rfl | e
   · exact key b (.inr (.inl rfl)) hb
   exact key b (.inr (.inr (.inr ⟨i,z,hz,.inl e⟩))) hb
 rw [List.length_set] at hb
 rcases zbe hz q3 b hb with e | e
 · exact h.new b e
 exact .inr (by omega)
theorem AtZ.setKids {w W w1:World} {t nb no cap:Nat} {fv kv':Value} {Z:List Nz} {fl:List Nat} {root:Nat} {many:Int} {F:Nat->Prop} {K':List Nat} (h:AtZ w W t nb no cap fv Z fl root many F) (i:Nat) (z:Nz) (hz:Z[i]? = some z)
 (hf:Fr (fun b=>z.kv.ownBlock=some b) W w1) (hs:SlF w1 3 1 nat1 kv' K') (hown:∀ b,kv'.ownBlock=some b->z.kv.ownBlock=some b\/W.heap.size<=b) :
 AtZ w (w1.setCell ⟨nb,no+i * 2+1,none⟩ kv') t nb no cap fv (Z.set i ⟨⟨z.nd.pairs,K'⟩,z.pv,kv'⟩) fl root many F:=by
 obtain ⟨q1,q2,q3⟩:=h.r.setKids i z hz hf hs hown;have hsz:=h.fr.size
 have key:∀ b,treeF t (.slice (some ⟨nb,no,none⟩) Z.length cap) fv Z b->b < w.heap.size->F b:=fun b hb hl=>by
  rcases h.new b hb with e | e
  · exact e
  omega
 refine ⟨by rw [List.length_set];exact q1,h.fr.trans q2 fun b hb e=>?_,fun b hb=>?_⟩
 · rcases e with rfl | e
   · exact key b (.inr (.inl rfl)) hb
   exact key b (.inr (.inr (.inr ⟨i,z,hz,.inr e⟩))) hb
 rw [List.length_set] at hb
 rcases zbe hz q3 b hb with e | e
 · exact h.new b e
 exact .inr (by omega)
theorem AtZ.setPair {w W:World} {t nb no cap pb po pcap k:Nat} {fv:Value} {Z:List Nz} {fl:List Nat} {root:Nat} {many:Int} {F:Nat->Prop} (h:AtZ w W t nb no cap fv Z fl root many F) (i:Nat) (z:Nz) (hz:Z[i]? = some z)
 (hpv:z.pv = .slice (some ⟨pb,po,none⟩) z.nd.pairs.length pcap) (x y:ByteArray × Int) (hk:z.nd.pairs[k]? = some x) :
 AtZ w ((W.setCell ⟨pb,po+k * 2,none⟩ (.string y.1)).setCell ⟨pb,po+k * 2+1,none⟩ (.int .i64 y.2)) t nb no cap fv (Z.set i ⟨⟨z.nd.pairs.set k y,z.nd.kids⟩,z.pv,z.kv⟩) fl root many F:=by
 have hf:Fr (fun b=>b=pb) W ((W.setCell ⟨pb,po+k * 2,none⟩ (.string y.1)).setCell ⟨pb,po+k * 2+1,none⟩ (.int .i64 y.2)) :=
  (Fr.setCell (S:=fun b=>b=pb) (Fr.setCell (S:=fun b=>b=pb) (Fr.refl _ W) (p:=⟨pb,po+k * 2,none⟩) (.inl rfl) _) (p:=⟨pb,po+k * 2+1,none⟩) (.inl rfl) _)
 have hp:=h.r.pairs i z hz;rw [hpv] at hp;have h1:=SlF.set zae hp k 0 (by omega) x (y.1,x.2) (.string y.1) hk rfl;have hkl:=(List.getElem?_eq_some_iff.1 hk).1;rw [Nat.add_zero] at h1;have h2:=SlF.set (L:=z.nd.pairs.set k (y.1,x.2)) (cap:=pcap) zae (by rw [List.length_set];exact h1) k 1 (by omega) (y.1,x.2) y (.int .i64 y.2) (by rw [List.getElem?_set_self hkl]) rfl;rw [List.set_set,List.length_set] at h2
 have hq:=h.r.setPair i z hz hpv hf (P':=z.nd.pairs.set k y) (by
  rw [hpv];unfold SlF at h2 ⊢
  rw [List.length_set] at h2 ⊢
  exact h2)
 have hb0:zown z pb:=.inl (by rw [hpv];rfl);refine ⟨by rw [List.length_set];exact hq,h.fr.trans hf fun b hb e=>?_,fun b hb=>?_⟩
 · have e':b=pb:=e
   rcases h.new b (.inr (.inr (.inr ⟨i,z,hz,e' ▸ hb0⟩))) with e | e
   · exact e
   omega
 rw [List.length_set] at hb
 rcases zbe (z':=⟨⟨z.nd.pairs.set k y,z.nd.kids⟩,z.pv,z.kv⟩) hz (B:=w.heap.size) (fun b e=>.inl e) b hb with e | e
 · exact h.new b e
 exact .inr e
set_option maxHeartbeats 4000000 in
theorem zgt (w:World) (t:Nat) (A:Arr) (fl:List Nat) (root:Nat) (many:Int) (F:Nat->Prop) (h:TreeZ w t A fl root many F) (at_ i:Nat) (hs:zbm A fl at_) (hi:i < (ndA A at_).pairs.length) (hA:A.length<=109951162) :
 Calls Tryz.prog 173 #[.pointer (some ⟨t,0,none⟩),.int .i64 at_,.int .i64 i] w fun e w'=>e = .returned (.tuple #[])/\∃ F',TreeZ w' t (joinA A at_ i) (fl++[kidA A at_ (i+1)]) root many F'/\Fr F w w'/\∀ b,F' b->F b\/w.heap.size<=b:=by
 obtain ⟨l,hl⟩:∃ l,(ndA A at_).kids[i]? = some l:=⟨_,List.getElem?_eq_getElem (by have:=hs.len;omega)⟩;obtain ⟨r,hr⟩:∃ r,(ndA A at_).kids[i+1]? = some r:=⟨_,List.getElem?_eq_getElem (by have:=hs.len;omega)⟩;obtain ⟨p,hp⟩:∃ p,(ndA A at_).pairs[i]? = some p:=⟨_,List.getElem?_eq_getElem hi⟩;have hkl:kidA A at_ i=l:=by unfold kidA;simp [List.getD,hl]
 have hkr:kidA A at_ (i+1)=r:=by unfold kidA;simp [List.getD,hr]
 obtain ⟨l1,l2,l3,l4⟩:=hs.kid l (List.mem_of_getElem? hl);obtain ⟨r1,r2,r3,r4⟩:=hs.kid r (List.mem_of_getElem? hr);have hlr:l≠r:=fun e=>by have:=hs.apart i (i+1) l hl (by rw [e];exact hr);omega
 have hj:joinA A at_ i=((A.set l ⟨(ndA A l).pairs++p :: (ndA A r).pairs,(ndA A l).kids++(ndA A r).kids⟩).set at_ ⟨(ndA A at_).pairs.take i++(ndA A at_).pairs.drop (i+1),(ndA A at_).kids.take (i+1)++(ndA A at_).kids.drop (i+2)⟩).set r nd0:=by
  unfold joinA;rw [hkl,hkr];simp [List.getD,hp]
 obtain ⟨nv,fv,Z,hR,hZ,hF⟩:=h;obtain ⟨za,hza,eza⟩:=zbj hZ hs.lt;obtain ⟨zl,hzl,ezl⟩:=zbj hZ l1;obtain ⟨zr,hzr,ezr⟩:=zbj hZ r1;have hZl:Z.length<=109951162:=by rw [<-zav,hZ];exact hA
 have hatl:at_ < Z.length:=(List.getElem?_eq_some_iff.1 hza).1;have hll:l < Z.length:=(List.getElem?_eq_some_iff.1 hzl).1;have hrl:r < Z.length:=(List.getElem?_eq_some_iff.1 hzr).1;obtain ⟨nb,no,cap,rfl,hcap⟩:=hR.headLen (by omega);have hlen:=hs.len;have hhi:=hs.hi;have hfl:=hs.free;rw [<-eza] at hl hr hp hlen hhi hi;rw [<-ezl] at l3 l4;rw [<-ezr] at r3 r4;rw [<-ezl,<-ezr,<-eza] at hj;have hZ0:AtZ w w t nb no cap fv Z fl root many F:=⟨hR,Fr.refl _ w,fun b hb=>.inl ((hF b).2 hb)⟩;have c0:=hR.obj.cell 0 rfl;obtain ⟨a1,a2,a3,a4⟩:=hR.look at_ za hza;obtain ⟨pa,pcap,hpv,hp1,hp2,hpa⟩:=(hR.pairs at_ za hza).shape;obtain ⟨ka,kcap,hkv,hk1,hk2,hka⟩:=(hR.kids at_ za hza).shape;obtain ⟨pb,po,rfl⟩:=hpa (by omega);obtain ⟨kb,ko,rfl⟩:=hka (by omega);have hkk:=hR.kids at_ za hza;rw [hkv] at a2 hkk
 have kl:=hkk.cell1 zag i hl rfl;have kr:=hkk.cell1 zag (i+1) hr rfl;have hatz:(at_:Int) < (Z.length:Int):=by omega
 have hlz:(l:Int) < (Z.length:Int):=by omega
 have hrz:(r:Int) < (Z.length:Int):=by omega
 have hiz:(i:Int) < (za.nd.kids.length:Int):=by omega
 have hiz1:(i:Int)+1 < (za.nd.kids.length:Int):=by omega
 have hiz2:(0:Int)<=(i:Int)+1:=by omega
 have hiz3:((i:Int)+1).toNat=i+1:=by omega
 have hk10:za.nd.kids.length<=10:=by omega
 have HZ0:=H_ hZ0;have HZ:=H_ hZ;have HJ:=H_ hj;have HKR:=H_ hkr;have HZA:=H_ hza;have HZL:=H_ hzl;have HZR:=H_ hzr;have HP:=H_ hp;have HPV:=H_ hpv;have HLR:=H_ hlr;clear hZ0 hZ hj hkr hza hzl hzr hp hpv hlr hR hF hs hl hr hkl eza ezl ezr hpa hka hkv hkk a3 a4 hlen l1 r1;go_enter Tryz.func173,Tryz.ntmps173;go_upto_region 1 with fail
 go_quiet (fail)
 have hq1:=Fr.drewN No w nq;generalize w.drewN nq=W1 at hq1 ⊢
 have hZ1:=HZ0.out.fr0 hq1;have c01:=hq1.cell0 c0;have HZ1:=H_ hZ1;clear hq1 hZ1 c0 a1 a2 kl kr;go_upto_region 2 with fail
 go_quiet (fail)
 have hq2:=Fr.drewN No W1 nq;generalize W1.drewN nq=W2 at hq2 ⊢
 have hZ2:=HZ1.out.fr0 hq2;have HZ2:=H_ hZ2;clear hq2 hZ2 c01
 -- the pairs
 go_upto_region 3 with fail
 go_cut [44] (fun _ wx=>∃ v2,Hid (AtZ w wx t nb no cap fv (Z.set l ⟨⟨zl.nd.pairs++p :: zr.nd.pairs,zl.nd.kids⟩,v2,zl.kv⟩) fl root many F))
 case first =>
  obtain ⟨i0,hi0,hz0,hz1,hz2⟩:=info_parts info127;have hR:=HZ2.out.r;obtain ⟨b1,b2,b3,b4⟩:=hR.look at_ za HZA.out;obtain ⟨e1,e2,e3,e4⟩:=hR.look l zl HZL.out;obtain ⟨d1,d2,d3,d4⟩:=hR.look r zr HZR.out;rw [HPV.out] at b1;have hpp:=hR.pairs at_ za HZA.out;rw [HPV.out] at hpp;have x0:=hpp.cell0 zae i HP.out rfl;have x1:=hpp.cell zae i 1 HP.out rfl;have hlp:=hR.pairs l zl HZL.out;have hrp:=hR.pairs r zr HZR.out;have hpn:¬ zl.pv.ownBlock=some nb:=fun e=>(hR.a2 l _ nb HZL.out (.inl e)).2.1 rfl;have hrn:∀ b,zr.pv.ownBlock=some b->¬ zl.pv.ownBlock=some b:=fun b e e'=>HLR.out (hR.a4 l r zl zr b HZL.out HZR.out (.inl e') (.inl e));have hln:nb < W2.heap.size:=hR.nodes.lt nb rfl;have hlb:pb < W2.heap.size:=hpp.lt pb rfl;have hiz4:(i:Int) < (za.nd.pairs.length:Int):=(by omega);have HLP:=H_ hlp;have HRP:=H_ hrp
  have HRN:=H_ hrn;have HRZ:Hid (∀ b,zown zl b->b < W2.heap.size):=H_ fun b hb=>hR.zlt HZL.out hb;clear hR hpp hlp hrp hrn
  go_region_law (first
   | (refine zbh rfl _ _ 119 rfl 122 i0 _ 2 24 Tryz.underlying119 hi0 hz0 hz1 hz2 rfl (by decide) zae zgq zl.pv (.slice (some ⟨W2.heap.size,0,none⟩) 1 1) zl.nd.pairs [p] rfl rfl (HLP.out.fr0 ((Fr.refl No W2).drew.alloc _)) (zpd W2.drew p _ rfl) (by unfold maxLen;simp;omega) (by simp;omega) ?_
      intro v1 w4 hs4 hf4 hg4;have hF4:Fr (fun b=>zl.pv.ownBlock=some b) W2 w4:=((Fr.refl _ W2).drew.alloc _).trans hf4 fun _ _ e=>e;have u1:=hF4.cell e1 hpn;have u2:=hF4.free e1 e3 hpn;have u3:=hF4.cell d1 hpn;have HS4:=H_ hs4;have HF4:=H_ hF4;have HG4:=H_ hg4;clear hs4 hf4 hg4 hF4)
   | (refine zbh rfl _ _ 119 rfl 122 i0 _ 2 24 Tryz.underlying119 hi0 hz0 hz1 hz2 rfl (by decide) zae zgq v1 zr.pv (zl.nd.pairs++[p]) zr.nd.pairs rfl rfl HS4.out (HRP.out.fr HF4.out HRN.out) (by unfold maxLen;simp;omega) (by simp;omega) ?_
      intro v2 w5 hs5 hf5 hg5;obtain ⟨va,vcap,hv2,_,_,_⟩:=hs5.shape;generalize (zl.nd.pairs++[p]++zr.nd.pairs).length=n2 at hv2;subst hv2
      have hn1:¬ v1.ownBlock=some nb:=fun e=>by
       rcases HG4.out nb e with e | e
       · exact hpn e
       simp at e;omega
      have y1:=hf5.cell u1 hn1;have y2:=hf5.free u1 u2 hn1;have HS5:=H_ hs5;have HF5:=H_ hf5;have HG5:=H_ hg5;clear hs5 hf5 hg5))
  all_goals
   have hF5:Fr (fun b=>zl.pv.ownBlock=some b) W2 w5:=HF4.out.trans HF5.out fun b hb e=>by
    rcases HG4.out b e with e | e
    · exact e
    simp at e;omega
   have hq:=HZ2.out.setPairs (w1:=w5) (pv':=.slice va n2 vcap) (P':=zl.nd.pairs++p :: zr.nd.pairs) l zl HZL.out hF5 (by have:=HS5.out;simpa using this) fun b e=>by
    have hsz:=HF4.out.size;rcases HG5.out b e with e | e
    · rcases HG4.out b e with e | e
      · exact .inl e
      simp at e;exact .inr (by omega)
    exact .inr (by omega)
   have HQ:=H_ hq;clear hq hF5;go_wp2_with fail;go_meet
   case rel=>exact ⟨_,HQ⟩
 case rest =>
  obtain ⟨v2,HQ⟩:=hcut;have hzl2:(Z.set l ⟨⟨zl.nd.pairs++p :: zr.nd.pairs,zl.nd.kids⟩,v2,zl.kv⟩)[l]? = some ⟨⟨zl.nd.pairs++p :: zr.nd.pairs,zl.nd.kids⟩,v2,zl.kv⟩:=List.getElem?_set_self hll;have hzr2:(Z.set l ⟨⟨zl.nd.pairs++p :: zr.nd.pairs,zl.nd.kids⟩,v2,zl.kv⟩)[r]? = some zr:=(by rw [List.getElem?_set_ne HLR.out];exact HZR.out);have hza2:(Z.set l ⟨⟨zl.nd.pairs++p :: zr.nd.pairs,zl.nd.kids⟩,v2,zl.kv⟩)[at_]? = some za:=(by rw [List.getElem?_set_ne l2];exact HZA.out);have hnd2:ndsZ (Z.set l ⟨⟨zl.nd.pairs++p :: zr.nd.pairs,zl.nd.kids⟩,v2,zl.kv⟩)=A.set l ⟨zl.nd.pairs++p :: zr.nd.pairs,zl.nd.kids⟩:=(by rw [zax,HZ.out]);have hl2:(Z.set l ⟨⟨zl.nd.pairs++p :: zr.nd.pairs,zl.nd.kids⟩,v2,zl.kv⟩).length=Z.length:=(by simp)
  generalize Z.set l ⟨⟨zl.nd.pairs++p :: zr.nd.pairs,zl.nd.kids⟩,v2,zl.kv⟩=Z2 at HQ hzl2 hzr2 hza2 hnd2 hl2;have HZL2:=H_ hzl2;have HZR2:=H_ hzr2;have HZA2:=H_ hza2;have HND2:=H_ hnd2;have HL2:=H_ hl2;clear hzl2 hzr2 hza2 hnd2 hl2
  -- the kids
  go_upto_region 4 with fail
  go_cut [65] (fun _ wx=>∃ k2,Hid (AtZ w wx t nb no cap fv (Z2.set l ⟨⟨zl.nd.pairs++p :: zr.nd.pairs,zl.nd.kids++zr.nd.kids⟩,v2,k2⟩) fl root many F))
  case first =>
   obtain ⟨i0,hi0,hz0,hz1,hz2⟩:=info_parts info3;have hR:=HQ.out.r;obtain ⟨e1,e2,e3,e4⟩:=hR.look l _ HZL2.out;obtain ⟨d1,d2,d3,d4⟩:=hR.look r zr HZR2.out;have hlp:=hR.kids l _ HZL2.out;have hrp:=hR.kids r zr HZR2.out;have hpn:¬ zl.kv.ownBlock=some nb:=fun e=>(hR.a2 l _ nb HZL2.out (.inr e)).2.1 rfl;have hln:nb < wc.heap.size:=hR.nodes.lt nb rfl;have HLP:=H_ hlp;have HRP:=H_ hrp;dsimp only at e2 e4
   have hkl1:zl.nd.kids.length<=10:=by rcases l4 with e | e
                                       · rw [e];simp
                                       omega
   have hkl2:zr.nd.kids.length<=10:=by rcases r4 with e | e
                                       · rw [e];simp
                                       omega
   clear hR hlp hrp
   go_region_law (refine zbh rfl _ _ 76 rfl 3 i0 _ 1 8 Tryz.underlying76 hi0 hz0 hz1 hz2 rfl (by decide) zag zlx zl.kv zr.kv zl.nd.kids zr.nd.kids rfl rfl (HLP.out.drew) (HRP.out.drew) (by unfold maxLen;omega) (by omega) ?_
                  intro v3 w4 hs4 hf4 hg4;obtain ⟨va,vcap,hv2,_,_,_⟩:=hs4.shape;generalize (zl.nd.kids++zr.nd.kids).length=n2 at hv2;subst hv2;have hF4:Fr (fun b=>zl.kv.ownBlock=some b) wc w4:=((Fr.refl _ wc).drew).trans hf4 fun _ _ e=>e;have u1:=hF4.cell e2 hpn;have u2:=hF4.free e2 e4 hpn;have HS4:=H_ hs4;have HF4:=H_ hF4;have HG4:=H_ hg4;clear hs4 hf4 hg4 hF4)
   all_goals
    have hq:=HQ.out.setKids (w1:=w4) (kv':=.slice va n2 vcap) (K':=zl.nd.kids++zr.nd.kids) l _ HZL2.out HF4.out HS4.out HG4.out;have HQ4:=H_ hq;clear hq;go_wp2_with fail;go_meet
    case rel=>exact ⟨_,HQ4⟩
  case rest =>
   obtain ⟨k2,HQ3⟩:=hcut;have hatl2:at_ < Z2.length:=(by have:=HL2.out;omega);have hza3:(Z2.set l ⟨⟨zl.nd.pairs++p :: zr.nd.pairs,zl.nd.kids++zr.nd.kids⟩,v2,k2⟩)[at_]? = some za:=(by rw [List.getElem?_set_ne l2];exact HZA2.out);have hnd3:ndsZ (Z2.set l ⟨⟨zl.nd.pairs++p :: zr.nd.pairs,zl.nd.kids++zr.nd.kids⟩,v2,k2⟩)=A.set l ⟨zl.nd.pairs++p :: zr.nd.pairs,zl.nd.kids++zr.nd.kids⟩:=(by rw [zax,HND2.out,List.set_set]);have hl3:(Z2.set l ⟨⟨zl.nd.pairs++p :: zr.nd.pairs,zl.nd.kids++zr.nd.kids⟩,v2,k2⟩).length=Z.length:=(by rw [List.length_set];exact HL2.out);generalize Z2.set l ⟨⟨zl.nd.pairs++p :: zr.nd.pairs,zl.nd.kids++zr.nd.kids⟩,v2,k2⟩=Z3 at HQ3 hza3 hnd3 hl3;have hR:=HQ3.out.r;obtain ⟨b1,b2,b3,b4⟩:=hR.look at_ za hza3;have hpp:=hR.pairs at_ za hza3
   have hpn:¬ za.pv.ownBlock=some nb:=fun e=>(hR.a2 at_ _ nb hza3 (.inl e)).2.1 rfl;have hkn:¬ za.kv.ownBlock=some nb:=fun e=>(hR.a2 at_ _ nb hza3 (.inr e)).2.1 rfl;have hln:nb < wc.heap.size:=hR.nodes.lt nb rfl;have hcut:=zee wc za.pv za.nd.pairs i hpp hi (by omega);have HZA3:=H_ hza3;have HND3:=H_ hnd3;have HL3:=H_ hl3;have HPP:=H_ hpp;clear hR hza3 hnd3 hl3 hpp HQ HZL2 HZR2 HZA2 HND2 HL2
   go_upto_region 6 with (first
    | (go_at_call 170;refine hcut.mono ?_;clear hcut;rintro e w5 ⟨g5,o5,c5,rfl,hs5,hf5,hg5⟩
       have y1:=hf5.cell b1 hpn;have y2:=hf5.free b1 b3 hpn;have HS5:=H_ hs5;have HF5:=H_ hf5;have HG5:=H_ hg5;clear hs5 hf5 hg5))
   have hq:=HQ3.out.setPairs (w1:=w5) (pv':=.slice (some ⟨g5,o5,none⟩) (za.nd.pairs.length - 1) c5) (P':=za.nd.pairs.take i++za.nd.pairs.drop (i+1)) at_ za HZA3.out HF5.out HS5.out fun b e=>by
    obtain rfl:g5=b:=by simpa [Value.ownBlock] using e
    exact .inl HG5.out
   generalize w5.setCell ⟨nb,no+at_ * 2,none⟩ (.slice (some ⟨g5,o5,none⟩) (za.nd.pairs.length - 1) c5)=W6 at hq ⊢
   have hatl3:at_ < Z3.length:=(by have:=HL3.out;omega);have hza6:(Z3.set at_ ⟨⟨za.nd.pairs.take i++za.nd.pairs.drop (i+1),za.nd.kids⟩,.slice (some ⟨g5,o5,none⟩) (za.nd.pairs.length - 1) c5,za.kv⟩)[at_]? = some ⟨⟨za.nd.pairs.take i++za.nd.pairs.drop (i+1),za.nd.kids⟩,.slice (some ⟨g5,o5,none⟩) (za.nd.pairs.length - 1) c5,za.kv⟩:=List.getElem?_set_self hatl3;have hnd6:ndsZ (Z3.set at_ ⟨⟨za.nd.pairs.take i++za.nd.pairs.drop (i+1),za.nd.kids⟩,.slice (some ⟨g5,o5,none⟩) (za.nd.pairs.length - 1) c5,za.kv⟩)=(A.set l ⟨zl.nd.pairs++p :: zr.nd.pairs,zl.nd.kids++zr.nd.kids⟩).set at_ ⟨za.nd.pairs.take i++za.nd.pairs.drop (i+1),za.nd.kids⟩:=(by rw [zax,HND3.out]);generalize Z3.set at_ ⟨⟨za.nd.pairs.take i++za.nd.pairs.drop (i+1),za.nd.kids⟩,.slice (some ⟨g5,o5,none⟩) (za.nd.pairs.length - 1) c5,za.kv⟩=Z6 at hq hza6 hnd6
   have hR:=hq.r;obtain ⟨_,u2,_,u4⟩:=hR.look at_ _ hza6;have hkk:=hR.kids at_ _ hza6;dsimp only at u2 u4 hkk;have hcut2:=zhb W6 za.kv za.nd.kids (i+1) hkk (by omega) (by omega);have HQ6:=H_ hq;have HZA6:=H_ hza6;have HND6:=H_ hnd6;have hln6:nb < W6.heap.size:=hR.nodes.lt nb rfl;clear hR hq hza6 hnd6 hkk y1 y2 b1 b2 b3 b4
   go_upto_region 7 with (first
    | (go_at_call 182;refine hcut2.mono ?_;clear hcut2;rintro e w7 ⟨g7,o7,c7,rfl,hs7,hf7,hg7⟩
       have y1:=hf7.cell u2 hkn;have y2:=hf7.free u2 u4 hkn;have HS7:=H_ hs7;have HF7:=H_ hf7;have HG7:=H_ hg7;clear hs7 hf7 hg7))
   have hq:=HQ6.out.setKids (w1:=w7) (kv':=.slice (some ⟨g7,o7,none⟩) (za.nd.kids.length - 1) c7) (K':=za.nd.kids.take (i+1)++za.nd.kids.drop (i+2)) at_ _ HZA6.out HF7.out HS7.out fun b e=>by
    obtain rfl:g7=b:=by simpa [Value.ownBlock] using e
    exact .inl HG7.out
   generalize w7.setCell ⟨nb,no+at_ * 2+1,none⟩ (.slice (some ⟨g7,o7,none⟩) (za.nd.kids.length - 1) c7)=W8 at hq ⊢
   have HQ8:=H_ hq;clear hq y1 y2 u2 u4
   have hz8:TreeZ W8 t ((A.set l ⟨zl.nd.pairs++p :: zr.nd.pairs,zl.nd.kids++zr.nd.kids⟩).set at_ ⟨za.nd.pairs.take i++za.nd.pairs.drop (i+1),za.nd.kids.take (i+1)++za.nd.kids.drop (i+2)⟩) fl root many _ :=
    ⟨_,_,_,HQ8.out.r,by rw [zax,HND6.out,List.set_set],fun b=>Iff.rfl⟩
   have HZ8:=H_ hz8;clear hz8
   have hrA:r < ((A.set l ⟨zl.nd.pairs++p :: zr.nd.pairs,zl.nd.kids++zr.nd.kids⟩).set at_ ⟨za.nd.pairs.take i++za.nd.pairs.drop (i+1),za.nd.kids.take (i+1)++za.nd.kids.drop (i+2)⟩).length:=by
    rw [List.length_set,List.length_set,<-HZ.out,zav];exact hrl
   have hAl:((A.set l ⟨zl.nd.pairs++p :: zr.nd.pairs,zl.nd.kids++zr.nd.kids⟩).set at_ ⟨za.nd.pairs.take i++za.nd.pairs.drop (i+1),za.nd.kids.take (i+1)++za.nd.kids.drop (i+2)⟩).length<=1099511627:=by
    rw [List.length_set,List.length_set];omega
   have HRA:=H_ hrA;have HAL:=H_ hAl;clear hrA hAl
   go_wp2_with (first
    | (go_at_call 149;refine (zjo W8 t _ fl root many _ HZ8.out r HRA.out HAL.out (by omega)).mono ?_;rintro e w9 ⟨rfl,F9,hz9,hf9,hn9⟩))
   refine bodyPost_end (results_none rfl _ _ _) rfl ⟨rfl,F9,?_,?_,?_⟩
   · rw [HJ.out,HKR.out];exact hz9
   · exact HQ8.out.fr.trans hf9 fun b hb e=>by
      rcases HQ8.out.new b e with e | e
      · exact e
      omega
   intro b hb
   have hsz:=HQ8.out.fr.size;rcases hn9 b hb with e | e
   · exact HQ8.out.new b e
   exact .inr (by omega)
set_option maxHeartbeats 4000000 in
theorem zmr (w:World) (t:Nat) (nv fv:Value) (Z:List Nz) (fl:List Nat) (root:Nat) (many:Int) (h:TreeR w t nv fv Z fl root many) (hZ:Z.length<=109951162) (at_:Nat) (last:Bool) (g:Nat) (hs:zeb g (ndsZ Z) at_ last) :
 Calls Tryz.prog 172 #[.pointer (some ⟨t,0,none⟩),.int .i64 at_,.bool last] w fun e w'=>e = .returned (.agg #[.string (endA g (ndsZ Z) at_ last).1,.int .i64 (endA g (ndsZ Z) at_ last).2])/\Fr No w w':=by
 have hpos:0 < Z.length:=by
  cases g with
  | zero=>exact absurd hs id
  | succ g=>have:=hs.1;rw [zav] at this;omega
 obtain ⟨nb,no,cap,rfl,hcap⟩:=h.headLen hpos;have H:=H_ h;have HS:=H_ hs;clear h hs;generalize hres:endA g (ndsZ Z) at_ last=res;have HRES:=H_ hres;clear hres;cases last
 · go_enter Tryz.func172,Tryz.ntmps172
   go_wp2_with fail
   go_loopg [1] g (fun gg s1 wr=>∃ at2:Nat,s1 = .int .i64 at2/\Hid (zeb gg (ndsZ Z) at2 false)/\Hid (endA gg (ndsZ Z) at2 false=res)/\Hid (Fr No w wr)/\Hid (∃ s i,wr.heap[w.heap.size]? = some (.cells #[.string s,.int .i64 i] 122 (0,0))))
   case atStart=>exact ⟨at_,rfl,HS,HRES,H_ ((Fr.refl No w).alloc _),H_ ⟨_,_,zad _ _ _ rfl⟩⟩
   case round =>
    obtain ⟨at2,rfl,HS2,HR2,HF,HB⟩:=hrel
    cases gk with
    | zero=>exact absurd HS2.out id
    | succ q =>
      obtain ⟨s1,s2,s3,s4,s5⟩:=HS2.out;have hR2:=HR2.out;unfold endA at hR2;obtain ⟨z,hz,hnd⟩:=zcm s1;rw [hnd] at s2 s3 s4 s5 hR2;have hatl:at2 < Z.length:=(List.getElem?_eq_some_iff.1 hz).1;have hR:=H.out.fr0 HF.out;obtain ⟨b,i,hb⟩:=HB.out;obtain ⟨a1,a2,_,_⟩:=hR.look at2 z hz;have c0:=hR.obj.cell 0 rfl;have hP:=hR.pairs at2 z hz;have hK:=hR.kids at2 z hz;obtain ⟨pa,pcap,hpv,hp1,hp2,hpa⟩:=hP.shape;obtain ⟨ka,kcap,hkv,hk1,hk2,hka⟩:=hK.shape;obtain ⟨pb,po,rfl⟩:=hpa (by omega);rw [hpv] at a1 hP;rw [hkv] at a2 hK;have hatz:(at2:Int) < (Z.length:Int):=(by omega);have x0:wr.cell? ⟨w.heap.size,0,none⟩=some (.string b):=cellAt hb 0 rfl;have x1:wr.cell? ⟨w.heap.size,1,none⟩=some (.int .i64 i):=cellAt hb 1 rfl
      have xf:∀ j,wr.frozen? ⟨w.heap.size,j,none⟩=false:=fun j=>by simp [World.frozen?,hb]
      have hlb:w.heap.size < wr.heap.size:=zac hb;have hlt:t < wr.heap.size:=hR.obj.lt;have hln:nb < wr.heap.size:=hR.nodes.lt nb rfl;have hlp:pb < wr.heap.size:=hP.lt pb rfl;have hpz:(0:Int) < (z.nd.pairs.length:Int):=(by omega);have hpz1:(0:Int)<=(z.nd.pairs.length:Int) - 1:=(by omega);have hpz2:(z.nd.pairs.length:Int) - 1 < (z.nd.pairs.length:Int):=(by omega);have hpz3:((z.nd.pairs.length:Int) - 1).toNat=z.nd.pairs.length - 1:=(by omega);have hpz4:(z.nd.pairs.length:Int)<=9:=(by omega)
      have hbl:∀ (o:Obj) (y:ByteArray × Int),(((wr.setCell ⟨w.heap.size,0,none⟩ (.string y.1)).setCell ⟨w.heap.size,1,none⟩ (.int .i64 y.2)).alloc o).heap[w.heap.size]? = some (.cells #[.string y.1,.int .i64 y.2] 122 (0,0)):=fun o y=>by
       have h1:=zaa (zaa hb 0 (.string y.1)) 1 (.int .i64 y.2);rw [zaj h1 o];simp
      have hfr:∀ (o:Obj) (y:ByteArray × Int),Fr No w (((wr.setCell ⟨w.heap.size,0,none⟩ (.string y.1)).setCell ⟨w.heap.size,1,none⟩ (.int .i64 y.2)).alloc o):=fun o y =>
       (((HF.out.setCell (p:=⟨w.heap.size,0,none⟩) (.inr (Nat.le_refl _)) _).setCell (p:=⟨w.heap.size,1,none⟩) (.inr (Nat.le_refl _)) _)).alloc o
      have HBL:=H_ hbl;have HFR:=H_ hfr;clear hbl hfr;by_cases hk0:z.nd.kids = []
      · rw [if_pos hk0] at hR2
        have hkl:z.nd.kids.length=0:=(by rw [hk0];rfl);rw [hkl] at a2;obtain ⟨y,hy⟩:∃ y,z.nd.pairs[0]? = some y:=⟨_,List.getElem?_eq_getElem (by omega)⟩;have hyr:y=res:=(by rw [<-hR2,if_neg (by decide)];unfold List.getD;rw [hy];rfl);have y0:=hP.cell0 zae 0 hy rfl;have y1:=hP.cell zae 0 1 hy rfl;simp only [Nat.zero_mul,Nat.add_zero] at y0 y1;have HYR:=H_ hyr;clear hyr hy hR2 hk0 hkl hP hK hpv hkv hR hz hnd s5 hpa hka hb;go_wp2;rw [<-HYR.out];exact bodyPost_ret (results_cell_row rfl _ _ w.heap.size 122 _ (0,0) _ rfl (HBL.out _ y) Tryz.underlying122 rfl (by kernel_rfl)) rfl ⟨rfl,HFR.out _ y⟩
      rw [if_neg hk0] at hR2
      have hs5:=s5 hk0;have hkpos:0 < z.nd.kids.length:=List.length_pos_iff.2 hk0;obtain ⟨kb,ko,rfl⟩:=hka hkpos;have hkz0:(0:Int) < (z.nd.kids.length:Int):=(by omega);have hkzb:((z.nd.kids.length:Int) == 0)=false:=(by simp;omega);have hkz1:(0:Int)<=(z.nd.kids.length:Int) - 1:=(by omega);have hkz2:(z.nd.kids.length:Int) - 1 < (z.nd.kids.length:Int):=(by omega);have hkz3:((z.nd.kids.length:Int) - 1).toNat=z.nd.kids.length - 1:=(by omega);have hkz4:(z.nd.kids.length:Int)<=10:=(by omega);have hlk:kb < wr.heap.size:=hK.lt kb rfl;obtain ⟨y,hy⟩:∃ y,z.nd.kids[0]? = some y:=⟨_,List.getElem?_eq_getElem (by omega)⟩;have hyr:z.nd.kids.getD 0 0=y:=(by simp [List.getD,hy]);rw [if_neg (by decide),hyr] at hR2 hs5;have y0:=hK.cell1 zag 0 hy rfl;simp only [Nat.add_zero] at y0;have HR2':=H_ hR2
      have HS5:=H_ hs5;have HB3:Hid (∀ o,∃ s i,(wr.alloc o).heap[w.heap.size]? = some (.cells #[.string s,.int .i64 i] 122 (0,0))):=H_ fun o=>⟨b,i,zaj hb o⟩;clear hyr hy hR2 hs5 hk0 hP hK hpv hkv hR hz hnd s5 hpa hka hb;go_wp2;go_roundg q
      case rel=>exact ⟨y,rfl,HS5,HR2',H_ (HF.out.alloc _),H_ (HB3.out _)⟩
      case measure=>omega
 go_enter Tryz.func172,Tryz.ntmps172
 go_wp2_with fail
 go_loopg [1] g (fun gg s1 wr=>∃ at2:Nat,s1 = .int .i64 at2/\Hid (zeb gg (ndsZ Z) at2 true)/\Hid (endA gg (ndsZ Z) at2 true=res)/\Hid (Fr No w wr)/\Hid (∃ s i,wr.heap[w.heap.size]? = some (.cells #[.string s,.int .i64 i] 122 (0,0))))
 case atStart=>exact ⟨at_,rfl,HS,HRES,H_ ((Fr.refl No w).alloc _),H_ ⟨_,_,zad _ _ _ rfl⟩⟩
 case round =>
  obtain ⟨at2,rfl,HS2,HR2,HF,HB⟩:=hrel
  cases gk with
  | zero=>exact absurd HS2.out id
  | succ q =>
    obtain ⟨s1,s2,s3,s4,s5⟩:=HS2.out;have hR2:=HR2.out;unfold endA at hR2;obtain ⟨z,hz,hnd⟩:=zcm s1;rw [hnd] at s2 s3 s4 s5 hR2;have hatl:at2 < Z.length:=(List.getElem?_eq_some_iff.1 hz).1;have hR:=H.out.fr0 HF.out;obtain ⟨b,i,hb⟩:=HB.out;obtain ⟨a1,a2,_,_⟩:=hR.look at2 z hz;have c0:=hR.obj.cell 0 rfl;have hP:=hR.pairs at2 z hz;have hK:=hR.kids at2 z hz;obtain ⟨pa,pcap,hpv,hp1,hp2,hpa⟩:=hP.shape;obtain ⟨ka,kcap,hkv,hk1,hk2,hka⟩:=hK.shape;obtain ⟨pb,po,rfl⟩:=hpa (by omega);rw [hpv] at a1 hP;rw [hkv] at a2 hK;have hatz:(at2:Int) < (Z.length:Int):=(by omega);have x0:wr.cell? ⟨w.heap.size,0,none⟩=some (.string b):=cellAt hb 0 rfl;have x1:wr.cell? ⟨w.heap.size,1,none⟩=some (.int .i64 i):=cellAt hb 1 rfl
    have xf:∀ j,wr.frozen? ⟨w.heap.size,j,none⟩=false:=fun j=>by simp [World.frozen?,hb]
    have hlb:w.heap.size < wr.heap.size:=zac hb;have hlt:t < wr.heap.size:=hR.obj.lt;have hln:nb < wr.heap.size:=hR.nodes.lt nb rfl;have hlp:pb < wr.heap.size:=hP.lt pb rfl;have hpz:(0:Int) < (z.nd.pairs.length:Int):=(by omega);have hpz1:(0:Int)<=(z.nd.pairs.length:Int) - 1:=(by omega);have hpz2:(z.nd.pairs.length:Int) - 1 < (z.nd.pairs.length:Int):=(by omega);have hpz3:((z.nd.pairs.length:Int) - 1).toNat=z.nd.pairs.length - 1:=(by omega);have hpz4:(z.nd.pairs.length:Int)<=9:=(by omega)
    have hbl:∀ (o:Obj) (y:ByteArray × Int),(((wr.setCell ⟨w.heap.size,0,none⟩ (.string y.1)).setCell ⟨w.heap.size,1,none⟩ (.int .i64 y.2)).alloc o).heap[w.heap.size]? = some (.cells #[.string y.1,.int .i64 y.2] 122 (0,0)):=fun o y=>by
     have h1:=zaa (zaa hb 0 (.string y.1)) 1 (.int .i64 y.2);rw [zaj h1 o];simp
    have hfr:∀ (o:Obj) (y:ByteArray × Int),Fr No w (((wr.setCell ⟨w.heap.size,0,none⟩ (.string y.1)).setCell ⟨w.heap.size,1,none⟩ (.int .i64 y.2)).alloc o):=fun o y =>
     (((HF.out.setCell (p:=⟨w.heap.size,0,none⟩) (.inr (Nat.le_refl _)) _).setCell (p:=⟨w.heap.size,1,none⟩) (.inr (Nat.le_refl _)) _)).alloc o
    have HBL:=H_ hbl;have HFR:=H_ hfr;clear hbl hfr;by_cases hk0:z.nd.kids = []
    · rw [if_pos hk0] at hR2
      have hkl:z.nd.kids.length=0:=(by rw [hk0];rfl);rw [hkl] at a2;obtain ⟨y,hy⟩:∃ y,z.nd.pairs[z.nd.pairs.length - 1]? = some y:=⟨_,List.getElem?_eq_getElem (by omega)⟩;have hyr:y=res:=(by rw [<-hR2,if_pos rfl];unfold lastOf List.getD;rw [hy];rfl);have y0:=hP.cell0 zae _ hy rfl;have y1:=hP.cell zae _ 1 hy rfl;have HYR:=H_ hyr;clear hyr hy hR2 hk0 hkl hP hK hpv hkv hR hz hnd s5 hpa hka hb;go_wp2;rw [<-HYR.out];exact bodyPost_ret (results_cell_row rfl _ _ w.heap.size 122 _ (0,0) _ rfl (HBL.out _ y) Tryz.underlying122 rfl (by kernel_rfl)) rfl ⟨rfl,HFR.out _ y⟩
    rw [if_neg hk0] at hR2
    have hs5:=s5 hk0;have hkpos:0 < z.nd.kids.length:=List.length_pos_iff.2 hk0;obtain ⟨kb,ko,rfl⟩:=hka hkpos;have hkz0:(0:Int) < (z.nd.kids.length:Int):=(by omega);have hkzb:((z.nd.kids.length:Int) == 0)=false:=(by simp;omega);have hkz1:(0:Int)<=(z.nd.kids.length:Int) - 1:=(by omega);have hkz2:(z.nd.kids.length:Int) - 1 < (z.nd.kids.length:Int):=(by omega);have hkz3:((z.nd.kids.length:Int) - 1).toNat=z.nd.kids.length - 1:=(by omega);have hkz4:(z.nd.kids.length:Int)<=10:=(by omega);have hlk:kb < wr.heap.size:=hK.lt kb rfl;obtain ⟨y,hy⟩:∃ y,z.nd.kids[z.nd.kids.length - 1]? = some y:=⟨_,List.getElem?_eq_getElem (by omega)⟩;have hyr:lastOf z.nd.kids 0=y:=(by simp [lastOf,List.getD,hy]);rw [if_pos rfl,hyr] at hR2 hs5;have y0:=hK.cell1 zag _ hy rfl;have HR2':=H_ hR2;have HS5:=H_ hs5
    have HB3:Hid (∀ o,∃ s i,(wr.alloc o).heap[w.heap.size]? = some (.cells #[.string s,.int .i64 i] 122 (0,0))):=H_ fun o=>⟨b,i,zaj hb o⟩;clear hyr hy hR2 hs5 hk0 hP hK hpv hkv hR hz hnd s5 hpa hka hb;go_wp2;go_roundg q
    case rel=>exact ⟨y,rfl,HS5,HR2',H_ (HF.out.alloc _),H_ (HB3.out _)⟩
    case measure=>omega
end Go.Proofs.YthljnnjpmdgkoaaGreat