/- Own lemmas. -/
import Derived.Test.YtdgkdfmfoonbpaaGreatR16
import Derived.Test.YtdgkdfmfoonbpaaGreatR13
import Derived.Test.YtdgkdfmfoonbpaaGreatR15
import Derived.BigRegion
import Derived.Deep.DeepCutAuto
namespace Go.Proofs.YtdgkdfmfoonbpaaGreat
open Go Go.Proofs Go.RowKit
set_option maxRecDepth 100000
theorem info90:(Tryz.prog.info? 165).map (fun i=>(i.zero,i.size,i.bytes))=some (some (.agg #[.int .i64 0,.slice none 0 0,.int .i64 0,.bool false]),4,48):=by kernel_rfl
structure LoopR (TA:zai) (w0 w:World) (s sb vb:Nat) (F0:Nat->Prop) (r:Run) (F:Nat->Prop) (ev out:Value) (Z:List (Ans×Value)):Prop where
 fr:Fr F0 w0 w
 store:zal TA w s r.S F
 box:Has w sb [.pointer (some ⟨s,0,none⟩)]
 evs:Has w vb [ev]
 evl:SlF w 72 13 evC ev r.E
 ans:AnsR w out Z
 eqs:Z.map (·.1)=r.A
 new:∀ b,F b->F0 b\/w0.heap.size<=b
 old:∀ b,F0 b->b<w0.heap.size
 sbn:w0.heap.size<=sb
 vbn:w0.heap.size<=vb
 evn:∀ b,ev.ownBlock=some b->w0.heap.size<=b
 ann:∀ b,ansF out Z b->w0.heap.size<=b
 f1:¬ F sb
 f2:¬ F vb
 f4:∀ b,ev.ownBlock=some b->¬ F b
 f5:∀ b,ansF out Z b->¬ F b
 n1:sb≠vb
 e1:ev.ownBlock≠some sb
 e2:ev.ownBlock≠some vb
 k1:¬ ansF out Z sb
 k2:¬ ansF out Z vb
 ek:∀ b,ev.ownBlock=some b->¬ ansF out Z b
theorem zto {v:Value} {Z:List (Ans×Value)} {a:Ans} {kv:Value} {b:Nat} (h:ansF v (Z++[(a,kv)]) b):v.ownBlock=some b\/(∃ (i:Nat) (q:Ans×Value),Z[i]?=some q/\q.2.ownBlock=some b)\/kv.ownBlock=some b:=by
 rcases h with h | ⟨i,q,c,h⟩
 · exact .inl h
 by_cases hi:i<Z.length
 · rw [List.getElem?_append_left hi] at c
   exact .inr (.inl ⟨i,q,c,h⟩)
 rw [List.getElem?_append_right (by omega)] at c
 have d:i-Z.length=0:=by
  have:=(List.getElem?_eq_some_iff.1 c).1;simp at this;omega
 rw [d] at c;simp at c;subst c;exact .inr (.inr h)
theorem LoopR.next {TA:zai} {N:Nat} (hT:TreeOk TA N) {w0 wr w5 w6:World} {s sb vb:Nat} {F0 F F':Nat->Prop} {r:Run} {ev out ev' out' kv:Value} {Z:List (Ans×Value)} {S':St} {E':List Ev} {a:Ans} {X:Nat->Prop}
 (hl:LoopR TA w0 wr s sb vb F0 r F ev out Z) (hS:zal TA w5 s S' F') (hbox:Has w5 sb [.pointer (some ⟨s,0,none⟩)]) (hevs:Has w5 vb [ev']) (hevl:SlF w5 72 13 evC ev' E') (hkv:SlF w5 70 6 kvC kv a.kvs)
 (hf:Fr X wr w5) (hX:∀ b,b<wr.heap.size->X b->F b\/b=vb\/ev.ownBlock=some b) (hF':∀ b,F' b->F b\/wr.heap.size<=b) (hev':∀ b,ev'.ownBlock=some b->ev.ownBlock=some b\/wr.heap.size<=b)
 (hkv':∀ b,kv.ownBlock=some b->wr.heap.size<=b) (d1:∀ b,ev'.ownBlock=some b->¬ F' b) (d2:∀ b,kv.ownBlock=some b->¬ F' b) (d3:∀ b,ev'.ownBlock=some b->kv.ownBlock≠some b)
 (hf6:Fr (fun b=>out.ownBlock=some b) w5 w6) (hs6:SlF w6 165 4 ansC out' (Z++[(a,kv)])) (hn6:∀ b,out'.ownBlock=some b->out.ownBlock=some b\/w5.heap.size<=b) :
 LoopR TA w0 w6 s sb vb F0 ⟨S',r.A++[a],E'⟩ F' ev' out' (Z++[(a,kv)]):=by
 have v:=hl.store.lt hT;have m:=hS.lt hT;have k:=hl.ans.lt;have i:=hevl.lt;have q:=hkv.lt;have t:=hl.box.lt;have u:=hl.evs.lt;have o:=hf.size;have n:=hl.fr.size
 have j:∀ b,out.ownBlock=some b->¬ F' b:=fun b hb h=>by
  rcases hF' b h with e | e
  · exact hl.f5 b (.inl hb) e
  have:=k b (.inl hb);omega
 have f:∀ b,kv.ownBlock=some b->out.ownBlock≠some b:=fun b hb h=>by
  have:=k b (.inl h);have:=hkv' b hb;omega
 have d:∀ b,ev'.ownBlock=some b->¬ ansF out Z b:=fun b hb h=>by
  rcases hev' b hb with e | e
  · exact hl.ek b e h
  have:=k b h;omega
 -- what the answers' blocks are
 have c:∀ b,ansF out' (Z++[(a,kv)]) b->ansF out Z b\/w5.heap.size<=b\/kv.ownBlock=some b:=fun b h=>by
  rcases zto h with h | h | h
  · rcases hn6 b h with h | h
    · exact .inl (.inl h)
    exact .inr (.inl h)
  · exact .inl (.inr h)
  exact .inr (.inr h)
 have l:Fr F0 w0 w6:=by
  refine (hl.fr.trans (hf.mono (T:=fun b=>F b\/b=vb\/ev.ownBlock=some b) hX) fun b hb h=>?_).trans hf6 fun b hb h=>?_
  · rcases h with h | h | h
    · rcases hl.new b h with h | h
      · exact h
      omega
    · have:=hl.vbn;omega
    have:=hl.evn b h;omega
  have:=hl.ann b (.inl h);omega
 exact {
  fr:=l
  store:=hS.fr hT hf6 fun b hb h=>j b h hb
  box:=hbox.fr hf6 fun h=>hl.k1 (.inl h)
  evs:=hevs.fr hf6 fun h=>hl.k2 (.inl h)
  evl:=hevl.fr hf6 fun b hb h=>d b hb (.inl h)
  ans:=(hl.ans.fr (hf.mono hX) fun b hb h=>by
   rcases h with h | h | h
   · exact hl.f5 b hb h
   · exact hl.k2 (h▸hb)
   exact hl.ek b h hb).snoc hf6 hs6 hkv f hn6
  eqs:=by rw [List.map_append,hl.eqs];rfl
  new:=fun b h=>by
   rcases hF' b h with h | h
   · exact hl.new b h
   exact .inr (by omega)
  old:=hl.old
  sbn:=hl.sbn
  vbn:=hl.vbn
  evn:=fun b h=>by
   rcases hev' b h with h | h
   · exact hl.evn b h
   omega
  ann:=fun b h=>by
   rcases c b h with h | h | h
   · exact hl.ann b h
   · omega
   have:=hkv' b h;omega
  f1:=fun h=>by
   rcases hF' _ h with h | h
   · exact hl.f1 h
   omega
  f2:=fun h=>by
   rcases hF' _ h with h | h
   · exact hl.f2 h
   omega
  f4:=d1
  f5:=fun b h hF=>by
   rcases c b h with h | h | h
   · rcases hF' b hF with e | e
     · exact hl.f5 b h e
     have:=k b h;omega
   · have:=m b hF;omega
   exact d2 b h hF
  n1:=hl.n1
  e1:=fun h=>by
   rcases hev' _ h with h | h
   · exact hl.e1 h
   omega
  e2:=fun h=>by
   rcases hev' _ h with h | h
   · exact hl.e2 h
   omega
  k1:=fun h=>by
   rcases c _ h with h | h | h
   · exact hl.k1 h
   · omega
   have:=hkv' _ h;omega
  k2:=fun h=>by
   rcases c _ h with h | h | h
   · exact hl.k2 h
   · omega
   have:=hkv' _ h;omega
  ek:=fun b h g=>by
   rcases c b g with g | g | g
   · exact d b h g
   · have:=i b h;omega
   exact d3 b h g }
def layKv (w:World) (g o:Nat) (y:Kv):World :=
 (((((w.setCell ⟨g,o,none⟩ (.string y.key)).setCell ⟨g,o+1,none⟩ (.string y.value)).setCell ⟨g,o+2,none⟩ (.int .i64 y.create)).setCell ⟨g,o+3,none⟩ (.int .i64 y.mod)).setCell ⟨g,o+4,none⟩ (.int .i64 y.version)).setCell ⟨g,o+5,none⟩ (.int .i64 y.lease)
theorem zpa {w:World} {g o cap:Nat} {L:List Kv} (h:SlF w 70 6 kvC (.slice (some ⟨g,o,none⟩) L.length cap) L) (i:Nat) {x:Kv} (hx:L[i]?=some x) (y:Kv) :
 SlF (layKv w g (o+i * 6) y) 70 6 kvC (.slice (some ⟨g,o,none⟩) L.length cap) (L.set i y):=by
 have a:=(List.getElem?_eq_some_iff.1 hx).1
 have step:∀ {w:World} {M:List Kv} {z:Kv} (j:Nat) (u:Value) (z':Kv),j<6->M.length=L.length->SlF w 70 6 kvC (.slice (some ⟨g,o,none⟩) L.length cap) M->M[i]?=some z->kvC z'=(kvC z).set j u →
  SlF (w.setCell ⟨g,o+i * 6+j,none⟩ u) 70 6 kvC (.slice (some ⟨g,o,none⟩) L.length cap) (M.set i z'):=by
  intro w M z j u z' e c b f d;rw [<-c] at b ⊢
  exact b.set zar i j e z z' u f d
 have k:=step 0 (.string y.key) ({ x with key:=y.key }) (by omega) rfl h hx rfl;have l:=step (z:={ x with key:=y.key }) 1 (.string y.value) ({ x with key:=y.key,value:=y.value }) (by omega) (by simp) k (by simp [a]) rfl;have m:=step (z:={ x with key:=y.key,value:=y.value }) 2 (.int .i64 y.create) ({ x with key:=y.key,value:=y.value,create:=y.create }) (by omega) (by simp) l (by simp [a]) rfl;have n:=step (z:={ x with key:=y.key,value:=y.value,create:=y.create }) 3 (.int .i64 y.mod) ({ x with key:=y.key,value:=y.value,create:=y.create,mod:=y.mod }) (by omega) (by simp) m (by simp [a]) rfl
 have q:=step (z:={ x with key:=y.key,value:=y.value,create:=y.create,mod:=y.mod }) 4 (.int .i64 y.version) ({ x with key:=y.key,value:=y.value,create:=y.create,mod:=y.mod,version:=y.version }) (by omega) (by simp) n (by simp [a]) rfl;have r:=step (z:={ x with key:=y.key,value:=y.value,create:=y.create,mod:=y.mod,version:=y.version }) 5 (.int .i64 y.lease) (y) (by omega) (by simp) q (by simp [a]) rfl;simpa [layKv,List.set_set] using r
theorem zpb {S:Nat->Prop} {a w:World} (h:Fr S a w) (g o:Nat) (y:Kv) (hg:S g):Fr S a (layKv w g o y):=by
 unfold layKv;exact (((((h.setCell (.inl hg) _).setCell (.inl hg) _).setCell (.inl hg) _).setCell (.inl hg) _).setCell (.inl hg) _).setCell (.inl hg) _
def Turned (L M:List Kv) (i:Nat):Prop:=M.length=L.length/\∀ k,k<L.length->M[k]?=if k<i\/L.length-i<=k then L[L.length-1-k]? else L[k]?
theorem Turned.start (L:List Kv):Turned L L 0:=⟨rfl,fun k hk=>by rw [if_neg (by omega)]⟩
theorem Turned.done {L M:List Kv} {i:Nat} (h:Turned L M i) (hi:L.length<=2 * i+1):M=L.reverse:=by
 refine List.ext_getElem? fun k=>?_;by_cases hk:k<L.length
 · rw [h.2 k hk,List.getElem?_reverse hk]
   split
   · rfl
   rename_i hn
   congr 1;omega
 rw [List.getElem?_eq_none (by rw [h.1];omega),List.getElem?_eq_none (by simp;omega)]
theorem Turned.next {L M:List Kv} {i j:Nat} (h:Turned L M i) (hij:i+j+1=L.length) (hlt:i<j) {x y:Kv} (hx:L[i]?=some x) (hy:L[j]?=some y):Turned L ((M.set i y).set j x) (i+1):=by
 refine ⟨by simp [h.1],fun k hk=>?_⟩;have a:=h.1;by_cases hkj:k=j
 · subst hkj
   rw [List.getElem?_set_self (by simp;omega),if_pos (by omega),show L.length-1-k=i by omega,hx]
 rw [List.getElem?_set_ne (fun e=>hkj e.symm)]
 by_cases hki:k=i
 · subst hki
   rw [List.getElem?_set_self (by omega),if_pos (by omega),show L.length-1-k=j by omega,hy]
 rw [List.getElem?_set_ne (fun e=>hki e.symm),h.2 k hk]
 by_cases hc:k<i\/L.length-i<=k
 · rw [if_pos hc,if_pos (by omega)]
 rw [if_neg hc,if_neg (by omega)]
theorem Turned.at {L M:List Kv} {i k:Nat} (h:Turned L M i) (h1:i<=k) (h2:k+i<L.length):M[k]?=L[k]?:=by rw [h.2 k (by omega),if_neg (by omega)]
set_option maxHeartbeats 4000000 in
theorem zjz (w:World) (v:Value) (L:List Kv) (hv:SlF w 70 6 kvC v L) (hl:L.length<=1099511627) :
 Calls Tryz.prog 101 #[v] w fun e w'=>(∃ u,e=.returned u)/\SlF w' 70 6 kvC v L.reverse/\Fr (fun b=>v.ownBlock=some b) w w':=by
 obtain ⟨a,cap,rfl,W,X,K⟩:=hv.shape;rcases Nat.eq_zero_or_pos L.length with V | hp
 · obtain rfl:=List.eq_nil_of_length_eq_zero V
   have E:=H_ hv;clear hv K;go_enter Tryz.func101,Tryz.ntmps101;go_wp2
   go_loopg [2,3] 0 (fun g o s3 wr=>g=0/\o=.int .i64 0/\s3=.int .i64 (-1)/\w=wr)
   case atStart=>exact ⟨rfl,rfl,rfl,rfl⟩
   case round =>
    obtain ⟨rfl,rfl,rfl,rfl⟩:=hrel;go_wp2;refine bodyPost_end (results_none rfl _ _ _) rfl ?_;exact ⟨⟨_,rfl⟩,E.out,Fr.refl _ w⟩
 obtain ⟨l,go,rfl⟩:=K hp
 have E:=H_ hv;clear hv;go_enter Tryz.func101,Tryz.ntmps101;go_wp2
 go_loopg [2,3] L.length (fun g o s3 wr=>∃ (i j:Nat) (M:List Kv),o=.int .i64 i/\s3=.int .i64 j/\i+j+1=L.length/\i<=j+1/\i+g=L.length/\Hid (Turned L M i)/\Hid (SlF wr 70 6 kvC (.slice (some ⟨l,go,none⟩) L.length cap) M)/\Hid (Fr (fun b=>b=l) w wr))
 case atStart=>exact ⟨0,L.length-1,L,rfl,by go_num,by omega,by omega,by omega,H_ (Turned.start L),E,H_ (Fr.refl _ w)⟩
 case round =>
  obtain ⟨i,j,M,rfl,rfl,F,a1,hi,q,J,I⟩:=hrel;by_cases hlt:i<j
  · cases gk with
    | zero=>omega
    | succ g =>
      have s:(i:Int)<(j:Int):=(by omega);have Z:(i:Int)<(L.length:Int):=(by omega);have a0:(j:Int)<(L.length:Int):=(by omega);obtain ⟨x,G⟩:∃ x,L[i]?=some x:=⟨_,List.getElem?_eq_getElem (by omega)⟩;obtain ⟨y,H⟩:∃ y,L[j]?=some y:=⟨_,List.getElem?_eq_getElem (by omega)⟩;have d:=(q.out.at (k:=i) (by omega) (by omega)).trans G;have f:=(q.out.at (k:=j) (by omega) (by omega)).trans H;have c:SlF wr 70 6 kvC (.slice (some ⟨l,go,none⟩) M.length cap) M:=(by rw [q.out.1];exact J.out);have a3:l<wr.heap.size:=c.lt l rfl;obtain ⟨O,P,Q,R,S,T⟩:=x;obtain ⟨t,z,A,B,C,D⟩:=y;have u0:=c.cell0 zar i d rfl;have u1:=c.cell zar i 1 d rfl;have u2:=c.cell zar i 2 d rfl;have u3:=c.cell zar i 3 d rfl;have u4:=c.cell zar i 4 d rfl
      have u5:=c.cell zar i 5 d rfl;have v0:=c.cell0 zar j f rfl;have v1:=c.cell zar j 1 f rfl;have v2:=c.cell zar j 2 f rfl;have v3:=c.cell zar j 3 f rfl;have v4:=c.cell zar j 4 f rfl;have v5:=c.cell zar j 5 f rfl;have Y:∀ k,wr.frozen? ⟨l,k,none⟩=false:=fun k=>c.free k;have N:=zpa c i d ⟨t,z,A,B,C,D⟩;have o:=zpa (L:=M.set i ⟨t,z,A,B,C,D⟩) (by rw [List.length_set];exact N) j (x:=⟨t,z,A,B,C,D⟩) (by rw [List.getElem?_set_ne (by omega)];exact f) ⟨O,P,Q,R,S,T⟩;have r:=zpb (zpb I.out l (go+i * 6) ⟨t,z,A,B,C,D⟩ rfl) l (go+j * 6) ⟨O,P,Q,R,S,T⟩ rfl;have U:=H_ (q.out.next F hlt G H);rw [List.length_set,q.out.1] at o;have n:=H_ o;have m:=H_ r;clear G H d f c N o r;unfold layKv at n m
      dsimp only at n m;go_wp2_with fail
      go_region
      go_wp2;go_roundg g
      case rel=>exact ⟨i+1,j-1,_,by go_num,by go_num,by omega,by omega,by omega,U,H_ n.out.drew,H_ m.out.drew⟩
      case measure=>omega
  have s:¬ (i:Int)<(j:Int):=by omega
  go_wp2;refine bodyPost_end (results_none rfl _ _ _) rfl ?_;exact ⟨⟨_,rfl⟩,by rw [<-q.out.done (by omega)];exact J.out,I.out.mono fun b _ h=>by rw [h];rfl⟩
def bareK (x:Kv):Kv:={ x with value:=ByteArray.empty }
def bareTo (i:Nat) (L:List Kv):List Kv:=(L.take i).map bareK++L.drop i
theorem zoe (L:List Kv):bareTo 0 L=L:=by simp [bareTo]
theorem zqt (L:List Kv) {i:Nat} (h:L.length<=i):bareTo i L=L.map bareK:=by
 unfold bareTo;rw [List.take_of_length_le h,List.drop_eq_nil_of_le h,List.append_nil]
theorem zej (i:Nat) (L:List Kv):(bareTo i L).length=L.length:=by
 unfold bareTo;simp;omega
theorem zjt {i:Nat} {L:List Kv} {x:Kv} (h:L[i]?=some x):(bareTo i L)[i]?=some x:=by
 have a:=(List.getElem?_eq_some_iff.1 h).1;unfold bareTo;rw [List.getElem?_append_right (by simp;omega)];simp only [List.length_map,List.length_take,List.getElem?_drop];rw [Nat.min_eq_left (by omega),show i+(i-i)=i by omega];exact h
theorem zof {i:Nat} {L:List Kv} {x:Kv} (h:L[i]?=some x):(bareTo i L).set i (bareK x)=bareTo (i+1) L:=by
 have a:=(List.getElem?_eq_some_iff.1 h).1;unfold bareTo;rw [List.take_add_one,h,List.map_append,List.drop_eq_getElem_cons a,List.set_append_right _ _ (by simp;omega)];have:i-((L.take i).map bareK).length=0:=by simp;omega
 rw [this,List.set_cons_zero];simp
theorem zqs {w:World} {g o cap:Nat} {L:List Kv} {K i:Nat} {x:Kv} (h:SlF w 70 6 kvC (.slice (some ⟨g,o,none⟩) K cap) (bareTo i L)) (hK:L.length=K) (hx:L[i]?=some x) :
 SlF (w.setCell ⟨g,o+i * 6+1,none⟩ (.string ByteArray.empty)) 70 6 kvC (.slice (some ⟨g,o,none⟩) K cap) (bareTo (i+1) L):=by
 subst hK;rw [<-zej i L] at h;have a:=h.set zar i 1 (by omega) x (bareK x) (.string ByteArray.empty) (zjt hx) rfl;rw [zof hx,zej] at a;exact a
def keyTo (b:Bool) (i:Nat) (L:List Kv):List Kv:=if b then bareTo i L else L
theorem zqe (b:Bool) (L:List Kv):keyTo b 0 L=L:=by cases b with
 | false=>rfl
 | true=>exact zoe L
theorem zik (b:Bool) (L:List Kv) {i:Nat} (h:L.length<=i):keyTo b i L=if b then L.map fun x=>{ x with value:=ByteArray.empty } else L:=by cases b with
 | false=>rfl
 | true=>exact zqt L h
set_option maxHeartbeats 8000000 in
theorem zha {TA:zai} {N:Nat} (hT:TreeOk TA N) {n:Nat} (hn:n<=1099511627) (w:World) (s:Nat) (S:St) (F:Nat->Prop) (hS:zal TA w s S F) (hok:StOk n S) (hN:S.T.length<=1099511627) (g:Rg) (rev:Int)
 (hks:g.key.size<=1099511627776) :
 Calls Tryz.prog 78 #[.pointer (some ⟨s,0,none⟩),rgV g,.int .i64 rev] w fun e w'=>∃ v,e=.returned (.tuple #[v,.int .i64 (allL S g rev).length,.bool (moreB S g rev)])/\SlF w' 70 6 kvC v (getL S g rev)/\Fr No w w'/\(∀ b,v.ownBlock=some b->w.heap.size<=b):=by
 have aG:(allL S g rev).length<=1099511627:=Nat.le_trans (List.length_filterMap_le _ _) (Nat.le_trans (List.length_filter_le _ _) hN);have q:=fun W (hW:Fr No w W)=>zgl hT hn W s S F (hS.fr0 hT hW) hok hN g.key g.end_ (revOf g rev) hks;have ad:zaz S g.key g.end_ (revOf g rev)=allL S g rev:=rfl;rw [ad] at q
 have ah:getL S g rev=if g.count then [] else keyTo g.keys (allL S g rev).length (cutL g (moreB S g rev) (if g.desc then (allL S g rev).reverse else allL S g rev)):=by
  have hl:(cutL g (moreB S g rev) (if g.desc then (allL S g rev).reverse else allL S g rev)).length<=(allL S g rev).length:=by
   unfold cutL
   split
   · rw [List.length_take];split
     · rw [List.length_reverse];omega
     omega
   split
   · rw [List.length_reverse];omega
   omega
  rw [zik _ _ hl]
  rfl
 have aj:moreB S g rev=(!g.count&&decide (0<g.limit)&&decide (g.limit<(allL S g rev).length)):=rfl;have ak:revOf g rev=if g.rev≠0 then g.rev else rev:=rfl;have af:∀ m l,cutL g m l=if m then l.take g.limit.toNat else l:=fun _ _=>rfl;rw [ah];generalize hR:(if g.count then [] else keyTo g.keys (allL S g rev).length (cutL g (moreB S g rev) (if g.desc then (allL S g rev).reverse else allL S g rev)))=R at *;generalize allL S g rev=l at *;generalize moreB S g rev=y at *;generalize revOf g rev=rv at *;generalize cutL g=B at *;obtain ⟨g1,g2,L,r,g5,g6,Y⟩:=g;unfold rgV;dsimp only at *;have HB:=H_ q;have z:=H_ aj;have a3:=H_ ak;have G:=H_ af;have HR:=H_ hR;clear q ah aj ak af ad hS hR
 have d:=zae w (Obj.cells #[.string g1,.string g2,.int .i64 L,.int .i64 r,.bool g5,.bool g6,.bool Y] 24) _ rfl;have ag:Fr No w (w.alloc (Obj.cells #[.string g1,.string g2,.int .i64 L,.int .i64 r,.bool g5,.bool g6,.bool Y] 24)):=(Fr.refl No w).alloc _;have E:=H_ d;have a0:=H_ ag;clear d ag;go_enter Tryz.func78,Tryz.ntmps78;go_upto_if 15 with fail;generalize w.alloc (Obj.cells #[.string g1,.string g2,.int .i64 L,.int .i64 r,.bool g5,.bool g6,.bool Y] 24)=W1 at *;have bf:w.heap.size<W1.heap.size:=zac E.out;have d:=E.out;have b0:=cellAt d 0 rfl;have b1:=cellAt d 1 rfl;have b2:=cellAt d 2 rfl;have b3:=cellAt d 3 rfl;have b4:=cellAt d 4 rfl;have b5:=cellAt d 5 rfl;have b6:=cellAt d 6 rfl
 go_cut [2] (fun s2 wx=>s2=.int .i64 rv/\wx=W1)
 case first =>
  by_cases hz:L=0
  · have aO:(L != 0)=false:=by rw [hz];rfl
    have hr:rv=rev:=(by rw [a3.out,if_neg (by simp [hz])]);go_wp2;go_meet
    case rel=>exact ⟨by first | rfl | rw [hr],rfl⟩
  have aO:(L != 0)=true:=by rw [bne_iff_ne];exact hz
  have hr:rv=L:=(by rw [a3.out,if_pos hz]);go_wp2;go_meet
  case rel=>exact ⟨by first | rfl | rw [hr],rfl⟩
 case rest =>
  obtain ⟨rfl,rfl⟩:=hcut;go_upto_region 4 with (go_at_call 91;refine (HB.out _ a0.out).mono ?_;rintro e w1 ⟨v,rfl,hv,Q,X⟩);obtain ⟨va,f,rfl,bb,bc,aM⟩:=hv.shape;have o:=Q.heap E.out id;have HV:=H_ hv;have ax:=H_ o;have a2:=H_ (a0.out.trans0 Q);have J:Hid (¬ (Value.slice va l.length f).ownBlock=some w.heap.size):=H_ (fun h=>by have:=X _ h;omega);have I:Hid (∀ b,(Value.slice va l.length f).ownBlock=some b->w.heap.size<=b):=H_ (fun b q=>by have:=X b q;omega);clear hv Q X b0 b1 b2 b3 b4 b5 b6 d;have b0:=cellAt o 0 rfl;have b1:=cellAt o 1 rfl;have b2:=cellAt o 2 rfl;have b3:=cellAt o 3 rfl;have b4:=cellAt o 4 rfl;have b5:=cellAt o 5 rfl;have b6:=cellAt o 6 rfl;have aP:=zac o;clear o;go_upto_if 28 with fail
  cases g6 with
  | true =>
    have V:y=false:=z.out;go_wp2;go_ret3;exact ⟨_,by first | rfl | (rw [V];rfl),by rw [<-HR.out];exact SlF.nil _ _ _ _,a2.out,by simp [Value.ownBlock]⟩
  | false =>
    go_upto_if 31 with fail
    go_cut [33] (fun _ wx=>Hid (SlF wx 70 6 kvC (.slice va l.length f) (if Y then l.reverse else l))/\Hid (Fr (fun b=>(Value.slice va l.length f).ownBlock=some b) w1 wx))
    case first =>
     cases Y with
     | false =>
       go_wp2;go_meet
       case rel=>exact ⟨HV,H_ (Fr.refl _ _)⟩
     | true =>
       go_wp2_with (go_at_call 101;refine (zjz _ _ _ HV.out aG).mono ?_;rintro e w2 ⟨⟨u,rfl⟩,aL,aH⟩);go_meet
       case rel=>exact ⟨H_ aL,H_ aH⟩
    case rest =>
     obtain ⟨a5,a1⟩:=hcut;have j:=a1.out.heap ax.out J.out;have bg:=zac j;clear b0 b1 b2 b3 b4 b5 b6 aP;have b0:=cellAt j 0 rfl;have b1:=cellAt j 1 rfl;have b2:=cellAt j 2 rfl;have b3:=cellAt j 3 rfl;have b4:=cellAt j 4 rfl;have b5:=cellAt j 5 rfl;have b6:=cellAt j 6 rfl;have aw:=H_ j;clear j;have aa:=HR.out;generalize hM:(if Y then l.reverse else l)=M at *;have az:=H_ aa;clear aa;have a8:M.length=l.length:=(by rw [<-hM];split <;> simp);clear hM;generalize wc=W2 at *;go_upto_region 9 with fail
     go_cut [11] (fun s11 wx=>s11=.bool y/\wx=W2)
     case first =>
      by_cases Z:0<r
      · have aF:decide (r > 0)=true:=decide_eq_true Z
        by_cases h2:r<(l.length:Int)
        · have O:decide (r<(l.length:Int))=true:=decide_eq_true h2
          have V:y=true:=(by rw [z.out,O,decide_eq_true Z];rfl);go_wp2;go_meet
          case rel=>exact ⟨by first | rfl | rw [V],rfl⟩
        have O:decide (r<(l.length:Int))=false:=decide_eq_false h2
        have V:y=false:=(by rw [z.out,O];simp);go_wp2;go_meet
        case rel=>exact ⟨by first | rfl | rw [V],rfl⟩
      have aF:decide (r > 0)=false:=decide_eq_false Z
      have V:y=false:=(by rw [z.out,decide_eq_false Z];rfl);go_wp2;go_meet
      case rel=>exact ⟨by first | rfl | rw [V],rfl⟩
     case rest =>
      obtain ⟨rfl,rfl⟩:=hcut;go_upto_if 43 with fail
      go_cut [9] (fun s9 wx=>∃ a c,s9=.slice a (B y M).length c/\Hid (SlF wx 70 6 kvC (.slice a (B y M).length c) (B y M))/\Hid (∀ b,(Value.slice a (B y M).length c).ownBlock=some b->w.heap.size<=b/\b≠w.heap.size)/\wx=wc)
      case first =>
       cases y with
       | false =>
         have P:B false M=M:=G.out false M;go_wp2;go_meet
         case rel =>
          rw [P,a8];exact ⟨va,f,rfl,a5,H_ fun b q=>⟨I.out b q,fun e=>J.out (e▸q)⟩,rfl⟩
       | true =>
         have P:B true M=M.take r.toNat:=G.out true M;have b8:0<r/\r<(l.length:Int):=(by have:=z.out;simpa using this.symm);obtain ⟨k,rfl⟩:∃ k:Nat,r=k:=⟨r.toNat,by omega⟩;have bd:k<=l.length:=(by omega);have aX:(k:Int)<=(f:Int):=(by omega);obtain ⟨C,go,rfl⟩:=aM (by omega);go_wp2;go_meet
         case rel =>
          rw [P];have ai:(M.take ((k:Int).toNat)).length=k:=(by rw [List.length_take];omega);rw [ai];have h3:=a5.out;rw [<-a8] at h3;exact ⟨some ⟨C,go,none⟩,f,rfl,H_ (h3.take zar k (by omega)),H_ fun b q=>⟨I.out b q,fun e=>J.out (e▸q)⟩,rfl⟩
      case rest =>
       obtain ⟨a9,c9,rfl,a6,H,rfl⟩:=hcut
       have ba:(B y M).length<=l.length:=by
        rw [G.out];split
        · rw [List.length_take];omega
        omega
       have ab:=az.out;generalize B y M=K at *;have aA:=H_ ab;clear ab;go_wp2
       go_loopg [50] K.length (fun g s50 wr=>∃ i:Nat,s50=.int .i64 i/\i+g=K.length/\Hid (SlF wr 70 6 kvC (.slice a9 K.length c9) (keyTo g5 i K))/\Hid (Fr (fun b=>(Value.slice a9 K.length c9).ownBlock=some b) wc wr))
       case atStart=>exact ⟨0,rfl,by omega,by rw [zqe];exact a6,H_ (Fr.refl _ _)⟩
       case round =>
        obtain ⟨i,rfl,hi,HK,A⟩:=hrel
        cases gk with
        | zero =>
          have aI:¬ (i:Int)<(K.length:Int):=(by omega);go_wp2;go_ret3;refine ⟨_,rfl,?_,(a2.out.trans a1.out fun b q h=>?_).trans A.out fun b q h=>?_,fun b q=>(H.out b q).1⟩
          · rw [<-aA.out,if_neg (by simp),zik _ _ (show K.length<=l.length by omega),<-zik _ _ (show K.length<=i by omega)]
            exact HK.out
          · have:=I.out b h;omega
          have:=(H.out b h).1;omega
        | succ g =>
          have aI:(i:Int)<(K.length:Int):=(by omega);have ae:=A.out.heap aw.out fun h=>(H.out _ h).2 rfl;have z4:=cellAt ae 4 rfl;have lz:=zac ae
          cases g5 with
          | false =>
            go_wp2;go_roundg g
            case rel=>exact ⟨i+1,by go_num,by omega,HK,A⟩
            case measure=>omega
          | true =>
            obtain ⟨C,go,rfl⟩:∃ C go,a9=some ⟨C,go,none⟩:=by
             obtain ⟨a,c,Z,_,_,h4⟩:=a6.out.shape;cases Z
             exact h4 (by omega)
            obtain ⟨x,hx⟩:∃ x,K[i]?=some x:=⟨_,List.getElem?_eq_getElem (by omega)⟩;have U:SlF wr 70 6 kvC (.slice (some ⟨C,go,none⟩) K.length c9) (bareTo i K):=HK.out;have D:=zqs U rfl hx;have t:=U;rw [<-zej i K] at t;have f1:=t.cell zar i 1 (zjt hx) rfl;have ff:=t.free (go+i * 6+1);have lf:=World.block_lt_of_cell? _ _ f1;have a4:=H_ D;have al:Fr (fun b=>(Value.slice (some ⟨C,go,none⟩) K.length c9).ownBlock=some b) wc (wr.setCell ⟨C,go+i * 6+1,none⟩ (.string ByteArray.empty)):=A.out.setCell (p:=⟨C,go+i * 6+1,none⟩) (.inl rfl) _;have aB:=H_ al;clear D U t al hx;go_wp2;go_roundg g
            case rel=>exact ⟨i+1,by go_num,by omega,a4,aB⟩
            case measure=>omega
def KSorted (l:List Kv):Prop:=l.Pairwise fun a b=>klt a.key b.key=true
def hasL (l:List Kv) (key:ByteArray):Option Kv:=l.find? fun k=>keq k.key key
def doneL:List Kv->Ev->List Kv
 | [],x=>if x.kind=1 then [x.kv] else []
 | k :: l,x=>if klt k.key x.kv.key=true then k :: doneL l x else (if x.kind=1 then [x.kv] else [])++(if keq k.key x.kv.key=true then l else k :: l)
theorem zig {l:List Kv} (h:KSorted l) (x:Ev) (y:Kv):y∈doneL l x↔(x.kind=1/\y=x.kv)\/(y∈l/\keq y.key x.kv.key=false):=by
 induction l with
 | nil=>unfold doneL;split <;> simp_all
 | cons k l ih =>
   obtain ⟨f,g⟩:=List.pairwise_cons.1 h;unfold doneL
   split
   · rename_i hk
     rw [List.mem_cons,ih g,List.mem_cons];have:=klt_ne hk
     constructor
     · rintro (rfl | h | ⟨h,c⟩)
       · exact .inr ⟨.inl rfl,this⟩
       · exact .inl h
       exact .inr ⟨.inr h,c⟩
     rintro (h | ⟨rfl | h,c⟩)
     · exact .inr (.inl h)
     · exact .inl rfl
     exact .inr (.inr ⟨h,c⟩)
   rename_i hk
   have d:klt k.key x.kv.key=false:=(by simpa using hk)
   have e:∀ z∈l,keq z.key x.kv.key=false:=fun z hz=>by
    have i:=zgz d (f z hz);rw [zcw];exact klt_ne i
   rw [List.mem_append];refine or_congr ?_ ?_
   · split <;> simp_all
   split
   · rename_i he
     constructor
     · exact fun a=>⟨List.mem_cons_of_mem _ a,e y a⟩
     rintro ⟨a,b⟩
     rcases List.mem_cons.1 a with rfl | a
     · rw [he] at b;cases b
     exact a
   rename_i he
   constructor
   · intro a
     refine ⟨a,?_⟩;rcases List.mem_cons.1 a with rfl | a
     · simpa using he
     exact e y a
   exact fun a=>a.1
theorem zfb {l:List Kv} (h:KSorted l) (x:Ev):KSorted (doneL l x):=by
 induction l with
 | nil=>unfold doneL KSorted;split <;> simp
 | cons k l ih =>
   obtain ⟨g,f⟩:=List.pairwise_cons.1 h;unfold doneL
   split
   · rename_i hk
     refine List.pairwise_cons.2 ⟨fun y hy=>?_,ih f⟩;rcases (zig f x y).1 hy with ⟨_,rfl⟩ | ⟨j,_⟩
     · exact hk
     exact g y j
   rename_i hk
   have c:klt k.key x.kv.key=false:=(by simpa using hk);have i:∀ z∈l,klt x.kv.key z.key=true:=fun z hz=>zgz c (g z hz);refine List.pairwise_append.2 ⟨by split <;> simp,?_,fun a ha b d=>?_⟩
   · split
     · exact f
     exact h
   split at ha
   · obtain rfl:=List.mem_singleton.1 ha
     split at d
     · exact i b d
     rename_i he
     rcases List.mem_cons.1 d with rfl | d
     · rcases zkf x.kv.key b.key with e | e | e
       · exact e
       · exact absurd (zat.2 e.symm) he
       rw [e] at c;cases c
     exact i b d
   simp at ha
theorem zbz {l:List Kv} (h:KSorted l) (key:ByteArray) (y:Kv):hasL l key=some y↔y∈l/\y.key=key:=by
 constructor
 · intro a
   exact ⟨List.mem_of_find?_eq_some a,zat.1 (by simpa using List.find?_some a)⟩
 rintro ⟨a,rfl⟩
 unfold hasL
 induction l with
 | nil=>cases a
 | cons k l ih =>
   obtain ⟨b,c⟩:=List.pairwise_cons.1 h;rw [List.find?_cons];rcases List.mem_cons.1 a with rfl | a
   · rw [zat.2 rfl]
   rw [klt_ne (b y a)]
   exact ih c a
theorem zsi {α:Type} {a b:Option α} (h:∀ y,a=some y↔b=some y):a=b:=by
 cases a with
 | none =>
   cases b with
   | none=>rfl
   | some y=>exact ((h y).2 rfl)
 | some x=>exact ((h x).1 rfl).symm
theorem zfg {l:List Kv} (h:KSorted l) (x:Ev) (key:ByteArray):hasL (doneL l x) key=if keq key x.kv.key=true then (if x.kind=1 then some x.kv else none) else hasL l key:=by
 refine zsi fun y=>?_;rw [zbz (zfb h x),zig h];by_cases hk:keq key x.kv.key=true
 · rw [if_pos hk]
   have b:=zat.1 hk
   constructor
   · rintro ⟨⟨a,rfl⟩ | ⟨_,d⟩,e⟩
     · rw [if_pos a]
     rw [e,hk] at d;cases d
   intro c
   split at c
   · rename_i a
     obtain rfl:=Option.some.inj c;exact ⟨.inl ⟨a,rfl⟩,b.symm⟩
   cases c
 rw [if_neg hk,zbz h]
 constructor
 · rintro ⟨⟨a,rfl⟩ | ⟨a,_⟩,rfl⟩
   · exact absurd (zat.2 rfl) hk
   exact ⟨a,rfl⟩
 rintro ⟨a,rfl⟩
 exact ⟨.inr ⟨a,by simpa using hk⟩,rfl⟩
theorem znj {l m:List Kv} (h:KSorted l) (h':KSorted m) (he:∀ key,hasL l key=hasL m key):l=m:=by
 have d:∀ y,y∈l↔y∈m:=fun y=>by
  have f:=zbz h y.key y;have g:=zbz h' y.key y;rw [he] at f
  constructor
  · intro c;exact (g.1 (f.2 ⟨c,rfl⟩)).1
  intro c;exact (f.1 (g.2 ⟨c,rfl⟩)).1
 clear he
 induction l generalizing m with
 | nil =>
   cases m with
   | nil=>rfl
   | cons b m=>exact absurd ((d b).2 List.mem_cons_self) (by simp)
 | cons a l ih =>
   obtain ⟨k,n⟩:=List.pairwise_cons.1 h
   cases m with
   | nil=>exact absurd ((d a).1 List.mem_cons_self) (by simp)
   | cons b m =>
     obtain ⟨b1,b2⟩:=List.pairwise_cons.1 h'
     have j:a=b:=by
      rcases List.mem_cons.1 ((d a).1 List.mem_cons_self) with e | e
      · exact e
      rcases List.mem_cons.1 ((d b).2 List.mem_cons_self) with i | i
      · exact i.symm
      have f:=b1 a e
      have g:=zev (k b i);rw [f] at g;cases g
     subst j
     congr 1
     refine ih n b2 fun y=>?_
     constructor
     · intro c
       rcases List.mem_cons.1 ((d y).1 (List.mem_cons_of_mem _ c)) with rfl | e
       · have:=k y c;rw [zca] at this;cases this
       exact e
     intro c
     rcases List.mem_cons.1 ((d y).2 (List.mem_cons_of_mem _ c)) with rfl | e
     · have:=b1 y c;rw [zca] at this;cases this
     exact e
structure Doc where
 rev:Int
 mark:Int
 kvs:List Kv
 events:List Ev
def Doc.at (D:Doc) (r:Int):List Kv:=(D.events.filter fun e=>decide (D.mark<e.kv.mod)&&decide (e.kv.mod<=r)).foldl doneL D.kvs
theorem zgc {l:List Kv} (h:KSorted l) (es:List Ev):KSorted (es.foldl doneL l):=by
 induction es generalizing l with
 | nil=>exact h
 | cons e es ih=>exact ih (zfb h e)
theorem Doc.at_sorted {D:Doc} (h:KSorted D.kvs) (r:Int):KSorted (D.at r):=zgc h _
structure HInv (M:Int) (H:Hist):Prop where
 puts:∀ x∈H.gens,∀ p∈x.puts,1<=p/\p<=M
 ends:∀ x∈H.gens,0<=x.end_/\x.end_<=M
 full:∀ x∈H.gens,x.puts≠[]
 zero:H.kvs 0=none
theorem zhj {l:List Int} {r:Int} (h:∀ p∈l,p<=r):upTo l r=l.length:=by
 unfold upTo;exact List.findIdx_eq_length_of_false fun p hp=>by have:=h p hp;simp;omega
theorem zlc {l:List Int} {r R:Int} (h:r<R):upTo (l++[R]) r=upTo l r:=by
 unfold upTo;rw [List.findIdx_append]
 split
 · rfl
 rename_i hn
 have a:l.findIdx (fun p=>decide (r<p))=l.length:=by
  have:=List.findIdx_le_length (p:=fun p=>decide (r<p)) (xs:=l);omega
 rw [a];simp [List.findIdx_cons,h]
theorem zwt (r:Int):atK [] r=((0,0,0),false):=rfl
theorem zbv (K:List Gen) (x:Gen) (r:Int):atK (K++[x]) r=if upTo x.puts r≠0 then (if 0<x.end_/\x.end_<=r then ((0,0,0),false) else ((x.create,x.puts[upTo x.puts r-1]?.getD 0,x.cut+upTo x.puts r),true)) else atK K r:=by
 unfold atK;rw [List.reverse_append,List.reverse_singleton,List.singleton_append,List.find?_cons];by_cases h:upTo x.puts r=0
 · simp [h]
 have a:(upTo x.puts r != 0)=true:=by simpa using h
 rw [a,if_pos h]
theorem zci {K:List Gen} (h:isOpen K=true):∃ L x,K=L++[x]/\x.end_=0:=by
 unfold isOpen at h
 cases hl:K.getLast? with
 | none=>rw [hl] at h;cases h
 | some x =>
   rw [hl] at h;obtain ⟨L,rfl⟩:=List.getLast?_eq_some_iff.1 hl;exact ⟨L,x,rfl,by simpa using h⟩
theorem zbt (L:List Gen) (x:Gen) (f:Gen->Gen):(L++[x]).modify ((L++[x]).length-1) f=L++[f x]:=by
 apply List.ext_getElem?;intro i;rw [List.getElem?_modify];simp only [List.length_append,List.length_singleton,Nat.add_sub_cancel];rcases Nat.lt_trichotomy i L.length with h | h | h
 · rw [List.getElem?_append_left h,List.getElem?_append_left h];have:¬ L.length=i:=by omega
   cases L[i]? <;> simp [this]
 · subst h;simp
 rw [List.getElem?_eq_none (by simp;omega),List.getElem?_eq_none (by simp;omega)];simp
theorem zqv (K:List Gen) {r R:Int} (h:r<R):atK (putK K R) r=atK K r:=by
 unfold putK
 split
 · rename_i ho
   obtain ⟨L,x,rfl,a⟩:=zci ho;rw [zbt,zbv,zbv,zlc h];have:=zds x.puts r
   split
   · rw [List.getElem?_append_left (by omega)]
   rfl
 rw [zbv,if_neg]
 simp [upTo,List.findIdx_cons,h]
theorem zqw {K:List Gen} {r R:Int} (hK:∀ x∈K,∀ p∈x.puts,p<R) (h:R<=r):(atK (putK K R) r).1.2.1=R/\(atK (putK K R) r).2=true:=by
 unfold putK
 split
 · rename_i ho
   obtain ⟨L,x,rfl,c⟩:=zci ho
   have a:upTo (x.puts++[R]) r=x.puts.length+1:=by
    rw [zhj]
    · simp
    intro p b
    rcases List.mem_append.1 b with e | e
    · have:=hK x (by simp) p e;omega
    rw [List.mem_singleton.1 e];exact h
   rw [zbt,zbv];dsimp only;rw [a,if_pos (by omega),if_neg (by omega)];simp
 have a:upTo [R] r=1:=zhj (by simpa using h)
 rw [zbv];dsimp only;rw [a,if_pos (by omega),if_neg (by omega)];simp
theorem zog {K:List Gen} (ho:isOpen K=true) {r R:Int} (h:r<R):atK (tombK K R) r=atK K r:=by
 obtain ⟨L,x,rfl,a⟩:=zci ho;unfold tombK;rw [zbt,zbv,zbv];dsimp only;rw [if_neg (show ¬ (0<R/\R<=r) by omega),if_neg (show ¬ (0<x.end_/\x.end_<=r) by omega)]
theorem zoh {K:List Gen} (ho:isOpen K=true) {r R:Int} (hK:∀ x∈K,∀ p∈x.puts,p<=R) (hf:∀ x∈K,x.puts≠[]) (h1:1<=R) (h:R<=r):atK (tombK K R) r=((0,0,0),false):=by
 obtain ⟨L,x,rfl,b⟩:=zci ho;unfold tombK;rw [zbt,zbv];dsimp only;have a:upTo x.puts r=x.puts.length:=zhj fun p hp=>by have:=hK x (by simp) p hp;omega
 have:0<x.puts.length:=List.length_pos_iff.2 (hf x (by simp));rw [a,if_pos (by omega),if_pos (by omega)]
theorem zwu {K:List Gen} {r M:Int} (hK:∀ x∈K,∀ p∈x.puts,p<=M):(atK K r).1.2.1<=M\/(atK K r).1.2.1=0:=by
 unfold atK
 split
 · exact .inr rfl
 rename_i x hx
 have a:=List.mem_reverse.1 (List.mem_of_find?_eq_some hx)
 split
 · exact .inr rfl
 dsimp only
 cases hp:x.puts[upTo x.puts r-1]? with
 | none=>exact .inr rfl
 | some p=>exact .inl (hK x a p (List.mem_of_getElem? hp))
theorem zve {M:Int} {H:Hist} (h:HInv M H) (x:Kv) (hM:M<x.mod) (h1:1<=x.mod) (r:Int):hadH (putH H x) r=if r<x.mod then hadH H r else (x,true):=by
 split
 · rename_i hr
   unfold hadH putH;dsimp only;rw [zqv _ hr,if_neg];rcases zwu (r:=r) fun y hy p hp=>(h.puts y hy p hp).2 with e | e <;> omega
 rename_i hr
 obtain ⟨a,b⟩:=zqw (r:=r) (R:=x.mod) (K:=H.gens) (fun y hy p hp=>by have:=(h.puts y hy p hp).2;omega) (by omega);unfold hadH putH;dsimp only;rw [a,b,if_pos rfl]
 rfl
theorem ztb {M:Int} {H:Hist} (h:HInv M H) (ho:isOpen H.gens=true) {R:Int} (hM:M<R) (h1:1<=R) (r:Int):hadH (tombH H R) r=if r<R then hadH H r else (kv0,false):=by
 split
 · rename_i hr
   unfold hadH tombH;dsimp only;rw [zog ho hr]
 rename_i hr
 unfold hadH tombH;dsimp only;rw [zoh ho (fun y hy p hp=>by have:=(h.puts y hy p hp).2;omega) h.full h1 (by omega)];dsimp only;rw [h.zero]
 rfl
theorem HInv.put {M:Int} {H:Hist} (h:HInv M H) (x:Kv) (hM:M<x.mod) (h1:1<=x.mod):HInv x.mod (putH H x):=by
 have j:(putH H x).kvs 0=none:=by unfold putH;dsimp only;rw [if_neg (by omega)];exact h.zero
 have d:∀ y∈(putH H x).gens,(∀ p∈y.puts,1<=p/\p<=x.mod)/\(0<=y.end_/\y.end_<=x.mod)/\y.puts≠[]:=by
  unfold putH putK;dsimp only
  split
  · rename_i ho
    obtain ⟨L,z,b,j⟩:=zci ho;rw [b,zbt];have c:=h.puts;have g:=h.ends;have i:=h.full;rw [b] at c g i;intro y a;rcases List.mem_append.1 a with e | e
    · have f:=List.mem_append_left [z] e
      exact ⟨fun p hp=>by have:=c y f p hp;omega,by have:=g y f;omega,i y f⟩
    rw [List.mem_singleton.1 e]
    refine ⟨fun p hp=>?_,by dsimp only;omega,by simp⟩;rcases List.mem_append.1 hp with e | e
    · have:=c z (by simp) p e;omega
    rw [List.mem_singleton.1 e];omega
  intro y a
  rcases List.mem_append.1 a with e | e
  · exact ⟨fun p hp=>by have:=h.puts y e p hp;omega,by have:=h.ends y e;omega,h.full y e⟩
  rw [List.mem_singleton.1 e]
  exact ⟨fun p hp=>by rw [List.mem_singleton.1 hp];omega,by dsimp only;omega,by simp⟩
 exact ⟨fun y a=>(d y a).1,fun y a=>(d y a).2.1,fun y a=>(d y a).2.2,j⟩
theorem HInv.tomb {M:Int} {H:Hist} (h:HInv M H) (ho:isOpen H.gens=true) {R:Int} (hM:M<R) (h1:1<=R):HInv R (tombH H R):=by
 obtain ⟨L,z,b,j⟩:=zci ho;have c:=h.puts;have i:=h.ends;have d:=h.full
 have f:∀ y∈(tombH H R).gens,(∀ p∈y.puts,1<=p/\p<=R)/\(0<=y.end_/\y.end_<=R)/\y.puts≠[]:=by
  unfold tombH tombK;dsimp only;rw [b,zbt];rw [b] at c i d;intro y a;rcases List.mem_append.1 a with e | e
  · have g:=List.mem_append_left [z] e
    exact ⟨fun p hp=>by have:=c y g p hp;omega,by have:=i y g;omega,d y g⟩
  rw [List.mem_singleton.1 e]
  exact ⟨fun p hp=>by have:=c z (by simp) p hp;omega,⟨by dsimp only;omega,Int.le_refl _⟩,d z (by simp)⟩
 exact ⟨fun y a=>(f y a).1,fun y a=>(f y a).2.1,fun y a=>(f y a).2.2,h.zero⟩
theorem HInv.new (M:Int):HInv M newH:=⟨by simp [newH],by simp [newH],by simp [newH],rfl⟩
theorem ztc {M:Int} {H:Hist} (h:HInv M H) {r:Int} (hr:M<=r):(hadH H r).2=isOpen H.gens:=by
 show (atK H.gens r).2=isOpen H.gens
 unfold isOpen
 cases hl:H.gens.getLast? with
 | none=>rw [List.getLast?_eq_none_iff.1 hl];rfl
 | some x =>
   obtain ⟨L,b⟩:=List.getLast?_eq_some_iff.1 hl;have a:x∈H.gens:=(by rw [b];simp);have c:upTo x.puts r=x.puts.length:=zhj fun p hp=>by have:=(h.puts x a p hp).2;omega
   have:=List.length_pos_iff.2 (h.full x a);have d:=h.ends x a;rw [b,zbv,c,if_pos (by omega)];dsimp only;by_cases h0:x.end_=0
   · rw [if_neg (by omega)];simp [h0]
   rw [if_pos (by omega)];simp [h0]
end Go.Proofs.YtdgkdfmfoonbpaaGreat