/- Own lemmas. -/
import Derived.Test.YthljnnjpmdgkoaaGreatK16
import Derived.Test.YthljnnjpmdgkoaaGreatK13
import Derived.Test.YthljnnjpmdgkoaaGreatK15
import Derived.BigRegion
import Derived.Deep.DeepCutAuto
namespace Go.Proofs.YthljnnjpmdgkoaaGreat
open Go Go.Proofs Go.RowKit
set_option maxRecDepth 100000
theorem info90:(Tryz.prog.info? 97).map (fun i=>(i.zero,i.size,i.bytes))=some (some (.agg #[.int .i64 0,.slice none 0 0,.int .i64 0,.bool false]),4,48):=by kernel_rfl
structure LoopR (TA:zaq) (w0 w:World) (s sb vb:Nat) (F0:Nat->Prop) (r:Run) (F:Nat->Prop) (ev out:Value) (Z:List (Ans×Value)):Prop where
 fr:Fr F0 w0 w
 store:zak TA w s r.S F
 box:Has w sb [.pointer (some ⟨s,0,none⟩)]
 evs:Has w vb [ev]
 evl:SlF w 101 13 evC ev r.E
 ans:AnsR w out Z
 eqs:Z.map (·.1)=r.A
 new:∀ b,F b->F0 b\/w0.heap.size<=b
 old:∀ b,F0 b->b<w0.heap.size
 sbn:w0.heap.size<=sb
 vbn:w0.heap.size<=vb
 evn:∀ b,ev.ownBlock=some b->w0.heap.size<=b
 ann:∀ b,ansF out Z b->w0.heap.size<=b
 f1:¬ F sb
 f2:¬ F vb
 f4:∀ b,ev.ownBlock=some b->¬ F b
 f5:∀ b,ansF out Z b->¬ F b
 n1:sb≠vb
 e1:ev.ownBlock≠some sb
 e2:ev.ownBlock≠some vb
 k1:¬ ansF out Z sb
 k2:¬ ansF out Z vb
 ek:∀ b,ev.ownBlock=some b->¬ ansF out Z b
theorem zwb {v:Value} {Z:List (Ans×Value)} {a:Ans} {kv:Value} {b:Nat} (h:ansF v (Z++[(a,kv)]) b):v.ownBlock=some b\/(∃ (i:Nat) (q:Ans×Value),Z[i]?=some q/\q.2.ownBlock=some b)\/kv.ownBlock=some b:=by
 rcases h with h | ⟨i,q,c,h⟩
 · exact .inl h
 by_cases hi:i<Z.length
 · rw [List.getElem?_append_left hi] at c
   exact .inr (.inl ⟨i,q,c,h⟩)
 rw [List.getElem?_append_right (by omega)] at c
 have d:i-Z.length=0:=by
  have:=(List.getElem?_eq_some_iff.1 c).1;simp at this;omega
 rw [d] at c;simp at c;subst c;exact .inr (.inr h)
theorem LoopR.next {TA:zaq} {N:Nat} (hT:TreeOk TA N) {w0 wr w5 w6:World} {s sb vb:Nat} {F0 F F':Nat->Prop} {r:Run} {ev out ev' out' kv:Value} {Z:List (Ans×Value)} {S':St} {E':List Ev} {a:Ans} {X:Nat->Prop}
 (hl:LoopR TA w0 wr s sb vb F0 r F ev out Z) (hS:zak TA w5 s S' F') (hbox:Has w5 sb [.pointer (some ⟨s,0,none⟩)]) (hevs:Has w5 vb [ev']) (hevl:SlF w5 101 13 evC ev' E') (hkv:SlF w5 99 6 kvC kv a.kvs)
 (hf:Fr X wr w5) (hX:∀ b,b<wr.heap.size->X b->F b\/b=vb\/ev.ownBlock=some b) (hF':∀ b,F' b->F b\/wr.heap.size<=b) (hev':∀ b,ev'.ownBlock=some b->ev.ownBlock=some b\/wr.heap.size<=b)
 (hkv':∀ b,kv.ownBlock=some b->wr.heap.size<=b) (d1:∀ b,ev'.ownBlock=some b->¬ F' b) (d2:∀ b,kv.ownBlock=some b->¬ F' b) (d3:∀ b,ev'.ownBlock=some b->kv.ownBlock≠some b)
 (hf6:Fr (fun b=>out.ownBlock=some b) w5 w6) (hs6:SlF w6 97 4 ansC out' (Z++[(a,kv)])) (hn6:∀ b,out'.ownBlock=some b->out.ownBlock=some b\/w5.heap.size<=b) :
 LoopR TA w0 w6 s sb vb F0 ⟨S',r.A++[a],E'⟩ F' ev' out' (Z++[(a,kv)]):=by
 have u:=hl.store.lt hT;have l:=hS.lt hT;have k:=hl.ans.lt;have j:=hevl.lt;have t:=hkv.lt;have o:=hl.box.lt;have q:=hl.evs.lt;have p:=hf.size;have n:=hl.fr.size
 have i:∀ b,out.ownBlock=some b->¬ F' b:=fun b hb h=>by
  rcases hF' b h with e | e
  · exact hl.f5 b (.inl hb) e
  have:=k b (.inl hb);omega
 have f:∀ b,kv.ownBlock=some b->out.ownBlock≠some b:=fun b hb h=>by
  have:=k b (.inl h);have:=hkv' b hb;omega
 have d:∀ b,ev'.ownBlock=some b->¬ ansF out Z b:=fun b hb h=>by
  rcases hev' b hb with e | e
  · exact hl.ek b e h
  have:=k b h;omega
 -- what the answers' blocks are
 have c:∀ b,ansF out' (Z++[(a,kv)]) b->ansF out Z b\/w5.heap.size<=b\/kv.ownBlock=some b:=fun b h=>by
  rcases zwb h with h | h | h
  · rcases hn6 b h with h | h
    · exact .inl (.inl h)
    exact .inr (.inl h)
  · exact .inl (.inr h)
  exact .inr (.inr h)
 have m:Fr F0 w0 w6:=by
  refine (hl.fr.trans (hf.mono (T:=fun b=>F b\/b=vb\/ev.ownBlock=some b) hX) fun b hb h=>?_).trans hf6 fun b hb h=>?_
  · rcases h with h | h | h
    · rcases hl.new b h with h | h
      · exact h
      omega
    · have:=hl.vbn;omega
    have:=hl.evn b h;omega
  have:=hl.ann b (.inl h);omega
 exact {
  fr:=m
  store:=hS.fr hT hf6 fun b hb h=>i b h hb
  box:=hbox.fr hf6 fun h=>hl.k1 (.inl h)
  evs:=hevs.fr hf6 fun h=>hl.k2 (.inl h)
  evl:=hevl.fr hf6 fun b hb h=>d b hb (.inl h)
  ans:=(hl.ans.fr (hf.mono hX) fun b hb h=>by
   rcases h with h | h | h
   · exact hl.f5 b hb h
   · exact hl.k2 (h▸hb)
   exact hl.ek b h hb).snoc hf6 hs6 hkv f hn6
  eqs:=by rw [List.map_append,hl.eqs];rfl
  new:=fun b h=>by
   rcases hF' b h with h | h
   · exact hl.new b h
   exact .inr (by omega)
  old:=hl.old
  sbn:=hl.sbn
  vbn:=hl.vbn
  evn:=fun b h=>by
   rcases hev' b h with h | h
   · exact hl.evn b h
   omega
  ann:=fun b h=>by
   rcases c b h with h | h | h
   · exact hl.ann b h
   · omega
   have:=hkv' b h;omega
  f1:=fun h=>by
   rcases hF' _ h with h | h
   · exact hl.f1 h
   omega
  f2:=fun h=>by
   rcases hF' _ h with h | h
   · exact hl.f2 h
   omega
  f4:=d1
  f5:=fun b h hF=>by
   rcases c b h with h | h | h
   · rcases hF' b hF with e | e
     · exact hl.f5 b h e
     have:=k b h;omega
   · have:=l b hF;omega
   exact d2 b h hF
  n1:=hl.n1
  e1:=fun h=>by
   rcases hev' _ h with h | h
   · exact hl.e1 h
   omega
  e2:=fun h=>by
   rcases hev' _ h with h | h
   · exact hl.e2 h
   omega
  k1:=fun h=>by
   rcases c _ h with h | h | h
   · exact hl.k1 h
   · omega
   have:=hkv' _ h;omega
  k2:=fun h=>by
   rcases c _ h with h | h | h
   · exact hl.k2 h
   · omega
   have:=hkv' _ h;omega
  ek:=fun b h g=>by
   rcases c b g with g | g | g
   · exact d b h g
   · have:=j b h;omega
   exact d3 b h g }
def layKv (w:World) (g o:Nat) (y:Kv):World :=
 (((((w.setCell ⟨g,o,none⟩ (.string y.key)).setCell ⟨g,o+1,none⟩ (.string y.value)).setCell ⟨g,o+2,none⟩ (.int .i64 y.create)).setCell ⟨g,o+3,none⟩ (.int .i64 y.mod)).setCell ⟨g,o+4,none⟩ (.int .i64 y.version)).setCell ⟨g,o+5,none⟩ (.int .i64 y.lease)
theorem zri {w:World} {g o cap:Nat} {L:List Kv} (h:SlF w 99 6 kvC (.slice (some ⟨g,o,none⟩) L.length cap) L) (i:Nat) {x:Kv} (hx:L[i]?=some x) (y:Kv) :
 SlF (layKv w g (o+i * 6) y) 99 6 kvC (.slice (some ⟨g,o,none⟩) L.length cap) (L.set i y):=by
 have a:=(List.getElem?_eq_some_iff.1 hx).1
 have step:∀ {w:World} {M:List Kv} {z:Kv} (j:Nat) (u:Value) (z':Kv),j<6->M.length=L.length->SlF w 99 6 kvC (.slice (some ⟨g,o,none⟩) L.length cap) M->M[i]?=some z->kvC z'=(kvC z).set j u →
  SlF (w.setCell ⟨g,o+i * 6+j,none⟩ u) 99 6 kvC (.slice (some ⟨g,o,none⟩) L.length cap) (M.set i z'):=by
  intro w M z j u z' m k b q e;rw [<-k] at b ⊢
  exact b.set zae i j m z z' u q e
 have d:=step 0 (.string y.key) ({ x with key:=y.key }) (by omega) rfl h hx rfl;have n:=step (z:={ x with key:=y.key }) 1 (.string y.value) ({ x with key:=y.key,value:=y.value }) (by omega) (by simp) d (by simp [a]) rfl;have c:=step (z:={ x with key:=y.key,value:=y.value }) 2 (.int .i64 y.create) ({ x with key:=y.key,value:=y.value,create:=y.create }) (by omega) (by simp) n (by simp [a]) rfl;have p:=step (z:={ x with key:=y.key,value:=y.value,create:=y.create }) 3 (.int .i64 y.mod) ({ x with key:=y.key,value:=y.value,create:=y.create,mod:=y.mod }) (by omega) (by simp) c (by simp [a]) rfl
 have f:=step (z:={ x with key:=y.key,value:=y.value,create:=y.create,mod:=y.mod }) 4 (.int .i64 y.version) ({ x with key:=y.key,value:=y.value,create:=y.create,mod:=y.mod,version:=y.version }) (by omega) (by simp) p (by simp [a]) rfl;have l:=step (z:={ x with key:=y.key,value:=y.value,create:=y.create,mod:=y.mod,version:=y.version }) 5 (.int .i64 y.lease) (y) (by omega) (by simp) f (by simp [a]) rfl;simpa [layKv,List.set_set] using l
theorem zrj {S:Nat->Prop} {a w:World} (h:Fr S a w) (g o:Nat) (y:Kv) (hg:S g):Fr S a (layKv w g o y):=by
 unfold layKv;exact (((((h.setCell (.inl hg) _).setCell (.inl hg) _).setCell (.inl hg) _).setCell (.inl hg) _).setCell (.inl hg) _).setCell (.inl hg) _
def Turned (L M:List Kv) (i:Nat):Prop:=M.length=L.length/\∀ k,k<L.length->M[k]?=if k<i\/L.length-i<=k then L[L.length-1-k]? else L[k]?
theorem Turned.start (L:List Kv):Turned L L 0:=⟨rfl,fun k hk=>by rw [if_neg (by omega)]⟩
theorem Turned.done {L M:List Kv} {i:Nat} (h:Turned L M i) (hi:L.length<=2 * i+1):M=L.reverse:=by
 refine List.ext_getElem? fun k=>?_;by_cases hk:k<L.length
 · rw [h.2 k hk,List.getElem?_reverse hk]
   split
   · rfl
   rename_i hn
   congr 1;omega
 rw [List.getElem?_eq_none (by rw [h.1];omega),List.getElem?_eq_none (by simp;omega)]
theorem Turned.next {L M:List Kv} {i j:Nat} (h:Turned L M i) (hij:i+j+1=L.length) (hlt:i<j) {x y:Kv} (hx:L[i]?=some x) (hy:L[j]?=some y):Turned L ((M.set i y).set j x) (i+1):=by
 refine ⟨by simp [h.1],fun k hk=>?_⟩;have a:=h.1;by_cases hkj:k=j
 · subst hkj
   rw [List.getElem?_set_self (by simp;omega),if_pos (by omega),show L.length-1-k=i by omega,hx]
 rw [List.getElem?_set_ne (fun e=>hkj e.symm)]
 by_cases hki:k=i
 · subst hki
   rw [List.getElem?_set_self (by omega),if_pos (by omega),show L.length-1-k=j by omega,hy]
 rw [List.getElem?_set_ne (fun e=>hki e.symm),h.2 k hk]
 by_cases hc:k<i\/L.length-i<=k
 · rw [if_pos hc,if_pos (by omega)]
 rw [if_neg hc,if_neg (by omega)]
theorem Turned.at {L M:List Kv} {i k:Nat} (h:Turned L M i) (h1:i<=k) (h2:k+i<L.length):M[k]?=L[k]?:=by rw [h.2 k (by omega),if_neg (by omega)]
set_option maxHeartbeats 4000000 in
theorem zlo (w:World) (v:Value) (L:List Kv) (hv:SlF w 99 6 kvC v L) (hl:L.length<=1099511627) :
 Calls Tryz.prog 132 #[v] w fun e w'=>(∃ u,e=.returned u)/\SlF w' 99 6 kvC v L.reverse/\Fr (fun b=>v.ownBlock=some b) w w':=by
 obtain ⟨a,cap,rfl,U,a2,H⟩:=hv.shape;rcases Nat.eq_zero_or_pos L.length with X | W
 · obtain rfl:=List.eq_nil_of_length_eq_zero X
   have E:=H_ hv;clear hv H;go_enter Tryz.func132,Tryz.ntmps132;go_wp2
   go_loopg [2,3] 0 (fun g m s3 wr=>g=0/\m=.int .i64 0/\s3=.int .i64 (-1)/\w=wr)
   case atStart=>exact ⟨rfl,rfl,rfl,rfl⟩
   case round =>
    obtain ⟨rfl,rfl,rfl,rfl⟩:=hrel;go_wp2;refine bodyPost_end (results_none rfl _ _ _) rfl ?_;exact ⟨⟨_,rfl⟩,E.out,Fr.refl _ w⟩
 obtain ⟨l,go,rfl⟩:=H W
 have E:=H_ hv;clear hv;go_enter Tryz.func132,Tryz.ntmps132;go_wp2
 go_loopg [2,3] L.length (fun g m s3 wr=>∃ (i j:Nat) (M:List Kv),m=.int .i64 i/\s3=.int .i64 j/\i+j+1=L.length/\i<=j+1/\i+g=L.length/\Hid (Turned L M i)/\Hid (SlF wr 99 6 kvC (.slice (some ⟨l,go,none⟩) L.length cap) M)/\Hid (Fr (fun b=>b=l) w wr))
 case atStart=>exact ⟨0,L.length-1,L,rfl,by go_num,by omega,by omega,by omega,H_ (Turned.start L),E,H_ (Fr.refl _ w)⟩
 case round =>
  obtain ⟨i,j,M,rfl,rfl,D,Y,hi,p,Q,J⟩:=hrel;by_cases hlt:i<j
  · cases gk with
    | zero=>omega
    | succ g =>
      have r:(i:Int)<(j:Int):=(by omega);have V:(i:Int)<(L.length:Int):=(by omega);have Z:(j:Int)<(L.length:Int):=(by omega);obtain ⟨x,F⟩:∃ x,L[i]?=some x:=⟨_,List.getElem?_eq_getElem (by omega)⟩;obtain ⟨y,G⟩:∃ y,L[j]?=some y:=⟨_,List.getElem?_eq_getElem (by omega)⟩;have d:=(p.out.at (k:=i) (by omega) (by omega)).trans F;have f:=(p.out.at (k:=j) (by omega) (by omega)).trans G;have c:SlF wr 99 6 kvC (.slice (some ⟨l,go,none⟩) M.length cap) M:=(by rw [p.out.1];exact Q.out);have T:l<wr.heap.size:=c.lt l rfl;obtain ⟨O,I,P,R,S,N⟩:=x;obtain ⟨B,z,t,C,A,s⟩:=y;have u0:=c.cell0 zae i d rfl;have u1:=c.cell zae i 1 d rfl;have u2:=c.cell zae i 2 d rfl;have u3:=c.cell zae i 3 d rfl;have u4:=c.cell zae i 4 d rfl
      have u5:=c.cell zae i 5 d rfl;have v0:=c.cell0 zae j f rfl;have v1:=c.cell zae j 1 f rfl;have v2:=c.cell zae j 2 f rfl;have v3:=c.cell zae j 3 f rfl;have v4:=c.cell zae j 4 f rfl;have v5:=c.cell zae j 5 f rfl;have a1:∀ k,wr.frozen? ⟨l,k,none⟩=false:=fun k=>c.free k;have K:=zri c i d ⟨B,z,t,C,A,s⟩;have m:=zri (L:=M.set i ⟨B,z,t,C,A,s⟩) (by rw [List.length_set];exact K) j (x:=⟨B,z,t,C,A,s⟩) (by rw [List.getElem?_set_ne (by omega)];exact f) ⟨O,I,P,R,S,N⟩;have q:=zrj (zrj J.out l (go+i * 6) ⟨B,z,t,C,A,s⟩ rfl) l (go+j * 6) ⟨O,I,P,R,S,N⟩ rfl;have HN:=H_ (p.out.next D hlt F G);rw [List.length_set,p.out.1] at m;have n:=H_ m;have o:=H_ q;clear F G d f c K m q;unfold layKv at n o
      dsimp only at n o;go_wp2_with fail
      go_region
      go_wp2;go_roundg g
      case rel=>exact ⟨i+1,j-1,_,by go_num,by go_num,by omega,by omega,by omega,HN,H_ n.out.drew,H_ o.out.drew⟩
      case measure=>omega
  have r:¬ (i:Int)<(j:Int):=by omega
  go_wp2;refine bodyPost_end (results_none rfl _ _ _) rfl ?_;exact ⟨⟨_,rfl⟩,by rw [<-p.out.done (by omega)];exact Q.out,J.out.mono fun b _ h=>by rw [h];rfl⟩
def bareK (x:Kv):Kv:={ x with value:=ByteArray.empty }
def bareTo (i:Nat) (L:List Kv):List Kv:=(L.take i).map bareK++L.drop i
theorem zqi (L:List Kv):bareTo 0 L=L:=by simp [bareTo]
theorem ztf (L:List Kv) {i:Nat} (h:L.length<=i):bareTo i L=L.map bareK:=by
 unfold bareTo;rw [List.take_of_length_le h,List.drop_eq_nil_of_le h,List.append_nil]
theorem zex (i:Nat) (L:List Kv):(bareTo i L).length=L.length:=by
 unfold bareTo;simp;omega
theorem zlb {i:Nat} {L:List Kv} {x:Kv} (h:L[i]?=some x):(bareTo i L)[i]?=some x:=by
 have a:=(List.getElem?_eq_some_iff.1 h).1;unfold bareTo;rw [List.getElem?_append_right (by simp;omega)];simp only [List.length_map,List.length_take,List.getElem?_drop];rw [Nat.min_eq_left (by omega),show i+(i-i)=i by omega];exact h
theorem zqj {i:Nat} {L:List Kv} {x:Kv} (h:L[i]?=some x):(bareTo i L).set i (bareK x)=bareTo (i+1) L:=by
 have a:=(List.getElem?_eq_some_iff.1 h).1;unfold bareTo;rw [List.take_add_one,h,List.map_append,List.drop_eq_getElem_cons a,List.set_append_right _ _ (by simp;omega)];have:i-((L.take i).map bareK).length=0:=by simp;omega
 rw [this,List.set_cons_zero];simp
theorem zte {w:World} {g o cap:Nat} {L:List Kv} {K i:Nat} {x:Kv} (h:SlF w 99 6 kvC (.slice (some ⟨g,o,none⟩) K cap) (bareTo i L)) (hK:L.length=K) (hx:L[i]?=some x) :
 SlF (w.setCell ⟨g,o+i * 6+1,none⟩ (.string ByteArray.empty)) 99 6 kvC (.slice (some ⟨g,o,none⟩) K cap) (bareTo (i+1) L):=by
 subst hK;rw [<-zex i L] at h;have a:=h.set zae i 1 (by omega) x (bareK x) (.string ByteArray.empty) (zlb hx) rfl;rw [zqj hx,zex] at a;exact a
def keyTo (b:Bool) (i:Nat) (L:List Kv):List Kv:=if b then bareTo i L else L
theorem zsp (b:Bool) (L:List Kv):keyTo b 0 L=L:=by cases b with
 | false=>rfl
 | true=>exact zqi L
theorem zjk (b:Bool) (L:List Kv) {i:Nat} (h:L.length<=i):keyTo b i L=if b then L.map fun x=>{ x with value:=ByteArray.empty } else L:=by cases b with
 | false=>rfl
 | true=>exact ztf L h
set_option maxHeartbeats 8000000 in
theorem zhz {TA:zaq} {N:Nat} (hT:TreeOk TA N) {n:Nat} (hn:n<=1099511627) (w:World) (s:Nat) (S:St) (F:Nat->Prop) (hS:zak TA w s S F) (hok:StOk n S) (hN:S.T.length<=1099511627) (g:Rg) (rev:Int)
 (hks:g.key.size<=1099511627776) :
 Calls Tryz.prog 89 #[.pointer (some ⟨s,0,none⟩),rgV g,.int .i64 rev] w fun e w'=>∃ v,e=.returned (.tuple #[v,.int .i64 (allL S g rev).length,.bool (moreB S g rev)])/\SlF w' 99 6 kvC v (getL S g rev)/\Fr No w w'/\(∀ b,v.ownBlock=some b->w.heap.size<=b):=by
 have ax:(allL S g rev).length<=1099511627:=Nat.le_trans (List.length_filterMap_le _ _) (Nat.le_trans (List.length_filter_le _ _) hN);have q:=fun W (hW:Fr No w W)=>zhk hT hn W s S F (hS.fr0 hT hW) hok hN g.key g.end_ (revOf g rev) hks;have a4:zaz S g.key g.end_ (revOf g rev)=allL S g rev:=rfl;rw [a4] at q
 have aa:getL S g rev=if g.count then [] else keyTo g.keys (allL S g rev).length (cutL g (moreB S g rev) (if g.desc then (allL S g rev).reverse else allL S g rev)):=by
  have hl:(cutL g (moreB S g rev) (if g.desc then (allL S g rev).reverse else allL S g rev)).length<=(allL S g rev).length:=by
   unfold cutL
   split
   · rw [List.length_take];split
     · rw [List.length_reverse];omega
     omega
   split
   · rw [List.length_reverse];omega
   omega
  rw [zjk _ _ hl]
  rfl
 have a1:moreB S g rev=(!g.count&&decide (0<g.limit)&&decide (g.limit<(allL S g rev).length)):=rfl;have a0:revOf g rev=if g.rev≠0 then g.rev else rev:=rfl;have a5:∀ m l,cutL g m l=if m then l.take g.limit.toNat else l:=fun _ _=>rfl;rw [aa];generalize hR:(if g.count then [] else keyTo g.keys (allL S g rev).length (cutL g (moreB S g rev) (if g.desc then (allL S g rev).reverse else allL S g rev)))=R at *;generalize allL S g rev=l at *;generalize moreB S g rev=y at *;generalize revOf g rev=rv at *;generalize cutL g=D at *;obtain ⟨g1,g2,X,r,g5,g6,Y⟩:=g;unfold rgV;dsimp only at *;have HB:=H_ q;have z:=H_ a1;have a3:=H_ a0;have U:=H_ a5;have HR:=H_ hR;clear q aa a1 a0 a5 a4 hS hR
 have f:=zad w (Obj.cells #[.string g1,.string g2,.int .i64 X,.int .i64 r,.bool g5,.bool g6,.bool Y] 35) _ rfl;have a8:Fr No w (w.alloc (Obj.cells #[.string g1,.string g2,.int .i64 X,.int .i64 r,.bool g5,.bool g6,.bool Y] 35)):=(Fr.refl No w).alloc _;have I:=H_ f;have a6:=H_ a8;clear f a8;go_enter Tryz.func89,Tryz.ntmps89;go_upto_if 15 with fail;generalize w.alloc (Obj.cells #[.string g1,.string g2,.int .i64 X,.int .i64 r,.bool g5,.bool g6,.bool Y] 35)=W1 at *;have b9:w.heap.size<W1.heap.size:=zaa I.out;have f:=I.out;have b0:=cellAt f 0 rfl;have b1:=cellAt f 1 rfl;have b2:=cellAt f 2 rfl;have b3:=cellAt f 3 rfl;have b4:=cellAt f 4 rfl;have b5:=cellAt f 5 rfl;have b6:=cellAt f 6 rfl
 go_cut [2] (fun s2 wx=>s2=.int .i64 rv/\wx=W1)
 case first =>
  by_cases hz:X=0
  · have aN:(X != 0)=false:=by rw [hz];rfl
    have hr:rv=rev:=(by rw [a3.out,if_neg (by simp [hz])]);go_wp2;go_meet
    case rel=>exact ⟨by first | rfl | rw [hr],rfl⟩
  have aN:(X != 0)=true:=by rw [bne_iff_ne];exact hz
  have hr:rv=X:=(by rw [a3.out,if_pos hz]);go_wp2;go_meet
  case rel=>exact ⟨by first | rfl | rw [hr],rfl⟩
 case rest =>
  obtain ⟨rfl,rfl⟩:=hcut;go_upto_region 4 with (go_at_call 88;refine (HB.out _ a6.out).mono ?_;rintro e w1 ⟨v,rfl,hv,O,J⟩);obtain ⟨va,d,rfl,bb,b8,aA⟩:=hv.shape;have o:=O.heap I.out id;have HV:=H_ hv;have aE:=H_ o;have ad:=H_ (a6.out.trans0 O);have G:Hid (¬ (Value.slice va l.length d).ownBlock=some w.heap.size):=H_ (fun h=>by have:=J _ h;omega);have E:Hid (∀ b,(Value.slice va l.length d).ownBlock=some b->w.heap.size<=b):=H_ (fun b q=>by have:=J b q;omega);clear hv O J b0 b1 b2 b3 b4 b5 b6 f;have b0:=cellAt o 0 rfl;have b1:=cellAt o 1 rfl;have b2:=cellAt o 2 rfl;have b3:=cellAt o 3 rfl;have b4:=cellAt o 4 rfl;have b5:=cellAt o 5 rfl;have b6:=cellAt o 6 rfl;have aJ:=zaa o;clear o;go_upto_if 28 with fail
  cases g6 with
  | true =>
    have L:y=false:=z.out;go_wp2;go_ret3;exact ⟨_,by first | rfl | (rw [L];rfl),by rw [<-HR.out];exact SlF.nil _ _ _ _,ad.out,by simp [Value.ownBlock]⟩
  | false =>
    go_upto_if 31 with fail
    go_cut [33] (fun _ wx=>Hid (SlF wx 99 6 kvC (.slice va l.length d) (if Y then l.reverse else l))/\Hid (Fr (fun b=>(Value.slice va l.length d).ownBlock=some b) w1 wx))
    case first =>
     cases Y with
     | false =>
       go_wp2;go_meet
       case rel=>exact ⟨HV,H_ (Fr.refl _ _)⟩
     | true =>
       go_wp2_with (go_at_call 132;refine (zlo _ _ _ HV.out ax).mono ?_;rintro e w2 ⟨⟨u,rfl⟩,aw,aI⟩);go_meet
       case rel=>exact ⟨H_ aw,H_ aI⟩
    case rest =>
     obtain ⟨ak,af⟩:=hcut;have j:=af.out.heap aE.out G.out;have aX:=zaa j;clear b0 b1 b2 b3 b4 b5 b6 aJ;have b0:=cellAt j 0 rfl;have b1:=cellAt j 1 rfl;have b2:=cellAt j 2 rfl;have b3:=cellAt j 3 rfl;have b4:=cellAt j 4 rfl;have b5:=cellAt j 5 rfl;have b6:=cellAt j 6 rfl;have av:=H_ j;clear j;have ab:=HR.out;generalize hM:(if Y then l.reverse else l)=M at *;have aH:=H_ ab;clear ab;have a7:M.length=l.length:=(by rw [<-hM];split <;> simp);clear hM;generalize wc=W2 at *;go_upto_region 9 with fail
     go_cut [11] (fun s11 wx=>s11=.bool y/\wx=W2)
     case first =>
      by_cases Z:0<r
      · have aK:decide (r > 0)=true:=decide_eq_true Z
        by_cases h2:r<(l.length:Int)
        · have H:decide (r<(l.length:Int))=true:=decide_eq_true h2
          have L:y=true:=(by rw [z.out,H,decide_eq_true Z];rfl);go_wp2;go_meet
          case rel=>exact ⟨by first | rfl | rw [L],rfl⟩
        have H:decide (r<(l.length:Int))=false:=decide_eq_false h2
        have L:y=false:=(by rw [z.out,H];simp);go_wp2;go_meet
        case rel=>exact ⟨by first | rfl | rw [L],rfl⟩
      have aK:decide (r > 0)=false:=decide_eq_false Z
      have L:y=false:=(by rw [z.out,decide_eq_false Z];rfl);go_wp2;go_meet
      case rel=>exact ⟨by first | rfl | rw [L],rfl⟩
     case rest =>
      obtain ⟨rfl,rfl⟩:=hcut;go_upto_if 43 with fail
      go_cut [9] (fun s9 wx=>∃ a c,s9=.slice a (D y M).length c/\Hid (SlF wx 99 6 kvC (.slice a (D y M).length c) (D y M))/\Hid (∀ b,(Value.slice a (D y M).length c).ownBlock=some b->w.heap.size<=b/\b≠w.heap.size)/\wx=wc)
      case first =>
       cases y with
       | false =>
         have V:D false M=M:=U.out false M;go_wp2;go_meet
         case rel =>
          rw [V,a7];exact ⟨va,d,rfl,ak,H_ fun b q=>⟨E.out b q,fun e=>G.out (e▸q)⟩,rfl⟩
       | true =>
         have V:D true M=M.take r.toNat:=U.out true M;have bd:0<r/\r<(l.length:Int):=(by have:=z.out;simpa using this.symm);obtain ⟨k,rfl⟩:∃ k:Nat,r=k:=⟨r.toNat,by omega⟩;have bf:k<=l.length:=(by omega);have aT:(k:Int)<=(d:Int):=(by omega);obtain ⟨B,go,rfl⟩:=aA (by omega);go_wp2;go_meet
         case rel =>
          rw [V];have aj:(M.take ((k:Int).toNat)).length=k:=(by rw [List.length_take];omega);rw [aj];have h3:=ak.out;rw [<-a7] at h3;exact ⟨some ⟨B,go,none⟩,d,rfl,H_ (h3.take zae k (by omega)),H_ fun b q=>⟨E.out b q,fun e=>G.out (e▸q)⟩,rfl⟩
      case rest =>
       obtain ⟨a9,c9,rfl,ai,Q,rfl⟩:=hcut
       have bc:(D y M).length<=l.length:=by
        rw [U.out];split
        · rw [List.length_take];omega
        omega
       have ag:=aH.out;generalize D y M=K at *;have aO:=H_ ag;clear ag;go_wp2
       go_loopg [50] K.length (fun g s50 wr=>∃ i:Nat,s50=.int .i64 i/\i+g=K.length/\Hid (SlF wr 99 6 kvC (.slice a9 K.length c9) (keyTo g5 i K))/\Hid (Fr (fun b=>(Value.slice a9 K.length c9).ownBlock=some b) wc wr))
       case atStart=>exact ⟨0,rfl,by omega,by rw [zsp];exact ai,H_ (Fr.refl _ _)⟩
       case round =>
        obtain ⟨i,rfl,hi,HK,A⟩:=hrel
        cases gk with
        | zero =>
          have aF:¬ (i:Int)<(K.length:Int):=(by omega);go_wp2;go_ret3;refine ⟨_,rfl,?_,(ad.out.trans af.out fun b q h=>?_).trans A.out fun b q h=>?_,fun b q=>(Q.out b q).1⟩
          · rw [<-aO.out,if_neg (by simp),zjk _ _ (show K.length<=l.length by omega),<-zjk _ _ (show K.length<=i by omega)]
            exact HK.out
          · have:=E.out b h;omega
          have:=(Q.out b h).1;omega
        | succ g =>
          have aF:(i:Int)<(K.length:Int):=(by omega);have ae:=A.out.heap av.out fun h=>(Q.out _ h).2 rfl;have z4:=cellAt ae 4 rfl;have lz:=zaa ae
          cases g5 with
          | false =>
            go_wp2;go_roundg g
            case rel=>exact ⟨i+1,by go_num,by omega,HK,A⟩
            case measure=>omega
          | true =>
            obtain ⟨B,go,rfl⟩:∃ B go,a9=some ⟨B,go,none⟩:=by
             obtain ⟨a,c,Z,_,_,h4⟩:=ai.out.shape;cases Z
             exact h4 (by omega)
            obtain ⟨x,hx⟩:∃ x,K[i]?=some x:=⟨_,List.getElem?_eq_getElem (by omega)⟩;have P:SlF wr 99 6 kvC (.slice (some ⟨B,go,none⟩) K.length c9) (bareTo i K):=HK.out;have C:=zte P rfl hx;have t:=P;rw [<-zex i K] at t;have f1:=t.cell zae i 1 (zlb hx) rfl;have ff:=t.free (go+i * 6+1);have lf:=World.block_lt_of_cell? _ _ f1;have ah:=H_ C;have a2:Fr (fun b=>(Value.slice (some ⟨B,go,none⟩) K.length c9).ownBlock=some b) wc (wr.setCell ⟨B,go+i * 6+1,none⟩ (.string ByteArray.empty)):=A.out.setCell (p:=⟨B,go+i * 6+1,none⟩) (.inl rfl) _;have aM:=H_ a2;clear C P t a2 hx;go_wp2;go_roundg g
            case rel=>exact ⟨i+1,by go_num,by omega,ah,aM⟩
            case measure=>omega
def KSorted (l:List Kv):Prop:=l.Pairwise fun a b=>klt a.key b.key=true
def hasL (l:List Kv) (key:ByteArray):Option Kv:=l.find? fun k=>keq k.key key
def doneL:List Kv->Ev->List Kv
 | [],x=>if x.kind=1 then [x.kv] else []
 | k :: l,x=>if klt k.key x.kv.key=true then k :: doneL l x else (if x.kind=1 then [x.kv] else [])++(if keq k.key x.kv.key=true then l else k :: l)
theorem zjg {l:List Kv} (h:KSorted l) (x:Ev) (y:Kv):y∈doneL l x↔(x.kind=1/\y=x.kv)\/(y∈l/\keq y.key x.kv.key=false):=by
 induction l with
 | nil=>unfold doneL;split <;> simp_all
 | cons k l ih =>
   obtain ⟨i,f⟩:=List.pairwise_cons.1 h;unfold doneL
   split
   · rename_i hk
     rw [List.mem_cons,ih f,List.mem_cons];have:=klt_ne hk
     constructor
     · rintro (rfl | h | ⟨h,c⟩)
       · exact .inr ⟨.inl rfl,this⟩
       · exact .inl h
       exact .inr ⟨.inr h,c⟩
     rintro (h | ⟨rfl | h,c⟩)
     · exact .inr (.inl h)
     · exact .inl rfl
     exact .inr (.inr ⟨h,c⟩)
   rename_i hk
   have d:klt k.key x.kv.key=false:=(by simpa using hk)
   have e:∀ z∈l,keq z.key x.kv.key=false:=fun z hz=>by
    have g:=zfr d (i z hz);rw [zca];exact klt_ne g
   rw [List.mem_append];refine or_congr ?_ ?_
   · split <;> simp_all
   split
   · rename_i he
     constructor
     · exact fun a=>⟨List.mem_cons_of_mem _ a,e y a⟩
     rintro ⟨a,b⟩
     rcases List.mem_cons.1 a with rfl | a
     · rw [he] at b;cases b
     exact a
   rename_i he
   constructor
   · intro a
     refine ⟨a,?_⟩;rcases List.mem_cons.1 a with rfl | a
     · simpa using he
     exact e y a
   exact fun a=>a.1
theorem zck {l:List Kv} (h:KSorted l) (x:Ev):KSorted (doneL l x):=by
 induction l with
 | nil=>unfold doneL KSorted;split <;> simp
 | cons k l ih =>
   obtain ⟨g,f⟩:=List.pairwise_cons.1 h;unfold doneL
   split
   · rename_i hk
     refine List.pairwise_cons.2 ⟨fun y hy=>?_,ih f⟩;rcases (zjg f x y).1 hy with ⟨_,rfl⟩ | ⟨j,_⟩
     · exact hk
     exact g y j
   rename_i hk
   have c:klt k.key x.kv.key=false:=(by simpa using hk);have i:∀ z∈l,klt x.kv.key z.key=true:=fun z hz=>zfr c (g z hz);refine List.pairwise_append.2 ⟨by split <;> simp,?_,fun a ha b d=>?_⟩
   · split
     · exact f
     exact h
   split at ha
   · obtain rfl:=List.mem_singleton.1 ha
     split at d
     · exact i b d
     rename_i he
     rcases List.mem_cons.1 d with rfl | d
     · rcases zep x.kv.key b.key with e | e | e
       · exact e
       · exact absurd (zas.2 e.symm) he
       rw [e] at c;cases c
     exact i b d
   simp at ha
theorem zbl {l:List Kv} (h:KSorted l) (key:ByteArray) (y:Kv):hasL l key=some y↔y∈l/\y.key=key:=by
 constructor
 · intro a
   exact ⟨List.mem_of_find?_eq_some a,zas.1 (by simpa using List.find?_some a)⟩
 rintro ⟨a,rfl⟩
 unfold hasL
 induction l with
 | nil=>cases a
 | cons k l ih =>
   obtain ⟨c,b⟩:=List.pairwise_cons.1 h;rw [List.find?_cons];rcases List.mem_cons.1 a with rfl | a
   · rw [zas.2 rfl]
   rw [klt_ne (c y a)]
   exact ih b a
theorem zus {α:Type} {a b:Option α} (h:∀ y,a=some y↔b=some y):a=b:=by
 cases a with
 | none =>
   cases b with
   | none=>rfl
   | some y=>exact ((h y).2 rfl)
 | some x=>exact ((h x).1 rfl).symm
theorem zdf {l:List Kv} (h:KSorted l) (x:Ev) (key:ByteArray):hasL (doneL l x) key=if keq key x.kv.key=true then (if x.kind=1 then some x.kv else none) else hasL l key:=by
 refine zus fun y=>?_;rw [zbl (zck h x),zjg h];by_cases hk:keq key x.kv.key=true
 · rw [if_pos hk]
   have c:=zas.1 hk
   constructor
   · rintro ⟨⟨a,rfl⟩ | ⟨_,d⟩,e⟩
     · rw [if_pos a]
     rw [e,hk] at d;cases d
   intro b
   split at b
   · rename_i a
     obtain rfl:=Option.some.inj b;exact ⟨.inl ⟨a,rfl⟩,c.symm⟩
   cases b
 rw [if_neg hk,zbl h]
 constructor
 · rintro ⟨⟨a,rfl⟩ | ⟨a,_⟩,rfl⟩
   · exact absurd (zas.2 rfl) hk
   exact ⟨a,rfl⟩
 rintro ⟨a,rfl⟩
 exact ⟨.inr ⟨a,by simpa using hk⟩,rfl⟩
theorem zpi {l m:List Kv} (h:KSorted l) (h':KSorted m) (he:∀ key,hasL l key=hasL m key):l=m:=by
 have d:∀ y,y∈l↔y∈m:=fun y=>by
  have g:=zbl h y.key y;have f:=zbl h' y.key y;rw [he] at g
  constructor
  · intro c;exact (f.1 (g.2 ⟨c,rfl⟩)).1
  intro c;exact (g.1 (f.2 ⟨c,rfl⟩)).1
 clear he
 induction l generalizing m with
 | nil =>
   cases m with
   | nil=>rfl
   | cons b m=>exact absurd ((d b).2 List.mem_cons_self) (by simp)
 | cons a l ih =>
   obtain ⟨a1,a2⟩:=List.pairwise_cons.1 h
   cases m with
   | nil=>exact absurd ((d a).1 List.mem_cons_self) (by simp)
   | cons b m =>
     obtain ⟨b1,b2⟩:=List.pairwise_cons.1 h'
     have i:a=b:=by
      rcases List.mem_cons.1 ((d a).1 List.mem_cons_self) with e | e
      · exact e
      rcases List.mem_cons.1 ((d b).2 List.mem_cons_self) with j | j
      · exact j.symm
      have g:=b1 a e
      have f:=zcp (a1 b j);rw [g] at f;cases f
     subst i
     congr 1
     refine ih a2 b2 fun y=>?_
     constructor
     · intro c
       rcases List.mem_cons.1 ((d y).1 (List.mem_cons_of_mem _ c)) with rfl | e
       · have:=a1 y c;rw [zbb] at this;cases this
       exact e
     intro c
     rcases List.mem_cons.1 ((d y).2 (List.mem_cons_of_mem _ c)) with rfl | e
     · have:=b1 y c;rw [zbb] at this;cases this
     exact e
structure Doc where
 rev:Int
 mark:Int
 kvs:List Kv
 events:List Ev
def Doc.at (D:Doc) (r:Int):List Kv:=(D.events.filter fun e=>decide (D.mark<e.kv.mod)&&decide (e.kv.mod<=r)).foldl doneL D.kvs
theorem zbg {l:List Kv} (h:KSorted l) (es:List Ev):KSorted (es.foldl doneL l):=by
 induction es generalizing l with
 | nil=>exact h
 | cons e es ih=>exact ih (zck h e)
theorem Doc.at_sorted {D:Doc} (h:KSorted D.kvs) (r:Int):KSorted (D.at r):=zbg h _
structure HInv (M:Int) (H:Hist):Prop where
 puts:∀ x∈H.gens,∀ p∈x.puts,1<=p/\p<=M
 ends:∀ x∈H.gens,0<=x.end_/\x.end_<=M
 full:∀ x∈H.gens,x.puts≠[]
 zero:H.kvs 0=none
theorem zij {l:List Int} {r:Int} (h:∀ p∈l,p<=r):upTo l r=l.length:=by
 unfold upTo;exact List.findIdx_eq_length_of_false fun p hp=>by have:=h p hp;simp;omega
theorem zmt {l:List Int} {r R:Int} (h:r<R):upTo (l++[R]) r=upTo l r:=by
 unfold upTo;rw [List.findIdx_append]
 split
 · rfl
 rename_i hn
 have a:l.findIdx (fun p=>decide (r<p))=l.length:=by
  have:=List.findIdx_le_length (p:=fun p=>decide (r<p)) (xs:=l);omega
 rw [a];simp [List.findIdx_cons,h]
theorem zze (r:Int):atK [] r=((0,0,0),false):=rfl
theorem zcc (K:List Gen) (x:Gen) (r:Int):atK (K++[x]) r=if upTo x.puts r≠0 then (if 0<x.end_/\x.end_<=r then ((0,0,0),false) else ((x.create,x.puts[upTo x.puts r-1]?.getD 0,x.cut+upTo x.puts r),true)) else atK K r:=by
 unfold atK;rw [List.reverse_append,List.reverse_singleton,List.singleton_append,List.find?_cons];by_cases h:upTo x.puts r=0
 · simp [h]
 have a:(upTo x.puts r != 0)=true:=by simpa using h
 rw [a,if_pos h]
theorem zda {K:List Gen} (h:isOpen K=true):∃ L x,K=L++[x]/\x.end_=0:=by
 unfold isOpen at h
 cases hl:K.getLast? with
 | none=>rw [hl] at h;cases h
 | some x =>
   rw [hl] at h;obtain ⟨L,rfl⟩:=List.getLast?_eq_some_iff.1 hl;exact ⟨L,x,rfl,by simpa using h⟩
theorem zby (L:List Gen) (x:Gen) (f:Gen->Gen):(L++[x]).modify ((L++[x]).length-1) f=L++[f x]:=by
 apply List.ext_getElem?;intro i;rw [List.getElem?_modify];simp only [List.length_append,List.length_singleton,Nat.add_sub_cancel];rcases Nat.lt_trichotomy i L.length with h | h | h
 · rw [List.getElem?_append_left h,List.getElem?_append_left h];have:¬ L.length=i:=by omega
   cases L[i]? <;> simp [this]
 · subst h;simp
 rw [List.getElem?_eq_none (by simp;omega),List.getElem?_eq_none (by simp;omega)];simp
theorem zth (K:List Gen) {r R:Int} (h:r<R):atK (putK K R) r=atK K r:=by
 unfold putK
 split
 · rename_i ho
   obtain ⟨L,x,rfl,a⟩:=zda ho;rw [zby,zcc,zcc,zmt h];have:=zei x.puts r
   split
   · rw [List.getElem?_append_left (by omega)]
   rfl
 rw [zcc,if_neg]
 simp [upTo,List.findIdx_cons,h]
theorem zti {K:List Gen} {r R:Int} (hK:∀ x∈K,∀ p∈x.puts,p<R) (h:R<=r):(atK (putK K R) r).1.2.1=R/\(atK (putK K R) r).2=true:=by
 unfold putK
 split
 · rename_i ho
   obtain ⟨L,x,rfl,c⟩:=zda ho
   have a:upTo (x.puts++[R]) r=x.puts.length+1:=by
    rw [zij]
    · simp
    intro p b
    rcases List.mem_append.1 b with e | e
    · have:=hK x (by simp) p e;omega
    rw [List.mem_singleton.1 e];exact h
   rw [zby,zcc];dsimp only;rw [a,if_pos (by omega),if_neg (by omega)];simp
 have a:upTo [R] r=1:=zij (by simpa using h)
 rw [zcc];dsimp only;rw [a,if_pos (by omega),if_neg (by omega)];simp
theorem zql {K:List Gen} (ho:isOpen K=true) {r R:Int} (h:r<R):atK (tombK K R) r=atK K r:=by
 obtain ⟨L,x,rfl,a⟩:=zda ho;unfold tombK;rw [zby,zcc,zcc];dsimp only;rw [if_neg (show ¬ (0<R/\R<=r) by omega),if_neg (show ¬ (0<x.end_/\x.end_<=r) by omega)]
theorem zqm {K:List Gen} (ho:isOpen K=true) {r R:Int} (hK:∀ x∈K,∀ p∈x.puts,p<=R) (hf:∀ x∈K,x.puts≠[]) (h1:1<=R) (h:R<=r):atK (tombK K R) r=((0,0,0),false):=by
 obtain ⟨L,x,rfl,b⟩:=zda ho;unfold tombK;rw [zby,zcc];dsimp only;have a:upTo x.puts r=x.puts.length:=zij fun p hp=>by have:=hK x (by simp) p hp;omega
 have:0<x.puts.length:=List.length_pos_iff.2 (hf x (by simp));rw [a,if_pos (by omega),if_pos (by omega)]
theorem zzf {K:List Gen} {r M:Int} (hK:∀ x∈K,∀ p∈x.puts,p<=M):(atK K r).1.2.1<=M\/(atK K r).1.2.1=0:=by
 unfold atK
 split
 · exact .inr rfl
 rename_i x hx
 have a:=List.mem_reverse.1 (List.mem_of_find?_eq_some hx)
 split
 · exact .inr rfl
 dsimp only
 cases hp:x.puts[upTo x.puts r-1]? with
 | none=>exact .inr rfl
 | some p=>exact .inl (hK x a p (List.mem_of_getElem? hp))
theorem zxs {M:Int} {H:Hist} (h:HInv M H) (x:Kv) (hM:M<x.mod) (h1:1<=x.mod) (r:Int):hadH (putH H x) r=if r<x.mod then hadH H r else (x,true):=by
 split
 · rename_i hr
   unfold hadH putH;dsimp only;rw [zth _ hr,if_neg];rcases zzf (r:=r) fun y hy p hp=>(h.puts y hy p hp).2 with e | e <;> omega
 rename_i hr
 obtain ⟨b,a⟩:=zti (r:=r) (R:=x.mod) (K:=H.gens) (fun y hy p hp=>by have:=(h.puts y hy p hp).2;omega) (by omega);unfold hadH putH;dsimp only;rw [b,a,if_pos rfl]
 rfl
theorem zvk {M:Int} {H:Hist} (h:HInv M H) (ho:isOpen H.gens=true) {R:Int} (hM:M<R) (h1:1<=R) (r:Int):hadH (tombH H R) r=if r<R then hadH H r else (kv0,false):=by
 split
 · rename_i hr
   unfold hadH tombH;dsimp only;rw [zql ho hr]
 rename_i hr
 unfold hadH tombH;dsimp only;rw [zqm ho (fun y hy p hp=>by have:=(h.puts y hy p hp).2;omega) h.full h1 (by omega)];dsimp only;rw [h.zero]
 rfl
theorem HInv.put {M:Int} {H:Hist} (h:HInv M H) (x:Kv) (hM:M<x.mod) (h1:1<=x.mod):HInv x.mod (putH H x):=by
 have j:(putH H x).kvs 0=none:=by unfold putH;dsimp only;rw [if_neg (by omega)];exact h.zero
 have d:∀ y∈(putH H x).gens,(∀ p∈y.puts,1<=p/\p<=x.mod)/\(0<=y.end_/\y.end_<=x.mod)/\y.puts≠[]:=by
  unfold putH putK;dsimp only
  split
  · rename_i ho
    obtain ⟨L,z,b,j⟩:=zda ho;rw [b,zby];have c:=h.puts;have i:=h.ends;have g:=h.full;rw [b] at c i g;intro y a;rcases List.mem_append.1 a with e | e
    · have f:=List.mem_append_left [z] e
      exact ⟨fun p hp=>by have:=c y f p hp;omega,by have:=i y f;omega,g y f⟩
    rw [List.mem_singleton.1 e]
    refine ⟨fun p hp=>?_,by dsimp only;omega,by simp⟩;rcases List.mem_append.1 hp with e | e
    · have:=c z (by simp) p e;omega
    rw [List.mem_singleton.1 e];omega
  intro y a
  rcases List.mem_append.1 a with e | e
  · exact ⟨fun p hp=>by have:=h.puts y e p hp;omega,by have:=h.ends y e;omega,h.full y e⟩
  rw [List.mem_singleton.1 e]
  exact ⟨fun p hp=>by rw [List.mem_singleton.1 hp];omega,by dsimp only;omega,by simp⟩
 exact ⟨fun y a=>(d y a).1,fun y a=>(d y a).2.1,fun y a=>(d y a).2.2,j⟩
theorem HInv.tomb {M:Int} {H:Hist} (h:HInv M H) (ho:isOpen H.gens=true) {R:Int} (hM:M<R) (h1:1<=R):HInv R (tombH H R):=by
 obtain ⟨L,z,b,j⟩:=zda ho;have c:=h.puts;have i:=h.ends;have d:=h.full
 have f:∀ y∈(tombH H R).gens,(∀ p∈y.puts,1<=p/\p<=R)/\(0<=y.end_/\y.end_<=R)/\y.puts≠[]:=by
  unfold tombH tombK;dsimp only;rw [b,zby];rw [b] at c i d;intro y a;rcases List.mem_append.1 a with e | e
  · have g:=List.mem_append_left [z] e
    exact ⟨fun p hp=>by have:=c y g p hp;omega,by have:=i y g;omega,d y g⟩
  rw [List.mem_singleton.1 e]
  exact ⟨fun p hp=>by have:=c z (by simp) p hp;omega,⟨by dsimp only;omega,Int.le_refl _⟩,d z (by simp)⟩
 exact ⟨fun y a=>(f y a).1,fun y a=>(f y a).2.1,fun y a=>(f y a).2.2,h.zero⟩
theorem HInv.new (M:Int):HInv M newH:=⟨by simp [newH],by simp [newH],by simp [newH],rfl⟩
theorem zvl {M:Int} {H:Hist} (h:HInv M H) {r:Int} (hr:M<=r):(hadH H r).2=isOpen H.gens:=by
 show (atK H.gens r).2=isOpen H.gens
 unfold isOpen
 cases hl:H.gens.getLast? with
 | none=>rw [List.getLast?_eq_none_iff.1 hl];rfl
 | some x =>
   obtain ⟨L,b⟩:=List.getLast?_eq_some_iff.1 hl;have a:x∈H.gens:=(by rw [b];simp);have c:upTo x.puts r=x.puts.length:=zij fun p hp=>by have:=(h.puts x a p hp).2;omega
   have:=List.length_pos_iff.2 (h.full x a);have d:=h.ends x a;rw [b,zcc,c,if_pos (by omega)];dsimp only;by_cases h0:x.end_=0
   · rw [if_neg (by omega)];simp [h0]
   rw [if_pos (by omega)];simp [h0]
end Go.Proofs.YthljnnjpmdgkoaaGreat