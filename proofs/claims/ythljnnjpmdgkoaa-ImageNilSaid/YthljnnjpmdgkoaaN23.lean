/- Own lemmas and contracts that the claim's proof needs, laid together. The conditions stand in each. -/
import Derived.Test.YthljnnjpmdgkoaaN22
import Derived.Test.YthljnnjpmdgkoaaN14
import Derived.BigRegion
import Derived.Deep.DeepCutAuto
namespace Go.Proofs.Ythljnnjpmdgkoaa
open Go Go.Proofs Go.RowKit
set_option maxRecDepth 100000
theorem info90:(Try.prog.info? 90).map (fun i=>(i.zero,i.size,i.bytes))=some (some (.agg #[.int .i64 0,.slice none 0 0,.int .i64 0,.bool false]),4,48):=by kernel_rfl
structure LoopR (TA:zan) (w0 w:World) (s sb vb:Nat) (F0:Nat->Prop) (r:Run) (F:Nat->Prop) (ev out:Value) (Z:List (Ans × Value)):Prop where
 fr:Fr F0 w0 w
 store:zaj TA w s r.S F
 box:Has w sb [.pointer (some ⟨s,0,none⟩)]
 evs:Has w vb [ev]
 evl:SlF w 73 13 evC ev r.E
 ans:AnsR w out Z
 eqs:Z.map (·.1)=r.A
 new:∀ b,F b->F0 b\/w0.heap.size<=b
 old:∀ b,F0 b->b < w0.heap.size
 sbn:w0.heap.size<=sb
 vbn:w0.heap.size<=vb
 evn:∀ b,ev.ownBlock=some b->w0.heap.size<=b
 ann:∀ b,ansF out Z b->w0.heap.size<=b
 f1:¬ F sb
 f2:¬ F vb
 f4:∀ b,ev.ownBlock=some b->¬ F b
 f5:∀ b,ansF out Z b->¬ F b
 n1:sb≠vb
 e1:ev.ownBlock≠some sb
 e2:ev.ownBlock≠some vb
 k1:¬ ansF out Z sb
 k2:¬ ansF out Z vb
 ek:∀ b,ev.ownBlock=some b->¬ ansF out Z b
theorem zrn {v:Value} {Z:List (Ans × Value)} {a:Ans} {kv:Value} {b:Nat} (h:ansF v (Z++[(a,kv)]) b):v.ownBlock=some b\/(∃ (i:Nat) (q:Ans × Value),Z[i]? = some q/\q.2.ownBlock=some b)\/kv.ownBlock=some b:=by
 rcases h with h | ⟨i,q,hq,h⟩
 · exact .inl h
 by_cases hi:i < Z.length
 · rw [List.getElem?_append_left hi] at hq
   exact .inr (.inl ⟨i,q,hq,h⟩)
 rw [List.getElem?_append_right (by omega)] at hq
 have h0:i - Z.length=0:=by
  have:=(List.getElem?_eq_some_iff.1 hq).1;simp at this;omega
 rw [h0] at hq;simp at hq;subst hq;exact .inr (.inr h)
theorem LoopR.next {TA:zan} {N:Nat} (hT:TreeOk TA N) {w0 wr w5 w6:World} {s sb vb:Nat} {F0 F F':Nat->Prop} {r:Run} {ev out ev' out' kv:Value} {Z:List (Ans × Value)} {S':St} {E':List Ev} {a:Ans} {X:Nat->Prop}
 (hl:LoopR TA w0 wr s sb vb F0 r F ev out Z) (hS:zaj TA w5 s S' F') (hbox:Has w5 sb [.pointer (some ⟨s,0,none⟩)]) (hevs:Has w5 vb [ev']) (hevl:SlF w5 73 13 evC ev' E') (hkv:SlF w5 57 6 kvC kv a.kvs)
 (hf:Fr X wr w5) (hX:∀ b,b < wr.heap.size->X b->F b\/b=vb\/ev.ownBlock=some b) (hF':∀ b,F' b->F b\/wr.heap.size<=b) (hev':∀ b,ev'.ownBlock=some b->ev.ownBlock=some b\/wr.heap.size<=b)
 (hkv':∀ b,kv.ownBlock=some b->wr.heap.size<=b) (d1:∀ b,ev'.ownBlock=some b->¬ F' b) (d2:∀ b,kv.ownBlock=some b->¬ F' b) (d3:∀ b,ev'.ownBlock=some b->kv.ownBlock≠some b)
 (hf6:Fr (fun b=>out.ownBlock=some b) w5 w6) (hs6:SlF w6 90 4 ansC out' (Z++[(a,kv)])) (hn6:∀ b,out'.ownBlock=some b->out.ownBlock=some b\/w5.heap.size<=b) :
 LoopR TA w0 w6 s sb vb F0 ⟨S',r.A++[a],E'⟩ F' ev' out' (Z++[(a,kv)]):=by
 have lF:=hl.store.lt hT;have lF':=hS.lt hT;have lA:=hl.ans.lt;have lev':=hevl.lt;have lkv:=hkv.lt;have lsb:=hl.box.lt;have lvb:=hl.evs.lt;have hsz:=hf.size;have hsz0:=hl.fr.size
 have nout:∀ b,out.ownBlock=some b->¬ F' b:=fun b hb h=>by
  rcases hF' b h with h1 | h1
  · exact hl.f5 b (.inl hb) h1
  have:=lA b (.inl hb);omega
 have kvout:∀ b,kv.ownBlock=some b->out.ownBlock≠some b:=fun b hb h=>by
  have:=lA b (.inl h);have:=hkv' b hb;omega
 have evout:∀ b,ev'.ownBlock=some b->¬ ansF out Z b:=fun b hb h=>by
  rcases hev' b hb with h1 | h1
  · exact hl.ek b h1 h
  have:=lA b h;omega
 -- what the answers' blocks are
 have split:∀ b,ansF out' (Z++[(a,kv)]) b->ansF out Z b\/w5.heap.size<=b\/kv.ownBlock=some b:=fun b h=>by
  rcases zrn h with h | h | h
  · rcases hn6 b h with h | h
    · exact .inl (.inl h)
    exact .inr (.inl h)
  · exact .inl (.inr h)
  exact .inr (.inr h)
 have hfr:Fr F0 w0 w6:=by
  refine (hl.fr.trans (hf.mono (T:=fun b=>F b\/b=vb\/ev.ownBlock=some b) hX) fun b hb h=>?_).trans hf6 fun b hb h=>?_
  · rcases h with h | h | h
    · rcases hl.new b h with h | h
      · exact h
      omega
    · have:=hl.vbn;omega
    have:=hl.evn b h;omega
  have:=hl.ann b (.inl h);omega
 exact {
  fr:=hfr
  store:=hS.fr hT hf6 fun b hb h=>nout b h hb
  box:=hbox.fr hf6 fun h=>hl.k1 (.inl h)
  evs:=hevs.fr hf6 fun h=>hl.k2 (.inl h)
  evl:=hevl.fr hf6 fun b hb h=>evout b hb (.inl h)
  ans:=(hl.ans.fr (hf.mono hX) fun b hb h=>by
   rcases h with h | h | h
   · exact hl.f5 b hb h
   · exact hl.k2 (h ▸ hb)
   exact hl.ek b h hb).snoc hf6 hs6 hkv kvout hn6
  eqs:=by rw [List.map_append,hl.eqs];rfl
  new:=fun b h=>by
   rcases hF' b h with h | h
   · exact hl.new b h
   exact .inr (by omega)
  old:=hl.old
  sbn:=hl.sbn
  vbn:=hl.vbn
  evn:=fun b h=>by
   rcases hev' b h with h | h
   · exact hl.evn b h
   omega
  ann:=fun b h=>by
   rcases split b h with h | h | h
   · exact hl.ann b h
   · omega
   have:=hkv' b h;omega
  f1:=fun h=>by
   rcases hF' _ h with h | h
   · exact hl.f1 h
   omega
  f2:=fun h=>by
   rcases hF' _ h with h | h
   · exact hl.f2 h
   omega
  f4:=d1
  f5:=fun b h hF=>by
   rcases split b h with h | h | h
   · rcases hF' b hF with h1 | h1
     · exact hl.f5 b h h1
     have:=lA b h;omega
   · have:=lF' b hF;omega
   exact d2 b h hF
  n1:=hl.n1
  e1:=fun h=>by
   rcases hev' _ h with h | h
   · exact hl.e1 h
   omega
  e2:=fun h=>by
   rcases hev' _ h with h | h
   · exact hl.e2 h
   omega
  k1:=fun h=>by
   rcases split _ h with h | h | h
   · exact hl.k1 h
   · omega
   have:=hkv' _ h;omega
  k2:=fun h=>by
   rcases split _ h with h | h | h
   · exact hl.k2 h
   · omega
   have:=hkv' _ h;omega
  ek:=fun b h h'=>by
   rcases split b h' with h' | h' | h'
   · exact evout b h h'
   · have:=lev' b h;omega
   exact d3 b h h' }
def layKv (w:World) (g o:Nat) (y:Kv):World :=
 (((((w.setCell ⟨g,o,none⟩ (.string y.key)).setCell ⟨g,o+1,none⟩ (.string y.value)).setCell ⟨g,o+2,none⟩ (.int .i64 y.create)).setCell ⟨g,o+3,none⟩ (.int .i64 y.mod)).setCell ⟨g,o+4,none⟩ (.int .i64 y.version)).setCell ⟨g,o+5,none⟩ (.int .i64 y.lease)
theorem znq {w:World} {g o cap:Nat} {L:List Kv} (h:SlF w 57 6 kvC (.slice (some ⟨g,o,none⟩) L.length cap) L) (i:Nat) {x:Kv} (hx:L[i]? = some x) (y:Kv) :
 SlF (layKv w g (o+i * 6) y) 57 6 kvC (.slice (some ⟨g,o,none⟩) L.length cap) (L.set i y):=by
 have hi:=(List.getElem?_eq_some_iff.1 hx).1
 have step:∀ {w:World} {M:List Kv} {z:Kv} (j:Nat) (u:Value) (z':Kv),j < 6->M.length=L.length->SlF w 57 6 kvC (.slice (some ⟨g,o,none⟩) L.length cap) M->M[i]? = some z->kvC z'=(kvC z).set j u →
  SlF (w.setCell ⟨g,o+i * 6+j,none⟩ u) 57 6 kvC (.slice (some ⟨g,o,none⟩) L.length cap) (M.set i z'):=by
  intro w M z j u z' hj hM hs hz he;rw [<-hM] at hs ⊢
  exact hs.set zag i j hj z z' u hz he
 have s0:=step 0 (.string y.key) ({ x with key:=y.key }) (by omega) rfl h hx rfl;have s1:=step (z:={ x with key:=y.key }) 1 (.string y.value) ({ x with key:=y.key,value:=y.value }) (by omega) (by simp) s0 (by simp [hi]) rfl;have s2:=step (z:={ x with key:=y.key,value:=y.value }) 2 (.int .i64 y.create) ({ x with key:=y.key,value:=y.value,create:=y.create }) (by omega) (by simp) s1 (by simp [hi]) rfl;have s3:=step (z:={ x with key:=y.key,value:=y.value,create:=y.create }) 3 (.int .i64 y.mod) ({ x with key:=y.key,value:=y.value,create:=y.create,mod:=y.mod }) (by omega) (by simp) s2 (by simp [hi]) rfl
 have s4:=step (z:={ x with key:=y.key,value:=y.value,create:=y.create,mod:=y.mod }) 4 (.int .i64 y.version) ({ x with key:=y.key,value:=y.value,create:=y.create,mod:=y.mod,version:=y.version }) (by omega) (by simp) s3 (by simp [hi]) rfl;have s5:=step (z:={ x with key:=y.key,value:=y.value,create:=y.create,mod:=y.mod,version:=y.version }) 5 (.int .i64 y.lease) (y) (by omega) (by simp) s4 (by simp [hi]) rfl;simpa [layKv,List.set_set] using s5
theorem znr {S:Nat->Prop} {a w:World} (h:Fr S a w) (g o:Nat) (y:Kv) (hg:S g):Fr S a (layKv w g o y):=by
 unfold layKv;exact (((((h.setCell (.inl hg) _).setCell (.inl hg) _).setCell (.inl hg) _).setCell (.inl hg) _).setCell (.inl hg) _).setCell (.inl hg) _
def Turned (L M:List Kv) (i:Nat):Prop:=M.length=L.length/\∀ k,k < L.length->M[k]? = if k < i\/L.length - i<=k then L[L.length - 1 - k]? else L[k]?
theorem Turned.start (L:List Kv):Turned L L 0:=⟨rfl,fun k hk=>by rw [if_neg (by omega)]⟩
theorem Turned.done {L M:List Kv} {i:Nat} (h:Turned L M i) (hi:L.length<=2 * i+1):M=L.reverse:=by
 refine List.ext_getElem? fun k=>?_;by_cases hk:k < L.length
 · rw [h.2 k hk,List.getElem?_reverse hk]
   split
   · rfl
   rename_i hn
   congr 1;omega
 rw [List.getElem?_eq_none (by rw [h.1];omega),List.getElem?_eq_none (by simp;omega)]
theorem Turned.next {L M:List Kv} {i j:Nat} (h:Turned L M i) (hij:i+j+1=L.length) (hlt:i < j) {x y:Kv} (hx:L[i]? = some x) (hy:L[j]? = some y):Turned L ((M.set i y).set j x) (i+1):=by
 refine ⟨by simp [h.1],fun k hk=>?_⟩;have hM:=h.1;by_cases hkj:k=j
 · subst hkj
   rw [List.getElem?_set_self (by simp;omega),if_pos (by omega),show L.length - 1 - k=i by omega,hx]
 rw [List.getElem?_set_ne (fun e=>hkj e.symm)]
 by_cases hki:k=i
 · subst hki
   rw [List.getElem?_set_self (by omega),if_pos (by omega),show L.length - 1 - k=j by omega,hy]
 rw [List.getElem?_set_ne (fun e=>hki e.symm),h.2 k hk]
 by_cases hc:k < i\/L.length - i<=k
 · rw [if_pos hc,if_pos (by omega)]
 rw [if_neg hc,if_neg (by omega)]
theorem Turned.at {L M:List Kv} {i k:Nat} (h:Turned L M i) (h1:i<=k) (h2:k+i < L.length):M[k]? = L[k]?:=by rw [h.2 k (by omega),if_neg (by omega)]
set_option maxHeartbeats 4000000 in
theorem zji (w:World) (v:Value) (L:List Kv) (hv:SlF w 57 6 kvC v L) (hl:L.length<=1099511627) :
 Calls Try.prog 107 #[v] w fun e w'=>(∃ u,e = .returned u)/\SlF w' 57 6 kvC v L.reverse/\Fr (fun b=>v.ownBlock=some b) w w':=by
 obtain ⟨a,cap,rfl,hc1,hc2,ha⟩:=hv.shape;rcases Nat.eq_zero_or_pos L.length with h0 | hp
 · obtain rfl:=List.eq_nil_of_length_eq_zero h0
   have HV:=H_ hv;clear hv ha;go_enter Try.func107,Try.ntmps107;go_wp2
   go_loopg [2,3] 0 (fun g s2 s3 wr=>g=0/\s2 = .int .i64 0/\s3 = .int .i64 (-1)/\w=wr)
   case atStart=>exact ⟨rfl,rfl,rfl,rfl⟩
   case round =>
    obtain ⟨rfl,rfl,rfl,rfl⟩:=hrel;go_wp2;refine bodyPost_end (results_none rfl _ _ _) rfl ?_;exact ⟨⟨_,rfl⟩,HV.out,Fr.refl _ w⟩
 obtain ⟨gb,go,rfl⟩:=ha hp
 have HV:=H_ hv;clear hv;go_enter Try.func107,Try.ntmps107;go_wp2
 go_loopg [2,3] L.length (fun g s2 s3 wr=>∃ (i j:Nat) (M:List Kv),s2 = .int .i64 i/\s3 = .int .i64 j/\i+j+1=L.length/\i<=j+1/\i+g=L.length/\Hid (Turned L M i)/\Hid (SlF wr 57 6 kvC (.slice (some ⟨gb,go,none⟩) L.length cap) M)/\Hid (Fr (fun b=>b=gb) w wr))
 case atStart=>exact ⟨0,L.length - 1,L,rfl,by go_num,by omega,by omega,by omega,H_ (Turned.start L),HV,H_ (Fr.refl _ w)⟩
 case round =>
  obtain ⟨i,j,M,rfl,rfl,hij,hle,hi,HT,HS,HF⟩:=hrel;by_cases hlt:i < j
  · cases gk with
    | zero=>omega
    | succ g =>
      have hlt':(i:Int) < (j:Int):=(by omega);have hiL:(i:Int) < (L.length:Int):=(by omega);have hjL:(j:Int) < (L.length:Int):=(by omega);obtain ⟨x,hx⟩:∃ x,L[i]? = some x:=⟨_,List.getElem?_eq_getElem (by omega)⟩;obtain ⟨y,hy⟩:∃ y,L[j]? = some y:=⟨_,List.getElem?_eq_getElem (by omega)⟩;have hMx:=(HT.out.at (k:=i) (by omega) (by omega)).trans hx;have hMy:=(HT.out.at (k:=j) (by omega) (by omega)).trans hy;have hsl:SlF wr 57 6 kvC (.slice (some ⟨gb,go,none⟩) M.length cap) M:=(by rw [HT.out.1];exact HS.out);have lgb:gb < wr.heap.size:=hsl.lt gb rfl;obtain ⟨x1,x2,x3,x4,x5,x6⟩:=x;obtain ⟨y1,y2,y3,y4,y5,y6⟩:=y;have u0:=hsl.cell0 zag i hMx rfl;have u1:=hsl.cell zag i 1 hMx rfl;have u2:=hsl.cell zag i 2 hMx rfl;have u3:=hsl.cell zag i 3 hMx rfl;have u4:=hsl.cell zag i 4 hMx rfl
      have u5:=hsl.cell zag i 5 hMx rfl;have v0:=hsl.cell0 zag j hMy rfl;have v1:=hsl.cell zag j 1 hMy rfl;have v2:=hsl.cell zag j 2 hMy rfl;have v3:=hsl.cell zag j 3 hMy rfl;have v4:=hsl.cell zag j 4 hMy rfl;have v5:=hsl.cell zag j 5 hMy rfl;have hfz:∀ k,wr.frozen? ⟨gb,k,none⟩=false:=fun k=>hsl.free k;have s1:=znq hsl i hMx ⟨y1,y2,y3,y4,y5,y6⟩;have s2:=znq (L:=M.set i ⟨y1,y2,y3,y4,y5,y6⟩) (by rw [List.length_set];exact s1) j (x:=⟨y1,y2,y3,y4,y5,y6⟩) (by rw [List.getElem?_set_ne (by omega)];exact hMy) ⟨x1,x2,x3,x4,x5,x6⟩;have hfr:=znr (znr HF.out gb (go+i * 6) ⟨y1,y2,y3,y4,y5,y6⟩ rfl) gb (go+j * 6) ⟨x1,x2,x3,x4,x5,x6⟩ rfl;have HN:=H_ (HT.out.next hij hlt hx hy);rw [List.length_set,HT.out.1] at s2;have HS2:=H_ s2;have HFR:=H_ hfr;clear hx hy hMx hMy hsl s1 s2 hfr;unfold layKv at HS2 HFR
      dsimp only at HS2 HFR;go_wp2_with fail
      go_region
      go_wp2;go_roundg g
      case rel=>exact ⟨i+1,j - 1,_,by go_num,by go_num,by omega,by omega,by omega,HN,H_ HS2.out.drew,H_ HFR.out.drew⟩
      case measure=>omega
  have hlt':¬ (i:Int) < (j:Int):=by omega
  go_wp2;refine bodyPost_end (results_none rfl _ _ _) rfl ?_;exact ⟨⟨_,rfl⟩,by rw [<-HT.out.done (by omega)];exact HS.out,HF.out.mono fun b _ h=>by rw [h];rfl⟩
def bareK (x:Kv):Kv:={ x with value:=ByteArray.empty }
def bareTo (i:Nat) (L:List Kv):List Kv:=(L.take i).map bareK++L.drop i
theorem zmu (L:List Kv):bareTo 0 L=L:=by simp [bareTo]
theorem zpc (L:List Kv) {i:Nat} (h:L.length<=i):bareTo i L=L.map bareK:=by
 unfold bareTo;rw [List.take_of_length_le h,List.drop_eq_nil_of_le h,List.append_nil]
theorem zdl (i:Nat) (L:List Kv):(bareTo i L).length=L.length:=by
 unfold bareTo;simp;omega
theorem zjb {i:Nat} {L:List Kv} {x:Kv} (h:L[i]? = some x):(bareTo i L)[i]? = some x:=by
 have hi:=(List.getElem?_eq_some_iff.1 h).1;unfold bareTo;rw [List.getElem?_append_right (by simp;omega)];simp only [List.length_map,List.length_take,List.getElem?_drop];rw [Nat.min_eq_left (by omega),show i+(i - i)=i by omega];exact h
theorem zmv {i:Nat} {L:List Kv} {x:Kv} (h:L[i]? = some x):(bareTo i L).set i (bareK x)=bareTo (i+1) L:=by
 have hi:=(List.getElem?_eq_some_iff.1 h).1;unfold bareTo;rw [List.take_add_one,h,List.map_append,List.drop_eq_getElem_cons hi,List.set_append_right _ _ (by simp;omega)];have:i - ((L.take i).map bareK).length=0:=by simp;omega
 rw [this,List.set_cons_zero];simp
theorem zpb {w:World} {g o cap:Nat} {L:List Kv} {K i:Nat} {x:Kv} (h:SlF w 57 6 kvC (.slice (some ⟨g,o,none⟩) K cap) (bareTo i L)) (hK:L.length=K) (hx:L[i]? = some x) :
 SlF (w.setCell ⟨g,o+i * 6+1,none⟩ (.string ByteArray.empty)) 57 6 kvC (.slice (some ⟨g,o,none⟩) K cap) (bareTo (i+1) L):=by
 subst hK;rw [<-zdl i L] at h;have h2:=h.set zag i 1 (by omega) x (bareK x) (.string ByteArray.empty) (zjb hx) rfl;rw [zmv hx,zdl] at h2;exact h2
def keyTo (b:Bool) (i:Nat) (L:List Kv):List Kv:=if b then bareTo i L else L
theorem zot (b:Bool) (L:List Kv):keyTo b 0 L=L:=by cases b with
 | false=>rfl
 | true=>exact zmu L
theorem zhs (b:Bool) (L:List Kv) {i:Nat} (h:L.length<=i):keyTo b i L=if b then L.map fun x=>{ x with value:=ByteArray.empty } else L:=by cases b with
 | false=>rfl
 | true=>exact zpc L h
set_option maxHeartbeats 8000000 in
theorem zld {TA:zan} {N:Nat} (hT:TreeOk TA N) {n:Nat} (hn:n<=1099511627) (w:World) (s:Nat) (S:St) (F:Nat->Prop) (hS:zaj TA w s S F) (hok:StOk n S) (hN:S.T.length<=1099511627) (g:Rg) (rev:Int)
 (hks:g.key.size<=1099511627776) :
 Calls Try.prog 66 #[.pointer (some ⟨s,0,none⟩),rgV g,.int .i64 rev] w fun e w'=>∃ v,e = .returned (.tuple #[v,.int .i64 (allL S g rev).length,.bool (moreB S g rev)])/\SlF w' 57 6 kvC v (getL S g rev)/\Fr No w w'/\(∀ b,v.ownBlock=some b->w.heap.size<=b):=by
 have hbl:(allL S g rev).length<=1099511627:=Nat.le_trans (List.length_filterMap_le _ _) (Nat.le_trans (List.length_filter_le _ _) hN);have hb:=fun W (hW:Fr No w W)=>zfh hT hn W s S F (hS.fr0 hT hW) hok hN g.key g.end_ (revOf g rev) hks;have hal:zat S g.key g.end_ (revOf g rev)=allL S g rev:=rfl;rw [hal] at hb
 have hgl:getL S g rev=if g.count then [] else keyTo g.keys (allL S g rev).length (cutL g (moreB S g rev) (if g.desc then (allL S g rev).reverse else allL S g rev)):=by
  have hl:(cutL g (moreB S g rev) (if g.desc then (allL S g rev).reverse else allL S g rev)).length<=(allL S g rev).length:=by
   unfold cutL
   split
   · rw [List.length_take];split
     · rw [List.length_reverse];omega
     omega
   split
   · rw [List.length_reverse];omega
   omega
  rw [zhs _ _ hl]
  rfl
 have hmo:moreB S g rev=(!g.count && decide (0 < g.limit) && decide (g.limit < (allL S g rev).length)):=rfl;have hrv:revOf g rev=if g.rev≠0 then g.rev else rev:=rfl;have hcu:∀ m l,cutL g m l=if m then l.take g.limit.toNat else l:=fun _ _=>rfl;rw [hgl];generalize hR:(if g.count then [] else keyTo g.keys (allL S g rev).length (cutL g (moreB S g rev) (if g.desc then (allL S g rev).reverse else allL S g rev)))=R at *;generalize allL S g rev=l at *;generalize moreB S g rev=mo at *;generalize revOf g rev=rv at *;generalize cutL g=cu at *;obtain ⟨g1,g2,g3,g4,g5,g6,g7⟩:=g;unfold rgV;dsimp only at *;have HB:=H_ hb;have HMO:=H_ hmo;have HRV:=H_ hrv;have HCU:=H_ hcu;have HR:=H_ hR;clear hb hgl hmo hrv hcu hal hS hR
 have hb1:=zac w (Obj.cells #[.string g1,.string g2,.int .i64 g3,.int .i64 g4,.bool g5,.bool g6,.bool g7] 38) _ rfl;have hf1:Fr No w (w.alloc (Obj.cells #[.string g1,.string g2,.int .i64 g3,.int .i64 g4,.bool g5,.bool g6,.bool g7] 38)):=(Fr.refl No w).alloc _;have HB1:=H_ hb1;have HF1:=H_ hf1;clear hb1 hf1;go_enter Try.func66,Try.ntmps66;go_upto_if 15 with fail;generalize w.alloc (Obj.cells #[.string g1,.string g2,.int .i64 g3,.int .i64 g4,.bool g5,.bool g6,.bool g7] 38)=W1 at *;have hws:w.heap.size < W1.heap.size:=zab HB1.out;have hb1:=HB1.out;have b0:=cellAt hb1 0 rfl;have b1:=cellAt hb1 1 rfl;have b2:=cellAt hb1 2 rfl;have b3:=cellAt hb1 3 rfl;have b4:=cellAt hb1 4 rfl;have b5:=cellAt hb1 5 rfl;have b6:=cellAt hb1 6 rfl
 go_cut [2] (fun s2 wx=>s2 = .int .i64 rv/\wx=W1)
 case first =>
  by_cases hz:g3=0
  · have hz':(g3 != 0)=false:=by rw [hz];rfl
    have hr:rv=rev:=(by rw [HRV.out,if_neg (by simp [hz])]);go_wp2;go_meet
    case rel=>exact ⟨by first | rfl | rw [hr],rfl⟩
  have hz':(g3 != 0)=true:=by rw [bne_iff_ne];exact hz
  have hr:rv=g3:=(by rw [HRV.out,if_pos hz]);go_wp2;go_meet
  case rel=>exact ⟨by first | rfl | rw [hr],rfl⟩
 case rest =>
  obtain ⟨rfl,rfl⟩:=hcut;go_upto_region 4 with (go_at_call 77;refine (HB.out _ HF1.out).mono ?_;rintro e w1 ⟨v,rfl,hv,hfv,hvn⟩);obtain ⟨va,vcap,rfl,hc1,hc2,hva⟩:=hv.shape;have hbw:=hfv.heap HB1.out id;have HV:=H_ hv;have HBW:=H_ hbw;have HFV:=H_ (HF1.out.trans0 hfv);have HVX:Hid (¬ (Value.slice va l.length vcap).ownBlock=some w.heap.size):=H_ (fun h=>by have:=hvn _ h;omega);have HVN:Hid (∀ b,(Value.slice va l.length vcap).ownBlock=some b->w.heap.size<=b):=H_ (fun b hb=>by have:=hvn b hb;omega);clear hv hfv hvn b0 b1 b2 b3 b4 b5 b6 hb1;have b0:=cellAt hbw 0 rfl;have b1:=cellAt hbw 1 rfl;have b2:=cellAt hbw 2 rfl;have b3:=cellAt hbw 3 rfl;have b4:=cellAt hbw 4 rfl;have b5:=cellAt hbw 5 rfl;have b6:=cellAt hbw 6 rfl;have lbw:=zab hbw;clear hbw;go_upto_if 28 with fail
  cases g6 with
  | true =>
    have hm:mo=false:=HMO.out;go_wp2;go_ret3;exact ⟨_,by first | rfl | (rw [hm];rfl),by rw [<-HR.out];exact SlF.nil _ _ _ _,HFV.out,by simp [Value.ownBlock]⟩
  | false =>
    go_upto_if 31 with fail
    go_cut [33] (fun _ wx=>Hid (SlF wx 57 6 kvC (.slice va l.length vcap) (if g7 then l.reverse else l))/\Hid (Fr (fun b=>(Value.slice va l.length vcap).ownBlock=some b) w1 wx))
    case first =>
     cases g7 with
     | false =>
       go_wp2;go_meet
       case rel=>exact ⟨HV,H_ (Fr.refl _ _)⟩
     | true =>
       go_wp2_with (go_at_call 107;refine (zji _ _ _ HV.out hbl).mono ?_;rintro e w2 ⟨⟨u,rfl⟩,hv2,hf3⟩);go_meet
       case rel=>exact ⟨H_ hv2,H_ hf3⟩
    case rest =>
     obtain ⟨HV2,HF2⟩:=hcut;have hb2:=HF2.out.heap HBW.out HVX.out;have lb2:=zab hb2;clear b0 b1 b2 b3 b4 b5 b6 lbw;have b0:=cellAt hb2 0 rfl;have b1:=cellAt hb2 1 rfl;have b2:=cellAt hb2 2 rfl;have b3:=cellAt hb2 3 rfl;have b4:=cellAt hb2 4 rfl;have b5:=cellAt hb2 5 rfl;have b6:=cellAt hb2 6 rfl;have HB2:=H_ hb2;clear hb2;have hR2:=HR.out;generalize hM:(if g7 then l.reverse else l)=M at *;have HR2:=H_ hR2;clear hR2;have hML:M.length=l.length:=(by rw [<-hM];split <;> simp);clear hM;generalize wc=W2 at *;go_upto_region 9 with fail
     go_cut [11] (fun s11 wx=>s11 = .bool mo/\wx=W2)
     case first =>
      by_cases h1:0 < g4
      · have h1':decide (g4 > 0)=true:=decide_eq_true h1
        by_cases h2:g4 < (l.length:Int)
        · have h2':decide (g4 < (l.length:Int))=true:=decide_eq_true h2
          have hm:mo=true:=(by rw [HMO.out,h2',decide_eq_true h1];rfl);go_wp2;go_meet
          case rel=>exact ⟨by first | rfl | rw [hm],rfl⟩
        have h2':decide (g4 < (l.length:Int))=false:=decide_eq_false h2
        have hm:mo=false:=(by rw [HMO.out,h2'];simp);go_wp2;go_meet
        case rel=>exact ⟨by first | rfl | rw [hm],rfl⟩
      have h1':decide (g4 > 0)=false:=decide_eq_false h1
      have hm:mo=false:=(by rw [HMO.out,decide_eq_false h1];rfl);go_wp2;go_meet
      case rel=>exact ⟨by first | rfl | rw [hm],rfl⟩
     case rest =>
      obtain ⟨rfl,rfl⟩:=hcut;go_upto_if 43 with fail
      go_cut [9] (fun s9 wx=>∃ a c,s9 = .slice a (cu mo M).length c/\Hid (SlF wx 57 6 kvC (.slice a (cu mo M).length c) (cu mo M))/\Hid (∀ b,(Value.slice a (cu mo M).length c).ownBlock=some b->w.heap.size<=b/\b≠w.heap.size)/\wx=wc)
      case first =>
       cases mo with
       | false =>
         have hcl:cu false M=M:=HCU.out false M;go_wp2;go_meet
         case rel =>
          rw [hcl,hML];exact ⟨va,vcap,rfl,HV2,H_ fun b hb=>⟨HVN.out b hb,fun e=>HVX.out (e ▸ hb)⟩,rfl⟩
       | true =>
         have hcl:cu true M=M.take g4.toNat:=HCU.out true M;have h12:0 < g4/\g4 < (l.length:Int):=(by have:=HMO.out;simpa using this.symm);obtain ⟨k,rfl⟩:∃ k:Nat,g4=k:=⟨g4.toNat,by omega⟩;have hkl:k<=l.length:=(by omega);have hcap:(k:Int)<=(vcap:Int):=(by omega);obtain ⟨ga,go,rfl⟩:=hva (by omega);go_wp2;go_meet
         case rel =>
          rw [hcl];have hlen:(M.take ((k:Int).toNat)).length=k:=(by rw [List.length_take];omega);rw [hlen];have h3:=HV2.out;rw [<-hML] at h3;exact ⟨some ⟨ga,go,none⟩,vcap,rfl,H_ (h3.take zag k (by omega)),H_ fun b hb=>⟨HVN.out b hb,fun e=>HVX.out (e ▸ hb)⟩,rfl⟩
      case rest =>
       obtain ⟨a9,c9,rfl,HV9,HN9,rfl⟩:=hcut
       have hKl:(cu mo M).length<=l.length:=by
        rw [HCU.out];split
        · rw [List.length_take];omega
        omega
       have hR3:=HR2.out;generalize cu mo M=K at *;have HR3:=H_ hR3;clear hR3;go_wp2
       go_loopg [50] K.length (fun g s50 wr=>∃ i:Nat,s50 = .int .i64 i/\i+g=K.length/\Hid (SlF wr 57 6 kvC (.slice a9 K.length c9) (keyTo g5 i K))/\Hid (Fr (fun b=>(Value.slice a9 K.length c9).ownBlock=some b) wc wr))
       case atStart=>exact ⟨0,rfl,by omega,by rw [zot];exact HV9,H_ (Fr.refl _ _)⟩
       case round =>
        obtain ⟨i,rfl,hi,HK,HFK⟩:=hrel
        cases gk with
        | zero =>
          have hil:¬ (i:Int) < (K.length:Int):=(by omega);go_wp2;go_ret3;refine ⟨_,rfl,?_,(HFV.out.trans HF2.out fun b hb h=>?_).trans HFK.out fun b hb h=>?_,fun b hb=>(HN9.out b hb).1⟩
          · rw [<-HR3.out,if_neg (by simp),zhs _ _ (show K.length<=l.length by omega),<-zhs _ _ (show K.length<=i by omega)]
            exact HK.out
          · have:=HVN.out b h;omega
          have:=(HN9.out b h).1;omega
        | succ g =>
          have hil:(i:Int) < (K.length:Int):=(by omega);have hbr:=HFK.out.heap HB2.out fun h=>(HN9.out _ h).2 rfl;have z4:=cellAt hbr 4 rfl;have lz:=zab hbr
          cases g5 with
          | false =>
            go_wp2;go_roundg g
            case rel=>exact ⟨i+1,by go_num,by omega,HK,HFK⟩
            case measure=>omega
          | true =>
            obtain ⟨ga,go,rfl⟩:∃ ga go,a9=some ⟨ga,go,none⟩:=by
             obtain ⟨a,c,h1,_,_,h4⟩:=HV9.out.shape;cases h1
             exact h4 (by omega)
            obtain ⟨x,hx⟩:∃ x,K[i]? = some x:=⟨_,List.getElem?_eq_getElem (by omega)⟩;have hkk:SlF wr 57 6 kvC (.slice (some ⟨ga,go,none⟩) K.length c9) (bareTo i K):=HK.out;have hset:=zpb hkk rfl hx;have hkk2:=hkk;rw [<-zdl i K] at hkk2;have f1:=hkk2.cell zag i 1 (zjb hx) rfl;have ff:=hkk2.free (go+i * 6+1);have lf:=World.block_lt_of_cell? _ _ f1;have HSET:=H_ hset;have hst:Fr (fun b=>(Value.slice (some ⟨ga,go,none⟩) K.length c9).ownBlock=some b) wc (wr.setCell ⟨ga,go+i * 6+1,none⟩ (.string ByteArray.empty)):=HFK.out.setCell (p:=⟨ga,go+i * 6+1,none⟩) (.inl rfl) _;have HST:=H_ hst;clear hset hkk hkk2 hst hx;go_wp2;go_roundg g
            case rel=>exact ⟨i+1,by go_num,by omega,HSET,HST⟩
            case measure=>omega
end Go.Proofs.Ythljnnjpmdgkoaa