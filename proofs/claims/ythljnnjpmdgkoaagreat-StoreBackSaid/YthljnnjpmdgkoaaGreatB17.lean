/- Own lemmas and contracts that the claim's proof needs, laid together. The conditions stand in each. -/
import Derived.Test.YthljnnjpmdgkoaaGreatB16
import Derived.Test.YthljnnjpmdgkoaaGreatB13
import Derived.Test.YthljnnjpmdgkoaaGreatB15
import Derived.BigRegion
import Derived.Deep.DeepCutAuto
namespace Go.Proofs.YthljnnjpmdgkoaaGreat
open Go Go.Proofs Go.RowKit
set_option maxRecDepth 100000
theorem info90:(Tryz.prog.info? 97).map (fun i=>(i.zero,i.size,i.bytes))=some (some (.agg #[.int .i64 0,.slice none 0 0,.int .i64 0,.bool false]),4,48):=by kernel_rfl
structure LoopR (TA:zar) (w0 w:World) (s sb vb:Nat) (F0:Nat->Prop) (r:Run) (F:Nat->Prop) (ev out:Value) (Z:List (Ans × Value)):Prop where
 fr:Fr F0 w0 w
 store:zak TA w s r.S F
 box:Has w sb [.pointer (some ⟨s,0,none⟩)]
 evs:Has w vb [ev]
 evl:SlF w 101 13 evC ev r.E
 ans:AnsR w out Z
 eqs:Z.map (·.1)=r.A
 new:∀ b,F b->F0 b\/w0.heap.size<=b
 old:∀ b,F0 b->b < w0.heap.size
 sbn:w0.heap.size<=sb
 vbn:w0.heap.size<=vb
 evn:∀ b,ev.ownBlock=some b->w0.heap.size<=b
 ann:∀ b,ansF out Z b->w0.heap.size<=b
 f1:¬ F sb
 f2:¬ F vb
 f4:∀ b,ev.ownBlock=some b->¬ F b
 f5:∀ b,ansF out Z b->¬ F b
 n1:sb≠vb
 e1:ev.ownBlock≠some sb
 e2:ev.ownBlock≠some vb
 k1:¬ ansF out Z sb
 k2:¬ ansF out Z vb
 ek:∀ b,ev.ownBlock=some b->¬ ansF out Z b
theorem ztq {v:Value} {Z:List (Ans × Value)} {a:Ans} {kv:Value} {b:Nat} (h:ansF v (Z++[(a,kv)]) b):v.ownBlock=some b\/(∃ (i:Nat) (q:Ans × Value),Z[i]? = some q/\q.2.ownBlock=some b)\/kv.ownBlock=some b:=by
 rcases h with h | ⟨i,q,hq,h⟩
 · exact .inl h
 by_cases hi:i < Z.length
 · rw [List.getElem?_append_left hi] at hq
   exact .inr (.inl ⟨i,q,hq,h⟩)
 rw [List.getElem?_append_right (by omega)] at hq
 have h0:i - Z.length=0:=by
  have:=(List.getElem?_eq_some_iff.1 hq).1;simp at this;omega
 rw [h0] at hq;simp at hq;subst hq;exact .inr (.inr h)
theorem LoopR.next {TA:zar} {N:Nat} (hT:TreeOk TA N) {w0 wr w5 w6:World} {s sb vb:Nat} {F0 F F':Nat->Prop} {r:Run} {ev out ev' out' kv:Value} {Z:List (Ans × Value)} {S':St} {E':List Ev} {a:Ans} {X:Nat->Prop}
 (hl:LoopR TA w0 wr s sb vb F0 r F ev out Z) (hS:zak TA w5 s S' F') (hbox:Has w5 sb [.pointer (some ⟨s,0,none⟩)]) (hevs:Has w5 vb [ev']) (hevl:SlF w5 101 13 evC ev' E') (hkv:SlF w5 99 6 kvC kv a.kvs)
 (hf:Fr X wr w5) (hX:∀ b,b < wr.heap.size->X b->F b\/b=vb\/ev.ownBlock=some b) (hF':∀ b,F' b->F b\/wr.heap.size<=b) (hev':∀ b,ev'.ownBlock=some b->ev.ownBlock=some b\/wr.heap.size<=b)
 (hkv':∀ b,kv.ownBlock=some b->wr.heap.size<=b) (d1:∀ b,ev'.ownBlock=some b->¬ F' b) (d2:∀ b,kv.ownBlock=some b->¬ F' b) (d3:∀ b,ev'.ownBlock=some b->kv.ownBlock≠some b)
 (hf6:Fr (fun b=>out.ownBlock=some b) w5 w6) (hs6:SlF w6 97 4 ansC out' (Z++[(a,kv)])) (hn6:∀ b,out'.ownBlock=some b->out.ownBlock=some b\/w5.heap.size<=b) :
 LoopR TA w0 w6 s sb vb F0 ⟨S',r.A++[a],E'⟩ F' ev' out' (Z++[(a,kv)]):=by
 have lF:=hl.store.lt hT;have lF':=hS.lt hT;have lA:=hl.ans.lt;have lev':=hevl.lt;have lkv:=hkv.lt;have lsb:=hl.box.lt;have lvb:=hl.evs.lt;have hsz:=hf.size;have hsz0:=hl.fr.size
 have nout:∀ b,out.ownBlock=some b->¬ F' b:=fun b hb h=>by
  rcases hF' b h with h1 | h1
  · exact hl.f5 b (.inl hb) h1
  have:=lA b (.inl hb);omega
 have kvout:∀ b,kv.ownBlock=some b->out.ownBlock≠some b:=fun b hb h=>by
  have:=lA b (.inl h);have:=hkv' b hb;omega
 have evout:∀ b,ev'.ownBlock=some b->¬ ansF out Z b:=fun b hb h=>by
  rcases hev' b hb with h1 | h1
  · exact hl.ek b h1 h
  have:=lA b h;omega
 -- what the answers' blocks are
 have split:∀ b,ansF out' (Z++[(a,kv)]) b->ansF out Z b\/w5.heap.size<=b\/kv.ownBlock=some b:=fun b h=>by
  rcases ztq h with h | h | h
  · rcases hn6 b h with h | h
    · exact .inl (.inl h)
    exact .inr (.inl h)
  · exact .inl (.inr h)
  exact .inr (.inr h)
 have hfr:Fr F0 w0 w6:=by
  refine (hl.fr.trans (hf.mono (T:=fun b=>F b\/b=vb\/ev.ownBlock=some b) hX) fun b hb h=>?_).trans hf6 fun b hb h=>?_
  · rcases h with h | h | h
    · rcases hl.new b h with h | h
      · exact h
      omega
    · have:=hl.vbn;omega
    have:=hl.evn b h;omega
  have:=hl.ann b (.inl h);omega
 exact {
  fr:=hfr
  store:=hS.fr hT hf6 fun b hb h=>nout b h hb
  box:=hbox.fr hf6 fun h=>hl.k1 (.inl h)
  evs:=hevs.fr hf6 fun h=>hl.k2 (.inl h)
  evl:=hevl.fr hf6 fun b hb h=>evout b hb (.inl h)
  ans:=(hl.ans.fr (hf.mono hX) fun b hb h=>by
   rcases h with h | h | h
   · exact hl.f5 b hb h
   · exact hl.k2 (h ▸ hb)
   exact hl.ek b h hb).snoc hf6 hs6 hkv kvout hn6
  eqs:=by rw [List.map_append,hl.eqs];rfl
  new:=fun b h=>by
   rcases hF' b h with h | h
   · exact hl.new b h
   exact .inr (by omega)
  old:=hl.old
  sbn:=hl.sbn
  vbn:=hl.vbn
  evn:=fun b h=>by
   rcases hev' b h with h | h
   · exact hl.evn b h
   omega
  ann:=fun b h=>by
   rcases split b h with h | h | h
   · exact hl.ann b h
   · omega
   have:=hkv' b h;omega
  f1:=fun h=>by
   rcases hF' _ h with h | h
   · exact hl.f1 h
   omega
  f2:=fun h=>by
   rcases hF' _ h with h | h
   · exact hl.f2 h
   omega
  f4:=d1
  f5:=fun b h hF=>by
   rcases split b h with h | h | h
   · rcases hF' b hF with h1 | h1
     · exact hl.f5 b h h1
     have:=lA b h;omega
   · have:=lF' b hF;omega
   exact d2 b h hF
  n1:=hl.n1
  e1:=fun h=>by
   rcases hev' _ h with h | h
   · exact hl.e1 h
   omega
  e2:=fun h=>by
   rcases hev' _ h with h | h
   · exact hl.e2 h
   omega
  k1:=fun h=>by
   rcases split _ h with h | h | h
   · exact hl.k1 h
   · omega
   have:=hkv' _ h;omega
  k2:=fun h=>by
   rcases split _ h with h | h | h
   · exact hl.k2 h
   · omega
   have:=hkv' _ h;omega
  ek:=fun b h h'=>by
   rcases split b h' with h' | h' | h'
   · exact evout b h h'
   · have:=lev' b h;omega
   exact d3 b h h' }
def layKv (w:World) (g o:Nat) (y:Kv):World :=
 (((((w.setCell ⟨g,o,none⟩ (.string y.key)).setCell ⟨g,o+1,none⟩ (.string y.value)).setCell ⟨g,o+2,none⟩ (.int .i64 y.create)).setCell ⟨g,o+3,none⟩ (.int .i64 y.mod)).setCell ⟨g,o+4,none⟩ (.int .i64 y.version)).setCell ⟨g,o+5,none⟩ (.int .i64 y.lease)
theorem zph {w:World} {g o cap:Nat} {L:List Kv} (h:SlF w 99 6 kvC (.slice (some ⟨g,o,none⟩) L.length cap) L) (i:Nat) {x:Kv} (hx:L[i]? = some x) (y:Kv) :
 SlF (layKv w g (o+i * 6) y) 99 6 kvC (.slice (some ⟨g,o,none⟩) L.length cap) (L.set i y):=by
 have hi:=(List.getElem?_eq_some_iff.1 hx).1
 have step:∀ {w:World} {M:List Kv} {z:Kv} (j:Nat) (u:Value) (z':Kv),j < 6->M.length=L.length->SlF w 99 6 kvC (.slice (some ⟨g,o,none⟩) L.length cap) M->M[i]? = some z->kvC z'=(kvC z).set j u →
  SlF (w.setCell ⟨g,o+i * 6+j,none⟩ u) 99 6 kvC (.slice (some ⟨g,o,none⟩) L.length cap) (M.set i z'):=by
  intro w M z j u z' hj hM hs hz he;rw [<-hM] at hs ⊢
  exact hs.set zai i j hj z z' u hz he
 have s0:=step 0 (.string y.key) ({ x with key:=y.key }) (by omega) rfl h hx rfl;have s1:=step (z:={ x with key:=y.key }) 1 (.string y.value) ({ x with key:=y.key,value:=y.value }) (by omega) (by simp) s0 (by simp [hi]) rfl;have s2:=step (z:={ x with key:=y.key,value:=y.value }) 2 (.int .i64 y.create) ({ x with key:=y.key,value:=y.value,create:=y.create }) (by omega) (by simp) s1 (by simp [hi]) rfl;have s3:=step (z:={ x with key:=y.key,value:=y.value,create:=y.create }) 3 (.int .i64 y.mod) ({ x with key:=y.key,value:=y.value,create:=y.create,mod:=y.mod }) (by omega) (by simp) s2 (by simp [hi]) rfl
 have s4:=step (z:={ x with key:=y.key,value:=y.value,create:=y.create,mod:=y.mod }) 4 (.int .i64 y.version) ({ x with key:=y.key,value:=y.value,create:=y.create,mod:=y.mod,version:=y.version }) (by omega) (by simp) s3 (by simp [hi]) rfl;have s5:=step (z:={ x with key:=y.key,value:=y.value,create:=y.create,mod:=y.mod,version:=y.version }) 5 (.int .i64 y.lease) (y) (by omega) (by simp) s4 (by simp [hi]) rfl;simpa [layKv,List.set_set] using s5
theorem zpi {S:Nat->Prop} {a w:World} (h:Fr S a w) (g o:Nat) (y:Kv) (hg:S g):Fr S a (layKv w g o y):=by
 unfold layKv;exact (((((h.setCell (.inl hg) _).setCell (.inl hg) _).setCell (.inl hg) _).setCell (.inl hg) _).setCell (.inl hg) _).setCell (.inl hg) _
def Turned (L M:List Kv) (i:Nat):Prop:=M.length=L.length/\∀ k,k < L.length->M[k]? = if k < i\/L.length - i<=k then L[L.length - 1 - k]? else L[k]?
theorem Turned.start (L:List Kv):Turned L L 0:=⟨rfl,fun k hk=>by rw [if_neg (by omega)]⟩
theorem Turned.done {L M:List Kv} {i:Nat} (h:Turned L M i) (hi:L.length<=2 * i+1):M=L.reverse:=by
 refine List.ext_getElem? fun k=>?_;by_cases hk:k < L.length
 · rw [h.2 k hk,List.getElem?_reverse hk]
   split
   · rfl
   rename_i hn
   congr 1;omega
 rw [List.getElem?_eq_none (by rw [h.1];omega),List.getElem?_eq_none (by simp;omega)]
theorem Turned.next {L M:List Kv} {i j:Nat} (h:Turned L M i) (hij:i+j+1=L.length) (hlt:i < j) {x y:Kv} (hx:L[i]? = some x) (hy:L[j]? = some y):Turned L ((M.set i y).set j x) (i+1):=by
 refine ⟨by simp [h.1],fun k hk=>?_⟩;have hM:=h.1;by_cases hkj:k=j
 · subst hkj
   rw [List.getElem?_set_self (by simp;omega),if_pos (by omega),show L.length - 1 - k=i by omega,hx]
 rw [List.getElem?_set_ne (fun e=>hkj e.symm)]
 by_cases hki:k=i
 · subst hki
   rw [List.getElem?_set_self (by omega),if_pos (by omega),show L.length - 1 - k=j by omega,hy]
 rw [List.getElem?_set_ne (fun e=>hki e.symm),h.2 k hk]
 by_cases hc:k < i\/L.length - i<=k
 · rw [if_pos hc,if_pos (by omega)]
 rw [if_neg hc,if_neg (by omega)]
theorem Turned.at {L M:List Kv} {i k:Nat} (h:Turned L M i) (h1:i<=k) (h2:k+i < L.length):M[k]? = L[k]?:=by rw [h.2 k (by omega),if_neg (by omega)]
set_option maxHeartbeats 4000000 in
theorem zjz (w:World) (v:Value) (L:List Kv) (hv:SlF w 99 6 kvC v L) (hl:L.length<=1099511627) :
 Calls Tryz.prog 132 #[v] w fun e w'=>(∃ u,e = .returned u)/\SlF w' 99 6 kvC v L.reverse/\Fr (fun b=>v.ownBlock=some b) w w':=by
 obtain ⟨a,cap,rfl,hc1,hc2,ha⟩:=hv.shape;rcases Nat.eq_zero_or_pos L.length with h0 | hp
 · obtain rfl:=List.eq_nil_of_length_eq_zero h0
   have HV:=H_ hv;clear hv ha;go_enter Tryz.func132,Tryz.ntmps132;go_wp2
   go_loopg [2,3] 0 (fun g s2 s3 wr=>g=0/\s2 = .int .i64 0/\s3 = .int .i64 (-1)/\w=wr)
   case atStart=>exact ⟨rfl,rfl,rfl,rfl⟩
   case round =>
    obtain ⟨rfl,rfl,rfl,rfl⟩:=hrel;go_wp2;refine bodyPost_end (results_none rfl _ _ _) rfl ?_;exact ⟨⟨_,rfl⟩,HV.out,Fr.refl _ w⟩
 obtain ⟨gb,go,rfl⟩:=ha hp
 have HV:=H_ hv;clear hv;go_enter Tryz.func132,Tryz.ntmps132;go_wp2
 go_loopg [2,3] L.length (fun g s2 s3 wr=>∃ (i j:Nat) (M:List Kv),s2 = .int .i64 i/\s3 = .int .i64 j/\i+j+1=L.length/\i<=j+1/\i+g=L.length/\Hid (Turned L M i)/\Hid (SlF wr 99 6 kvC (.slice (some ⟨gb,go,none⟩) L.length cap) M)/\Hid (Fr (fun b=>b=gb) w wr))
 case atStart=>exact ⟨0,L.length - 1,L,rfl,by go_num,by omega,by omega,by omega,H_ (Turned.start L),HV,H_ (Fr.refl _ w)⟩
 case round =>
  obtain ⟨i,j,M,rfl,rfl,hij,hle,hi,HT,HS,HF⟩:=hrel;by_cases hlt:i < j
  · cases gk with
    | zero=>omega
    | succ g =>
      have hlt':(i:Int) < (j:Int):=(by omega);have hiL:(i:Int) < (L.length:Int):=(by omega);have hjL:(j:Int) < (L.length:Int):=(by omega);obtain ⟨x,hx⟩:∃ x,L[i]? = some x:=⟨_,List.getElem?_eq_getElem (by omega)⟩;obtain ⟨y,hy⟩:∃ y,L[j]? = some y:=⟨_,List.getElem?_eq_getElem (by omega)⟩;have hMx:=(HT.out.at (k:=i) (by omega) (by omega)).trans hx;have hMy:=(HT.out.at (k:=j) (by omega) (by omega)).trans hy;have hsl:SlF wr 99 6 kvC (.slice (some ⟨gb,go,none⟩) M.length cap) M:=(by rw [HT.out.1];exact HS.out);have lgb:gb < wr.heap.size:=hsl.lt gb rfl;obtain ⟨x1,x2,x3,x4,x5,x6⟩:=x;obtain ⟨y1,y2,y3,y4,y5,y6⟩:=y;have u0:=hsl.cell0 zai i hMx rfl;have u1:=hsl.cell zai i 1 hMx rfl;have u2:=hsl.cell zai i 2 hMx rfl;have u3:=hsl.cell zai i 3 hMx rfl;have u4:=hsl.cell zai i 4 hMx rfl
      have u5:=hsl.cell zai i 5 hMx rfl;have v0:=hsl.cell0 zai j hMy rfl;have v1:=hsl.cell zai j 1 hMy rfl;have v2:=hsl.cell zai j 2 hMy rfl;have v3:=hsl.cell zai j 3 hMy rfl;have v4:=hsl.cell zai j 4 hMy rfl;have v5:=hsl.cell zai j 5 hMy rfl;have hfz:∀ k,wr.frozen? ⟨gb,k,none⟩=false:=fun k=>hsl.free k;have s1:=zph hsl i hMx ⟨y1,y2,y3,y4,y5,y6⟩;have s2:=zph (L:=M.set i ⟨y1,y2,y3,y4,y5,y6⟩) (by rw [List.length_set];exact s1) j (x:=⟨y1,y2,y3,y4,y5,y6⟩) (by rw [List.getElem?_set_ne (by omega)];exact hMy) ⟨x1,x2,x3,x4,x5,x6⟩;have hfr:=zpi (zpi HF.out gb (go+i * 6) ⟨y1,y2,y3,y4,y5,y6⟩ rfl) gb (go+j * 6) ⟨x1,x2,x3,x4,x5,x6⟩ rfl;have HN:=H_ (HT.out.next hij hlt hx hy);rw [List.length_set,HT.out.1] at s2;have HS2:=H_ s2;have HFR:=H_ hfr;clear hx hy hMx hMy hsl s1 s2 hfr;unfold layKv at HS2 HFR
      dsimp only at HS2 HFR;go_wp2_with fail
      go_region
      go_wp2;go_roundg g
      case rel=>exact ⟨i+1,j - 1,_,by go_num,by go_num,by omega,by omega,by omega,HN,H_ HS2.out.drew,H_ HFR.out.drew⟩
      case measure=>omega
  have hlt':¬ (i:Int) < (j:Int):=by omega
  go_wp2;refine bodyPost_end (results_none rfl _ _ _) rfl ?_;exact ⟨⟨_,rfl⟩,by rw [<-HT.out.done (by omega)];exact HS.out,HF.out.mono fun b _ h=>by rw [h];rfl⟩
def bareK (x:Kv):Kv:={ x with value:=ByteArray.empty }
def bareTo (i:Nat) (L:List Kv):List Kv:=(L.take i).map bareK++L.drop i
theorem zol (L:List Kv):bareTo 0 L=L:=by simp [bareTo]
theorem zra (L:List Kv) {i:Nat} (h:L.length<=i):bareTo i L=L.map bareK:=by
 unfold bareTo;rw [List.take_of_length_le h,List.drop_eq_nil_of_le h,List.append_nil]
theorem zeg (i:Nat) (L:List Kv):(bareTo i L).length=L.length:=by
 unfold bareTo;simp;omega
theorem zjs {i:Nat} {L:List Kv} {x:Kv} (h:L[i]? = some x):(bareTo i L)[i]? = some x:=by
 have hi:=(List.getElem?_eq_some_iff.1 h).1;unfold bareTo;rw [List.getElem?_append_right (by simp;omega)];simp only [List.length_map,List.length_take,List.getElem?_drop];rw [Nat.min_eq_left (by omega),show i+(i - i)=i by omega];exact h
theorem zom {i:Nat} {L:List Kv} {x:Kv} (h:L[i]? = some x):(bareTo i L).set i (bareK x)=bareTo (i+1) L:=by
 have hi:=(List.getElem?_eq_some_iff.1 h).1;unfold bareTo;rw [List.take_add_one,h,List.map_append,List.drop_eq_getElem_cons hi,List.set_append_right _ _ (by simp;omega)];have:i - ((L.take i).map bareK).length=0:=by simp;omega
 rw [this,List.set_cons_zero];simp
theorem zqz {w:World} {g o cap:Nat} {L:List Kv} {K i:Nat} {x:Kv} (h:SlF w 99 6 kvC (.slice (some ⟨g,o,none⟩) K cap) (bareTo i L)) (hK:L.length=K) (hx:L[i]? = some x) :
 SlF (w.setCell ⟨g,o+i * 6+1,none⟩ (.string ByteArray.empty)) 99 6 kvC (.slice (some ⟨g,o,none⟩) K cap) (bareTo (i+1) L):=by
 subst hK;rw [<-zeg i L] at h;have h2:=h.set zai i 1 (by omega) x (bareK x) (.string ByteArray.empty) (zjs hx) rfl;rw [zom hx,zeg] at h2;exact h2
def keyTo (b:Bool) (i:Nat) (L:List Kv):List Kv:=if b then bareTo i L else L
theorem zqo (b:Bool) (L:List Kv):keyTo b 0 L=L:=by cases b with
 | false=>rfl
 | true=>exact zol L
theorem zie (b:Bool) (L:List Kv) {i:Nat} (h:L.length<=i):keyTo b i L=if b then L.map fun x=>{ x with value:=ByteArray.empty } else L:=by cases b with
 | false=>rfl
 | true=>exact zra L h
set_option maxHeartbeats 8000000 in
theorem zgy {TA:zar} {N:Nat} (hT:TreeOk TA N) {n:Nat} (hn:n<=1099511627) (w:World) (s:Nat) (S:St) (F:Nat->Prop) (hS:zak TA w s S F) (hok:StOk n S) (hN:S.T.length<=1099511627) (g:Rg) (rev:Int)
 (hks:g.key.size<=1099511627776) :
 Calls Tryz.prog 89 #[.pointer (some ⟨s,0,none⟩),rgV g,.int .i64 rev] w fun e w'=>∃ v,e = .returned (.tuple #[v,.int .i64 (allL S g rev).length,.bool (moreB S g rev)])/\SlF w' 99 6 kvC v (getL S g rev)/\Fr No w w'/\(∀ b,v.ownBlock=some b->w.heap.size<=b):=by
 have hbl:(allL S g rev).length<=1099511627:=Nat.le_trans (List.length_filterMap_le _ _) (Nat.le_trans (List.length_filter_le _ _) hN);have hb:=fun W (hW:Fr No w W)=>zgj hT hn W s S F (hS.fr0 hT hW) hok hN g.key g.end_ (revOf g rev) hks;have hal:zba S g.key g.end_ (revOf g rev)=allL S g rev:=rfl;rw [hal] at hb
 have hgl:getL S g rev=if g.count then [] else keyTo g.keys (allL S g rev).length (cutL g (moreB S g rev) (if g.desc then (allL S g rev).reverse else allL S g rev)):=by
  have hl:(cutL g (moreB S g rev) (if g.desc then (allL S g rev).reverse else allL S g rev)).length<=(allL S g rev).length:=by
   unfold cutL
   split
   · rw [List.length_take];split
     · rw [List.length_reverse];omega
     omega
   split
   · rw [List.length_reverse];omega
   omega
  rw [zie _ _ hl]
  rfl
 have hmo:moreB S g rev=(!g.count && decide (0 < g.limit) && decide (g.limit < (allL S g rev).length)):=rfl;have hrv:revOf g rev=if g.rev≠0 then g.rev else rev:=rfl;have hcu:∀ m l,cutL g m l=if m then l.take g.limit.toNat else l:=fun _ _=>rfl;rw [hgl];generalize hR:(if g.count then [] else keyTo g.keys (allL S g rev).length (cutL g (moreB S g rev) (if g.desc then (allL S g rev).reverse else allL S g rev)))=R at *;generalize allL S g rev=l at *;generalize moreB S g rev=mo at *;generalize revOf g rev=rv at *;generalize cutL g=cu at *;obtain ⟨g1,g2,g3,g4,g5,g6,g7⟩:=g;unfold rgV;dsimp only at *;have HB:=H_ hb;have HMO:=H_ hmo;have HRV:=H_ hrv;have HCU:=H_ hcu;have HR:=H_ hR;clear hb hgl hmo hrv hcu hal hS hR
 have hb1:=zad w (Obj.cells #[.string g1,.string g2,.int .i64 g3,.int .i64 g4,.bool g5,.bool g6,.bool g7] 35) _ rfl;have hf1:Fr No w (w.alloc (Obj.cells #[.string g1,.string g2,.int .i64 g3,.int .i64 g4,.bool g5,.bool g6,.bool g7] 35)):=(Fr.refl No w).alloc _;have HB1:=H_ hb1;have HF1:=H_ hf1;clear hb1 hf1;go_enter Tryz.func89,Tryz.ntmps89;go_upto_if 15 with fail;generalize w.alloc (Obj.cells #[.string g1,.string g2,.int .i64 g3,.int .i64 g4,.bool g5,.bool g6,.bool g7] 35)=W1 at *;have hws:w.heap.size < W1.heap.size:=zac HB1.out;have hb1:=HB1.out;have b0:=cellAt hb1 0 rfl;have b1:=cellAt hb1 1 rfl;have b2:=cellAt hb1 2 rfl;have b3:=cellAt hb1 3 rfl;have b4:=cellAt hb1 4 rfl;have b5:=cellAt hb1 5 rfl;have b6:=cellAt hb1 6 rfl
 go_cut [2] (fun s2 wx=>s2 = .int .i64 rv/\wx=W1)
 case first =>
  by_cases hz:g3=0
  · have hz':(g3 != 0)=false:=by rw [hz];rfl
    have hr:rv=rev:=(by rw [HRV.out,if_neg (by simp [hz])]);go_wp2;go_meet
    case rel=>exact ⟨by first | rfl | rw [hr],rfl⟩
  have hz':(g3 != 0)=true:=by rw [bne_iff_ne];exact hz
  have hr:rv=g3:=(by rw [HRV.out,if_pos hz]);go_wp2;go_meet
  case rel=>exact ⟨by first | rfl | rw [hr],rfl⟩
 case rest =>
  obtain ⟨rfl,rfl⟩:=hcut;go_upto_region 4 with (go_at_call 88;refine (HB.out _ HF1.out).mono ?_;rintro e w1 ⟨v,rfl,hv,hfv,hvn⟩);obtain ⟨va,vcap,rfl,hc1,hc2,hva⟩:=hv.shape;have hbw:=hfv.heap HB1.out id;have HV:=H_ hv;have HBW:=H_ hbw;have HFV:=H_ (HF1.out.trans0 hfv);have HVX:Hid (¬ (Value.slice va l.length vcap).ownBlock=some w.heap.size):=H_ (fun h=>by have:=hvn _ h;omega);have HVN:Hid (∀ b,(Value.slice va l.length vcap).ownBlock=some b->w.heap.size<=b):=H_ (fun b hb=>by have:=hvn b hb;omega);clear hv hfv hvn b0 b1 b2 b3 b4 b5 b6 hb1;have b0:=cellAt hbw 0 rfl;have b1:=cellAt hbw 1 rfl;have b2:=cellAt hbw 2 rfl;have b3:=cellAt hbw 3 rfl;have b4:=cellAt hbw 4 rfl;have b5:=cellAt hbw 5 rfl;have b6:=cellAt hbw 6 rfl;have lbw:=zac hbw;clear hbw;go_upto_if 28 with fail
  cases g6 with
  | true =>
    have hm:mo=false:=HMO.out;go_wp2;go_ret3;exact ⟨_,by first | rfl | (rw [hm];rfl),by rw [<-HR.out];exact SlF.nil _ _ _ _,HFV.out,by simp [Value.ownBlock]⟩
  | false =>
    go_upto_if 31 with fail
    go_cut [33] (fun _ wx=>Hid (SlF wx 99 6 kvC (.slice va l.length vcap) (if g7 then l.reverse else l))/\Hid (Fr (fun b=>(Value.slice va l.length vcap).ownBlock=some b) w1 wx))
    case first =>
     cases g7 with
     | false =>
       go_wp2;go_meet
       case rel=>exact ⟨HV,H_ (Fr.refl _ _)⟩
     | true =>
       go_wp2_with (go_at_call 132;refine (zjz _ _ _ HV.out hbl).mono ?_;rintro e w2 ⟨⟨u,rfl⟩,hv2,hf3⟩);go_meet
       case rel=>exact ⟨H_ hv2,H_ hf3⟩
    case rest =>
     obtain ⟨HV2,HF2⟩:=hcut;have hb2:=HF2.out.heap HBW.out HVX.out;have lb2:=zac hb2;clear b0 b1 b2 b3 b4 b5 b6 lbw;have b0:=cellAt hb2 0 rfl;have b1:=cellAt hb2 1 rfl;have b2:=cellAt hb2 2 rfl;have b3:=cellAt hb2 3 rfl;have b4:=cellAt hb2 4 rfl;have b5:=cellAt hb2 5 rfl;have b6:=cellAt hb2 6 rfl;have HB2:=H_ hb2;clear hb2;have hR2:=HR.out;generalize hM:(if g7 then l.reverse else l)=M at *;have HR2:=H_ hR2;clear hR2;have hML:M.length=l.length:=(by rw [<-hM];split <;> simp);clear hM;generalize wc=W2 at *;go_upto_region 9 with fail
     go_cut [11] (fun s11 wx=>s11 = .bool mo/\wx=W2)
     case first =>
      by_cases h1:0 < g4
      · have h1':decide (g4 > 0)=true:=decide_eq_true h1
        by_cases h2:g4 < (l.length:Int)
        · have h2':decide (g4 < (l.length:Int))=true:=decide_eq_true h2
          have hm:mo=true:=(by rw [HMO.out,h2',decide_eq_true h1];rfl);go_wp2;go_meet
          case rel=>exact ⟨by first | rfl | rw [hm],rfl⟩
        have h2':decide (g4 < (l.length:Int))=false:=decide_eq_false h2
        have hm:mo=false:=(by rw [HMO.out,h2'];simp);go_wp2;go_meet
        case rel=>exact ⟨by first | rfl | rw [hm],rfl⟩
      have h1':decide (g4 > 0)=false:=decide_eq_false h1
      have hm:mo=false:=(by rw [HMO.out,decide_eq_false h1];rfl);go_wp2;go_meet
      case rel=>exact ⟨by first | rfl | rw [hm],rfl⟩
     case rest =>
      obtain ⟨rfl,rfl⟩:=hcut;go_upto_if 43 with fail
      go_cut [9] (fun s9 wx=>∃ a c,s9 = .slice a (cu mo M).length c/\Hid (SlF wx 99 6 kvC (.slice a (cu mo M).length c) (cu mo M))/\Hid (∀ b,(Value.slice a (cu mo M).length c).ownBlock=some b->w.heap.size<=b/\b≠w.heap.size)/\wx=wc)
      case first =>
       cases mo with
       | false =>
         have hcl:cu false M=M:=HCU.out false M;go_wp2;go_meet
         case rel =>
          rw [hcl,hML];exact ⟨va,vcap,rfl,HV2,H_ fun b hb=>⟨HVN.out b hb,fun e=>HVX.out (e ▸ hb)⟩,rfl⟩
       | true =>
         have hcl:cu true M=M.take g4.toNat:=HCU.out true M;have h12:0 < g4/\g4 < (l.length:Int):=(by have:=HMO.out;simpa using this.symm);obtain ⟨k,rfl⟩:∃ k:Nat,g4=k:=⟨g4.toNat,by omega⟩;have hkl:k<=l.length:=(by omega);have hcap:(k:Int)<=(vcap:Int):=(by omega);obtain ⟨ga,go,rfl⟩:=hva (by omega);go_wp2;go_meet
         case rel =>
          rw [hcl];have hlen:(M.take ((k:Int).toNat)).length=k:=(by rw [List.length_take];omega);rw [hlen];have h3:=HV2.out;rw [<-hML] at h3;exact ⟨some ⟨ga,go,none⟩,vcap,rfl,H_ (h3.take zai k (by omega)),H_ fun b hb=>⟨HVN.out b hb,fun e=>HVX.out (e ▸ hb)⟩,rfl⟩
      case rest =>
       obtain ⟨a9,c9,rfl,HV9,HN9,rfl⟩:=hcut
       have hKl:(cu mo M).length<=l.length:=by
        rw [HCU.out];split
        · rw [List.length_take];omega
        omega
       have hR3:=HR2.out;generalize cu mo M=K at *;have HR3:=H_ hR3;clear hR3;go_wp2
       go_loopg [50] K.length (fun g s50 wr=>∃ i:Nat,s50 = .int .i64 i/\i+g=K.length/\Hid (SlF wr 99 6 kvC (.slice a9 K.length c9) (keyTo g5 i K))/\Hid (Fr (fun b=>(Value.slice a9 K.length c9).ownBlock=some b) wc wr))
       case atStart=>exact ⟨0,rfl,by omega,by rw [zqo];exact HV9,H_ (Fr.refl _ _)⟩
       case round =>
        obtain ⟨i,rfl,hi,HK,HFK⟩:=hrel
        cases gk with
        | zero =>
          have hil:¬ (i:Int) < (K.length:Int):=(by omega);go_wp2;go_ret3;refine ⟨_,rfl,?_,(HFV.out.trans HF2.out fun b hb h=>?_).trans HFK.out fun b hb h=>?_,fun b hb=>(HN9.out b hb).1⟩
          · rw [<-HR3.out,if_neg (by simp),zie _ _ (show K.length<=l.length by omega),<-zie _ _ (show K.length<=i by omega)]
            exact HK.out
          · have:=HVN.out b h;omega
          have:=(HN9.out b h).1;omega
        | succ g =>
          have hil:(i:Int) < (K.length:Int):=(by omega);have hbr:=HFK.out.heap HB2.out fun h=>(HN9.out _ h).2 rfl;have z4:=cellAt hbr 4 rfl;have lz:=zac hbr
          cases g5 with
          | false =>
            go_wp2;go_roundg g
            case rel=>exact ⟨i+1,by go_num,by omega,HK,HFK⟩
            case measure=>omega
          | true =>
            obtain ⟨ga,go,rfl⟩:∃ ga go,a9=some ⟨ga,go,none⟩:=by
             obtain ⟨a,c,h1,_,_,h4⟩:=HV9.out.shape;cases h1
             exact h4 (by omega)
            obtain ⟨x,hx⟩:∃ x,K[i]? = some x:=⟨_,List.getElem?_eq_getElem (by omega)⟩;have hkk:SlF wr 99 6 kvC (.slice (some ⟨ga,go,none⟩) K.length c9) (bareTo i K):=HK.out;have hset:=zqz hkk rfl hx;have hkk2:=hkk;rw [<-zeg i K] at hkk2;have f1:=hkk2.cell zai i 1 (zjs hx) rfl;have ff:=hkk2.free (go+i * 6+1);have lf:=World.block_lt_of_cell? _ _ f1;have HSET:=H_ hset;have hst:Fr (fun b=>(Value.slice (some ⟨ga,go,none⟩) K.length c9).ownBlock=some b) wc (wr.setCell ⟨ga,go+i * 6+1,none⟩ (.string ByteArray.empty)):=HFK.out.setCell (p:=⟨ga,go+i * 6+1,none⟩) (.inl rfl) _;have HST:=H_ hst;clear hset hkk hkk2 hst hx;go_wp2;go_roundg g
            case rel=>exact ⟨i+1,by go_num,by omega,HSET,HST⟩
            case measure=>omega
def KSorted (l:List Kv):Prop:=l.Pairwise fun a b=>klt a.key b.key=true
def hasL (l:List Kv) (key:ByteArray):Option Kv:=l.find? fun k=>keq k.key key
def doneL:List Kv->Ev->List Kv
 | [],x=>if x.kind=1 then [x.kv] else []
 | k :: l,x=>if klt k.key x.kv.key=true then k :: doneL l x else (if x.kind=1 then [x.kv] else [])++(if keq k.key x.kv.key=true then l else k :: l)
theorem zhy {l:List Kv} (h:KSorted l) (x:Ev) (y:Kv):y∈doneL l x ↔ (x.kind=1/\y=x.kv)\/(y∈l/\keq y.key x.kv.key=false):=by
 induction l with
 | nil=>unfold doneL;split <;> simp_all
 | cons k l ih =>
   obtain ⟨h1,h2⟩:=List.pairwise_cons.1 h;unfold doneL
   split
   · rename_i hk
     rw [List.mem_cons,ih h2,List.mem_cons];have:=klt_ne hk
     constructor
     · rintro (rfl | h | ⟨h,h'⟩)
       · exact .inr ⟨.inl rfl,this⟩
       · exact .inl h
       exact .inr ⟨.inr h,h'⟩
     rintro (h | ⟨rfl | h,h'⟩)
     · exact .inr (.inl h)
     · exact .inl rfl
     exact .inr (.inr ⟨h,h'⟩)
   rename_i hk
   have hk':klt k.key x.kv.key=false:=(by simpa using hk)
   have hl:∀ z∈l,keq z.key x.kv.key=false:=fun z hz=>by
    have h3:=zgx hk' (h1 z hz);rw [zcr];exact klt_ne h3
   rw [List.mem_append];refine or_congr ?_ ?_
   · split <;> simp_all
   split
   · rename_i he
     constructor
     · exact fun hy=>⟨List.mem_cons_of_mem _ hy,hl y hy⟩
     rintro ⟨hy,hy'⟩
     rcases List.mem_cons.1 hy with rfl | hy
     · rw [he] at hy';cases hy'
     exact hy
   rename_i he
   constructor
   · intro hy
     refine ⟨hy,?_⟩;rcases List.mem_cons.1 hy with rfl | hy
     · simpa using he
     exact hl y hy
   exact fun hy=>hy.1
theorem zco {l:List Kv} (h:KSorted l) (x:Ev):KSorted (doneL l x):=by
 induction l with
 | nil=>unfold doneL KSorted;split <;> simp
 | cons k l ih =>
   obtain ⟨h1,h2⟩:=List.pairwise_cons.1 h;unfold doneL
   split
   · rename_i hk
     refine List.pairwise_cons.2 ⟨fun y hy=>?_,ih h2⟩;rcases (zhy h2 x y).1 hy with ⟨_,rfl⟩ | ⟨h3,_⟩
     · exact hk
     exact h1 y h3
   rename_i hk
   have hk':klt k.key x.kv.key=false:=(by simpa using hk);have hl:∀ z∈l,klt x.kv.key z.key=true:=fun z hz=>zgx hk' (h1 z hz);refine List.pairwise_append.2 ⟨by split <;> simp,?_,fun a ha b hb=>?_⟩
   · split
     · exact h2
     exact h
   split at ha
   · obtain rfl:=List.mem_singleton.1 ha
     split at hb
     · exact hl b hb
     rename_i he
     rcases List.mem_cons.1 hb with rfl | hb
     · rcases zid x.kv.key b.key with e | e | e
       · exact e
       · exact absurd (zap.2 e.symm) he
       rw [e] at hk';cases hk'
     exact hl b hb
   simp at ha
theorem zbf {l:List Kv} (h:KSorted l) (key:ByteArray) (y:Kv):hasL l key=some y ↔ y∈l/\y.key=key:=by
 constructor
 · intro hy
   exact ⟨List.mem_of_find?_eq_some hy,zap.1 (by simpa using List.find?_some hy)⟩
 rintro ⟨hy,rfl⟩
 unfold hasL
 induction l with
 | nil=>cases hy
 | cons k l ih =>
   obtain ⟨h1,h2⟩:=List.pairwise_cons.1 h;rw [List.find?_cons];rcases List.mem_cons.1 hy with rfl | hy
   · rw [zap.2 rfl]
   rw [klt_ne (h1 y hy)]
   exact ih h2 hy
theorem zsk {α:Type} {a b:Option α} (h:∀ y,a=some y ↔ b=some y):a=b:=by
 cases a with
 | none =>
   cases b with
   | none=>rfl
   | some y=>exact ((h y).2 rfl)
 | some x=>exact ((h x).1 rfl).symm
theorem zct {l:List Kv} (h:KSorted l) (x:Ev) (key:ByteArray):hasL (doneL l x) key=if keq key x.kv.key=true then (if x.kind=1 then some x.kv else none) else hasL l key:=by
 refine zsk fun y=>?_;rw [zbf (zco h x),zhy h];by_cases hk:keq key x.kv.key=true
 · rw [if_pos hk]
   have hk':=zap.1 hk
   constructor
   · rintro ⟨⟨h1,rfl⟩ | ⟨_,h2⟩,h3⟩
     · rw [if_pos h1]
     rw [h3,hk] at h2;cases h2
   intro hy
   split at hy
   · rename_i h1
     obtain rfl:=Option.some.inj hy;exact ⟨.inl ⟨h1,rfl⟩,hk'.symm⟩
   cases hy
 rw [if_neg hk,zbf h]
 constructor
 · rintro ⟨⟨h1,rfl⟩ | ⟨h1,_⟩,rfl⟩
   · exact absurd (zap.2 rfl) hk
   exact ⟨h1,rfl⟩
 rintro ⟨h1,rfl⟩
 exact ⟨.inr ⟨h1,by simpa using hk⟩,rfl⟩
theorem znm {l m:List Kv} (h:KSorted l) (h':KSorted m) (he:∀ key,hasL l key=hasL m key):l=m:=by
 have hm:∀ y,y∈l ↔ y∈m:=fun y=>by
  have h1:=zbf h y.key y;have h2:=zbf h' y.key y;rw [he] at h1
  constructor
  · intro hy;exact (h2.1 (h1.2 ⟨hy,rfl⟩)).1
  intro hy;exact (h1.1 (h2.2 ⟨hy,rfl⟩)).1
 clear he
 induction l generalizing m with
 | nil =>
   cases m with
   | nil=>rfl
   | cons b m=>exact absurd ((hm b).2 List.mem_cons_self) (by simp)
 | cons a l ih =>
   obtain ⟨a1,a2⟩:=List.pairwise_cons.1 h
   cases m with
   | nil=>exact absurd ((hm a).1 List.mem_cons_self) (by simp)
   | cons b m =>
     obtain ⟨b1,b2⟩:=List.pairwise_cons.1 h'
     have hab:a=b:=by
      rcases List.mem_cons.1 ((hm a).1 List.mem_cons_self) with e | e
      · exact e
      rcases List.mem_cons.1 ((hm b).2 List.mem_cons_self) with e' | e'
      · exact e'.symm
      have h1:=b1 a e
      have h2:=zcv (a1 b e');rw [h1] at h2;cases h2
     subst hab
     congr 1
     refine ih a2 b2 fun y=>?_
     constructor
     · intro hy
       rcases List.mem_cons.1 ((hm y).1 (List.mem_cons_of_mem _ hy)) with rfl | e
       · have:=a1 y hy;rw [zbd] at this;cases this
       exact e
     intro hy
     rcases List.mem_cons.1 ((hm y).2 (List.mem_cons_of_mem _ hy)) with rfl | e
     · have:=b1 y hy;rw [zbd] at this;cases this
     exact e
structure Doc where
 rev:Int
 mark:Int
 kvs:List Kv
 events:List Ev
def Doc.at (D:Doc) (r:Int):List Kv:=(D.events.filter fun e=>decide (D.mark < e.kv.mod) && decide (e.kv.mod<=r)).foldl doneL D.kvs
theorem zcg {l:List Kv} (h:KSorted l) (es:List Ev):KSorted (es.foldl doneL l):=by
 induction es generalizing l with
 | nil=>exact h
 | cons e es ih=>exact ih (zco h e)
theorem Doc.at_sorted {D:Doc} (h:KSorted D.kvs) (r:Int):KSorted (D.at r):=zcg h _
structure HInv (M:Int) (H:Hist):Prop where
 puts:∀ x∈H.gens,∀ p∈x.puts,1<=p/\p<=M
 ends:∀ x∈H.gens,0<=x.end_/\x.end_<=M
 full:∀ x∈H.gens,x.puts≠[]
 zero:H.kvs 0=none
theorem zhf {l:List Int} {r:Int} (h:∀ p∈l,p<=r):upTo l r=l.length:=by
 unfold upTo;exact List.findIdx_eq_length_of_false fun p hp=>by have:=h p hp;simp;omega
theorem zlc {l:List Int} {r R:Int} (h:r < R):upTo (l++[R]) r=upTo l r:=by
 unfold upTo;rw [List.findIdx_append]
 split
 · rfl
 rename_i hn
 have h1:l.findIdx (fun p=>decide (r < p))=l.length:=by
  have:=List.findIdx_le_length (p:=fun p=>decide (r < p)) (xs:=l);omega
 rw [h1];simp [List.findIdx_cons,h]
theorem zwf (r:Int):atK [] r=((0,0,0),false):=rfl
theorem zby (K:List Gen) (x:Gen) (r:Int):atK (K++[x]) r=if upTo x.puts r≠0 then (if 0 < x.end_/\x.end_<=r then ((0,0,0),false) else ((x.create,x.puts[upTo x.puts r - 1]?.getD 0,x.cut+upTo x.puts r),true)) else atK K r:=by
 unfold atK;rw [List.reverse_append,List.reverse_singleton,List.singleton_append,List.find?_cons];by_cases h:upTo x.puts r=0
 · simp [h]
 have hb:(upTo x.puts r != 0)=true:=by simpa using h
 rw [hb,if_pos h]
theorem zcl {K:List Gen} (h:isOpen K=true):∃ L x,K=L++[x]/\x.end_=0:=by
 unfold isOpen at h
 cases hl:K.getLast? with
 | none=>rw [hl] at h;cases h
 | some x =>
   rw [hl] at h;obtain ⟨L,rfl⟩:=List.getLast?_eq_some_iff.1 hl;exact ⟨L,x,rfl,by simpa using h⟩
theorem zbw (L:List Gen) (x:Gen) (f:Gen->Gen):(L++[x]).modify ((L++[x]).length - 1) f=L++[f x]:=by
 apply List.ext_getElem?;intro i;rw [List.getElem?_modify];simp only [List.length_append,List.length_singleton,Nat.add_sub_cancel];rcases Nat.lt_trichotomy i L.length with h | h | h
 · rw [List.getElem?_append_left h,List.getElem?_append_left h];have:¬ L.length=i:=by omega
   cases L[i]? <;> simp [this]
 · subst h;simp
 rw [List.getElem?_eq_none (by simp;omega),List.getElem?_eq_none (by simp;omega)];simp
theorem zrc (K:List Gen) {r R:Int} (h:r < R):atK (putK K R) r=atK K r:=by
 unfold putK
 split
 · rename_i ho
   obtain ⟨L,x,rfl,hx⟩:=zcl ho;rw [zbw,zby,zby,zlc h];have:=zdp x.puts r
   split
   · rw [List.getElem?_append_left (by omega)]
   rfl
 rw [zby,if_neg]
 simp [upTo,List.findIdx_cons,h]
theorem zrd {K:List Gen} {r R:Int} (hK:∀ x∈K,∀ p∈x.puts,p < R) (h:R<=r):(atK (putK K R) r).1.2.1=R/\(atK (putK K R) r).2=true:=by
 unfold putK
 split
 · rename_i ho
   obtain ⟨L,x,rfl,hx⟩:=zcl ho
   have hu:upTo (x.puts++[R]) r=x.puts.length+1:=by
    rw [zhf]
    · simp
    intro p hp
    rcases List.mem_append.1 hp with e | e
    · have:=hK x (by simp) p e;omega
    rw [List.mem_singleton.1 e];exact h
   rw [zbw,zby];dsimp only;rw [hu,if_pos (by omega),if_neg (by omega)];simp
 have hu:upTo [R] r=1:=zhf (by simpa using h)
 rw [zby];dsimp only;rw [hu,if_pos (by omega),if_neg (by omega)];simp
theorem zon {K:List Gen} (ho:isOpen K=true) {r R:Int} (h:r < R):atK (tombK K R) r=atK K r:=by
 obtain ⟨L,x,rfl,hx⟩:=zcl ho;unfold tombK;rw [zbw,zby,zby];dsimp only;rw [if_neg (show ¬ (0 < R/\R<=r) by omega),if_neg (show ¬ (0 < x.end_/\x.end_<=r) by omega)]
theorem zoo {K:List Gen} (ho:isOpen K=true) {r R:Int} (hK:∀ x∈K,∀ p∈x.puts,p<=R) (hf:∀ x∈K,x.puts≠[]) (h1:1<=R) (h:R<=r):atK (tombK K R) r=((0,0,0),false):=by
 obtain ⟨L,x,rfl,hx⟩:=zcl ho;unfold tombK;rw [zbw,zby];dsimp only;have hu:upTo x.puts r=x.puts.length:=zhf fun p hp=>by have:=hK x (by simp) p hp;omega
 have:0 < x.puts.length:=List.length_pos_iff.2 (hf x (by simp));rw [hu,if_pos (by omega),if_pos (by omega)]
theorem zwg {K:List Gen} {r M:Int} (hK:∀ x∈K,∀ p∈x.puts,p<=M):(atK K r).1.2.1<=M\/(atK K r).1.2.1=0:=by
 unfold atK
 split
 · exact .inr rfl
 rename_i x hx
 have hm:=List.mem_reverse.1 (List.mem_of_find?_eq_some hx)
 split
 · exact .inr rfl
 dsimp only
 cases hp:x.puts[upTo x.puts r - 1]? with
 | none=>exact .inr rfl
 | some p=>exact .inl (hK x hm p (List.mem_of_getElem? hp))
theorem zpn {M:Int} {H:Hist} (h:HInv M H) (x:Kv) (hM:M < x.mod) (h1:1<=x.mod) (r:Int):hadH (putH H x) r=if r < x.mod then hadH H r else (x,true):=by
 split
 · rename_i hr
   unfold hadH putH;dsimp only;rw [zrc _ hr,if_neg];rcases zwg (r:=r) fun y hy p hp=>(h.puts y hy p hp).2 with e | e <;> omega
 rename_i hr
 obtain ⟨e1,e2⟩:=zrd (r:=r) (R:=x.mod) (K:=H.gens) (fun y hy p hp=>by have:=(h.puts y hy p hp).2;omega) (by omega);unfold hadH putH;dsimp only;rw [e1,e2,if_pos rfl]
 rfl
theorem zsz {M:Int} {H:Hist} (h:HInv M H) (ho:isOpen H.gens=true) {R:Int} (hM:M < R) (h1:1<=R) (r:Int):hadH (tombH H R) r=if r < R then hadH H r else (kv0,false):=by
 split
 · rename_i hr
   unfold hadH tombH;dsimp only;rw [zon ho hr]
 rename_i hr
 unfold hadH tombH;dsimp only;rw [zoo ho (fun y hy p hp=>by have:=(h.puts y hy p hp).2;omega) h.full h1 (by omega)];dsimp only;rw [h.zero]
 rfl
theorem HInv.put {M:Int} {H:Hist} (h:HInv M H) (x:Kv) (hM:M < x.mod) (h1:1<=x.mod):HInv x.mod (putH H x):=by
 have hz:(putH H x).kvs 0=none:=by unfold putH;dsimp only;rw [if_neg (by omega)];exact h.zero
 have hg:∀ y∈(putH H x).gens,(∀ p∈y.puts,1<=p/\p<=x.mod)/\(0<=y.end_/\y.end_<=x.mod)/\y.puts≠[]:=by
  unfold putH putK;dsimp only
  split
  · rename_i ho
    obtain ⟨L,z,hLz,hz⟩:=zcl ho;rw [hLz,zbw];have hb:=h.puts;have he:=h.ends;have hf:=h.full;rw [hLz] at hb he hf;intro y hy;rcases List.mem_append.1 hy with e | e
    · have hm:=List.mem_append_left [z] e
      exact ⟨fun p hp=>by have:=hb y hm p hp;omega,by have:=he y hm;omega,hf y hm⟩
    rw [List.mem_singleton.1 e]
    refine ⟨fun p hp=>?_,by dsimp only;omega,by simp⟩;rcases List.mem_append.1 hp with e | e
    · have:=hb z (by simp) p e;omega
    rw [List.mem_singleton.1 e];omega
  intro y hy
  rcases List.mem_append.1 hy with e | e
  · exact ⟨fun p hp=>by have:=h.puts y e p hp;omega,by have:=h.ends y e;omega,h.full y e⟩
  rw [List.mem_singleton.1 e]
  exact ⟨fun p hp=>by rw [List.mem_singleton.1 hp];omega,by dsimp only;omega,by simp⟩
 exact ⟨fun y hy=>(hg y hy).1,fun y hy=>(hg y hy).2.1,fun y hy=>(hg y hy).2.2,hz⟩
theorem HInv.tomb {M:Int} {H:Hist} (h:HInv M H) (ho:isOpen H.gens=true) {R:Int} (hM:M < R) (h1:1<=R):HInv R (tombH H R):=by
 obtain ⟨L,z,hLz,hz⟩:=zcl ho;have hb:=h.puts;have he:=h.ends;have hf:=h.full
 have hg:∀ y∈(tombH H R).gens,(∀ p∈y.puts,1<=p/\p<=R)/\(0<=y.end_/\y.end_<=R)/\y.puts≠[]:=by
  unfold tombH tombK;dsimp only;rw [hLz,zbw];rw [hLz] at hb he hf;intro y hy;rcases List.mem_append.1 hy with e | e
  · have hm:=List.mem_append_left [z] e
    exact ⟨fun p hp=>by have:=hb y hm p hp;omega,by have:=he y hm;omega,hf y hm⟩
  rw [List.mem_singleton.1 e]
  exact ⟨fun p hp=>by have:=hb z (by simp) p hp;omega,⟨by dsimp only;omega,Int.le_refl _⟩,hf z (by simp)⟩
 exact ⟨fun y hy=>(hg y hy).1,fun y hy=>(hg y hy).2.1,fun y hy=>(hg y hy).2.2,h.zero⟩
theorem HInv.new (M:Int):HInv M newH:=⟨by simp [newH],by simp [newH],by simp [newH],rfl⟩
theorem zta {M:Int} {H:Hist} (h:HInv M H) {r:Int} (hr:M<=r):(hadH H r).2=isOpen H.gens:=by
 show (atK H.gens r).2=isOpen H.gens
 unfold isOpen
 cases hl:H.gens.getLast? with
 | none=>rw [List.getLast?_eq_none_iff.1 hl];rfl
 | some x =>
   obtain ⟨L,hL⟩:=List.getLast?_eq_some_iff.1 hl;have hx:x∈H.gens:=(by rw [hL];simp);have hu:upTo x.puts r=x.puts.length:=zhf fun p hp=>by have:=(h.puts x hx p hp).2;omega
   have:=List.length_pos_iff.2 (h.full x hx);have he:=h.ends x hx;rw [hL,zby,hu,if_pos (by omega)];dsimp only;by_cases h0:x.end_=0
   · rw [if_neg (by omega)];simp [h0]
   rw [if_pos (by omega)];simp [h0]
end Go.Proofs.YthljnnjpmdgkoaaGreat