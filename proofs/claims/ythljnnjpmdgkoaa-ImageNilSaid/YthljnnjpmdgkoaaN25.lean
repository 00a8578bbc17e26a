/- Own lemmas and contracts that the claim's proof needs, laid together. The conditions stand in each. -/
import Derived.Test.YthljnnjpmdgkoaaN24
import Derived.Test.YthljnnjpmdgkoaaN14
import Derived.Test.YthljnnjpmdgkoaaN22
import Derived.Test.YthljnnjpmdgkoaaN16
import Derived.Test.YthljnnjpmdgkoaaN01
import Derived.Test.YthljnnjpmdgkoaaN17
import Derived.Test.YthljnnjpmdgkoaaN13
import Derived.Test.YthljnnjpmdgkoaaN12
import Derived.Test.YthljnnjpmdgkoaaN10
import Derived.Lib.SliceRun
import Derived.Deep.DeepCutAuto
import Derived.Deep.RegionHeld3
import Derived.BigRegion
namespace Go.Proofs.Ythljnnjpmdgkoaa
open Go Go.Proofs Go.RowKit
def seen (o:Option Kv):Kv × Bool:=match o with
 | some k=>(k,true)
 | none=>(kv0,false)
structure Cpl (S:St) (D:Doc):Prop where
 mark:S.mark=D.mark
 events:S.events=D.events
 inv:SInv D.rev S
 ks:KSorted D.kvs
 m0:0<=D.mark/\D.mark<=D.rev
 lives:∀ key r,D.mark<=r->livesS S key r=seen (hasL (D.at r) key)
def Doc.add (D:Doc) (x:Ev):Doc:={ D with rev:=x.kv.mod,events:=D.events++[x] }
theorem Doc.add_at (D:Doc) (x:Ev) (h:D.mark < x.kv.mod) (r:Int):(D.add x).at r=if x.kv.mod<=r then doneL (D.at r) x else D.at r:=by
 unfold Doc.at Doc.add;dsimp only;rw [List.filter_append,List.foldl_append];by_cases hr:x.kv.mod<=r
 · rw [if_pos hr];simp [h,hr]
 rw [if_neg hr];simp [hr]
theorem zor (S:St) (x:Ev) (k:ByteArray) (r:Int):livesS (doS S x) k r=livesS (doneS S x) k r:=rfl
theorem ziy (S:St) (x:Ev):(doneS S x).mark=S.mark:=by
 unfold doneS putS tombS madeS;dsimp only
 split
 · split <;> rfl
 split <;> rfl
theorem Cpl.does {S:St} {D:Doc} (h:Cpl S D) (x:Ev) (hM:D.rev<=x.kv.mod) (h1:1<=x.kv.mod) (hm:D.mark < x.kv.mod) (hlast:(getT S.T x.kv.key).2=true->∀ H,S.past (getT S.T x.kv.key).1=some H->H.last < x.kv.mod)
 (hdel:x.kind≠1->(getT S.T x.kv.key).2=true/\∀ H,S.past (getT S.T x.kv.key).1=some H->isOpen H.gens=true):Cpl (doS S x) (D.add x):=by
 have hM0:0<=D.rev:=by have:=h.m0;omega
 have key:SInv x.kv.mod (doneS S x)/\∀ k r,livesS (doneS S x) k r=if keq x.kv.key k=true/\x.kv.mod<=r then (if x.kind=1 then (x.kv,true) else (kv0,false)) else livesS S k r:=by
  unfold doneS;by_cases hk:x.kind=1
  · rw [if_pos hk,if_pos hk]
    exact h.inv.put hM0 x.kv hM h1 hlast
  rw [if_neg hk,if_neg hk]
  obtain ⟨a,b⟩:=hdel hk;exact h.inv.tomb x.kv hM h1 a (hlast a) b
 refine ⟨(ziy S x).trans h.mark,?_,?_,h.ks,⟨h.m0.1,by have:=h.m0;show D.mark<=x.kv.mod;omega⟩,fun k r hr=>?_⟩
 · show (doneS S x).events++[x] = D.events++[x]
   rw [zcs,h.events]
 · exact ⟨key.1.inj,key.1.has,key.1.hist⟩
 rw [zor,key.2,Doc.add_at D x hm r,h.lives k r hr]
 by_cases hr2:x.kv.mod<=r
 · rw [if_pos hr2,zcj (Doc.at_sorted h.ks r),zef k]
   by_cases hk:keq x.kv.key k=true
   · rw [if_pos ⟨hk,hr2⟩,if_pos hk]
     split <;> rfl
   rw [if_neg fun e=>hk e.1,if_neg hk]
 rw [if_neg hr2,if_neg fun e=>hr2 e.2]
theorem zdi {T:Pairs} (h:Sorted T) {p:ByteArray × Int} (hp:p∈T):getT T p.1=(p.2,true):=by
 induction T with
 | nil=>cases hp
 | cons q T ih =>
   obtain ⟨h1,h2⟩:=List.pairwise_cons.1 h;rw [zcm];rcases List.mem_cons.1 hp with rfl | hp
   · rw [zai.2 rfl];rfl
   rw [klt_ne (h1 p hp)];exact ih h2 hp
def rgB (frm upr k:ByteArray):Bool:=!klt k frm && (upr.toList.isEmpty || klt k upr)
theorem Cpl.has {S:St} {D:Doc} (h:Cpl S D) {k:ByteArray} {r:Int} (hr:D.mark<=r) {y:Kv} (hy:hasL (D.at r) k=some y):(getT S.T k).2=true:=by
 have h1:=h.lives k r hr;rw [hy] at h1
 cases hg:(getT S.T k).2 with
 | true=>rfl
 | false =>
   unfold livesS at h1;rw [hg] at h1;simp [seen] at h1
theorem Cpl.oneL {S:St} {D:Doc} (h:Cpl S D) (hT:Sorted S.T) {r:Int} (hr:D.mark<=r) {p:ByteArray × Int} (hp:p∈S.T):Go.Proofs.Ythljnnjpmdgkoaa.oneL S r p=hasL (D.at r) p.1:=by
 have h1:=h.lives p.1 r hr;have hg:=zdi hT hp;unfold livesS at h1;rw [hg] at h1;simp only [if_true] at h1;obtain ⟨H,hH⟩:=h.inv.has p.1 (by rw [hg]);rw [hg] at hH;unfold Go.Proofs.Ythljnnjpmdgkoaa.oneL;dsimp only at hH;rw [hH] at h1 ⊢
 dsimp only at h1 ⊢
 rw [h1];cases hasL (D.at r) p.1 <;> simp [seen]
theorem Cpl.between {S:St} {D:Doc} (h:Cpl S D) (hT:Sorted S.T) (frm upr:ByteArray) {r:Int} (hr:D.mark<=r):zah S (rangeT S.T frm upr) r=(D.at r).filter fun y=>rgB frm upr y.key:=by
 have hL:=Doc.at_sorted h.ks r
 have hmem:∀ y,y∈zah S (rangeT S.T frm upr) r ↔ y∈D.at r/\rgB frm upr y.key=true:=by
  intro y;unfold zah rangeT;rw [List.mem_filterMap]
  constructor
  · rintro ⟨p,hp,hy⟩
    obtain ⟨hp1,hp2⟩:=List.mem_filter.1 hp;rw [h.oneL hT hr hp1] at hy;obtain ⟨a,b⟩:=(zbd hL _ _).1 hy;exact ⟨a,by rw [b];exact hp2⟩
  rintro ⟨hy,hf⟩
  have h1:=(zbd hL y.key y).2 ⟨hy,rfl⟩;have h2:=zeh (h.has hr h1);exact ⟨_,List.mem_filter.2 ⟨h2,hf⟩,by rw [h.oneL hT hr h2];exact h1⟩
 have hs:KSorted (zah S (rangeT S.T frm upr) r):=by
  unfold zah KSorted;rw [List.pairwise_filterMap];have hR:Sorted (rangeT S.T frm upr):=List.Pairwise.sublist List.filter_sublist hT;refine List.Pairwise.imp_of_mem (fun {p q} hp hq hpq=>?_) hR;intro a ha b hb;rw [h.oneL hT hr (zfp hp)] at ha;rw [h.oneL hT hr (zfp hq)] at hb;rw [((zbd hL _ _).1 ha).2,((zbd hL _ _).1 hb).2];exact hpq
 have hs2:KSorted ((D.at r).filter fun y=>rgB frm upr y.key):=List.Pairwise.sublist List.filter_sublist hL;refine zmg hs hs2 fun key=>zqk fun y=>?_;rw [zbd hs,zbd hs2,hmem,List.mem_filter]
def ESorted (l:List Ev):Prop:=l.Pairwise fun a b=>a.kv.mod<=b.kv.mod
def Doc.cut (D:Doc) (r:Int):Doc:=⟨D.rev,r,D.at r,D.events.filter fun e=>decide (r<=e.kv.mod) && decide (e.kv.mod<=D.rev)⟩
theorem zgc {l:List Ev} (h:ESorted l) (m R r:Int) (h1:m<=R) (h2:R<=r) :
 (l.filter fun e=>decide (m < e.kv.mod) && decide (e.kv.mod<=r))=(l.filter fun e=>decide (m < e.kv.mod) && decide (e.kv.mod<=R))++l.filter fun e=>decide (R < e.kv.mod) && decide (e.kv.mod<=r):=by
 induction l with
 | nil=>rfl
 | cons x l ih =>
   obtain ⟨a1,a2⟩:=List.pairwise_cons.1 h;have ih:=ih a2;by_cases hx:x.kv.mod<=R
   · have hn:¬ R < x.kv.mod:=by omega
     have hr:x.kv.mod<=r:=(by omega);by_cases hm:m < x.kv.mod
     · simp only [List.filter_cons,hx,hn,hr,hm,decide_true,decide_false,Bool.and_true,Bool.and_self,if_true,Bool.false_eq_true,if_false,List.cons_append]
       rw [ih]
     simp only [List.filter_cons,hm,hn,decide_false,Bool.false_and,Bool.false_eq_true,if_false]
     exact ih
   have hnil:(l.filter fun e=>decide (m < e.kv.mod) && decide (e.kv.mod<=R)) = []:=List.filter_eq_nil_iff.2 fun e he=>by have:=a1 e he;simp;omega
   rw [hnil] at ih;have hm:m < x.kv.mod:=(by omega);have hR:R < x.kv.mod:=(by omega);simp only [List.filter_cons,hx,hm,hR,hnil,decide_true,decide_false,Bool.and_false,Bool.true_and,Bool.false_eq_true,if_false,List.nil_append];rw [ih];rfl
theorem Doc.cut_at {D:Doc} (h:ESorted D.events) {R r:Int} (h1:D.mark<=R) (h2:R<=r) (hm:∀ e∈D.events,e.kv.mod<=D.rev):(D.cut R).at r=D.at r:=by
 unfold Doc.at Doc.cut;dsimp only;rw [zgc h D.mark R r h1 h2,List.foldl_append,List.filter_filter]
 unfold Doc.at
 congr 1
 refine List.filter_congr fun e he=>?_;have:=hm e he;by_cases a:R < e.kv.mod <;> by_cases b:e.kv.mod<=r <;> simp [a,b] <;> omega
structure DocOk (n:Nat) (D:Doc):Prop where
 es:ESorted D.events
 lo:∀ e∈D.events,1<=e.kv.mod/\D.mark<=e.kv.mod/\e.kv.mod<=D.rev
 full:∀ r,1<=r->D.mark<=r->r<=D.rev->∃ e∈D.events,e.kv.mod=r
 uniq:D.events.Pairwise fun a b=>a.kv.mod=b.kv.mod->a.kv.key≠b.kv.key
 prev:∀ A e B,D.events=A++e :: B->D.mark < e.kv.mod->e.prev=(hasL ((A.filter fun y=>decide (D.mark < y.kv.mod)).foldl doneL D.kvs) e.kv.key).getD kv0
 kind:∀ e∈D.events,e.kind=1\/e.kind=2
 ver0:∀ k∈D.kvs,1<=k.version/\k.version<=n
 ver:∀ e∈D.events,e.kind=1->1<=e.kv.version/\e.kv.version<=n
theorem DocOk.mono {n m:Nat} {D:Doc} (h:DocOk n D) (hm:n<=m):DocOk m D :=
 { h with ver0:=fun k hk=>by have:=h.ver0 k hk;omega,ver:=fun e he h1=>by have:=h.ver e he h1;omega }
theorem zbi {l:List Kv} (h:KSorted l) (es:List Ev) (y:Kv) (hy:y∈es.foldl doneL l):y∈l\/∃ e∈es,e.kind=1/\y=e.kv:=by
 induction es generalizing l with
 | nil=>exact .inl hy
 | cons e es ih =>
   rcases ih (zcd h e) hy with h1 | ⟨e',h1,h2⟩
   · rcases (zhk h e y).1 h1 with ⟨h2,h3⟩ | ⟨h2,_⟩
     · exact .inr ⟨e,List.mem_cons_self,h2,h3⟩
     exact .inl h2
   exact .inr ⟨e',List.mem_cons_of_mem _ h1,h2⟩
theorem Doc.mem_at {D:Doc} (h:KSorted D.kvs) {r:Int} {y:Kv} (hy:y∈D.at r):y∈D.kvs\/∃ e∈D.events,e.kind=1/\y=e.kv:=by
 rcases zbi h _ y hy with h1 | ⟨e,h1,h2⟩
 · exact .inl h1
 exact .inr ⟨e,(List.mem_filter.1 h1).1,h2⟩
theorem DocOk.ver_at {n:Nat} {D:Doc} (h:DocOk n D) (hs:KSorted D.kvs) {r:Int} {y:Kv} (hy:y∈D.at r):1<=y.version/\y.version<=n:=by
 rcases Doc.mem_at hs hy with h1 | ⟨e,h1,h2,rfl⟩
 · exact h.ver0 y h1
 exact h.ver e h1 h2
theorem DocOk.ver_has {n:Nat} {D:Doc} (h:DocOk n D) (hs:KSorted D.kvs) (r:Int) (k:ByteArray):0<=((hasL (D.at r) k).getD kv0).version/\((hasL (D.at r) k).getD kv0).version<=n:=by
 cases hh:hasL (D.at r) k with
 | none=>exact ⟨Int.le_refl 0,by show (0:Int)<=n;omega⟩
 | some y =>
   have:=h.ver_at hs ((zbd (Doc.at_sorted hs r) k y).1 hh).1
   show 0<=y.version/\y.version<=n
   omega
theorem Doc.at_late {D:Doc} (hm:∀ e∈D.events,e.kv.mod<=D.rev) {r r':Int} (h:D.rev<=r) (h':D.rev<=r'):D.at r=D.at r':=by
 unfold Doc.at
 congr 1
 refine List.filter_congr fun e he=>?_;have:=hm e he;have h1:e.kv.mod<=r:=by omega
 have h2:e.kv.mod<=r':=by omega
 simp [h1,h2]
theorem Doc.at_all {D:Doc} (hm:∀ e∈D.events,e.kv.mod<=D.rev) {r:Int} (h:D.rev<=r):D.at r=(D.events.filter fun y=>decide (D.mark < y.kv.mod)).foldl doneL D.kvs:=by
 unfold Doc.at
 congr 1
 refine List.filter_congr fun e he=>?_;have:=hm e he;have h1:e.kv.mod<=r:=by omega
 simp [h1]
theorem zoh {α:Type} {l A B:List α} {x e:α} (h:l++[x] = A++e :: B):(A=l/\e=x/\B = [])\/∃ B',B=B'++[x]/\l=A++e :: B':=by
 rcases List.eq_nil_or_concat B with rfl | ⟨B',y,rfl⟩
 · left
   have h2:=List.append_inj_right' h (by simp);have h1:=List.append_inj_left' h (by simp);exact ⟨h1.symm,by simpa using h2.symm,rfl⟩
 right
 have e1:A++e :: (B'++[y])=(A++e :: B')++[y]:=(by simp);simp only [List.concat_eq_append] at h;rw [e1] at h;have h2:=List.append_inj_right' h (by simp);have h1:=List.append_inj_left' h (by simp);refine ⟨B',?_,h1⟩;simp only [List.concat_eq_append];rw [show y=x by simpa using h2.symm]
theorem DocOk.add {n:Nat} {D:Doc} (h:DocOk n D) (x:Ev) (h1:1<=x.kv.mod) (hm:D.mark < x.kv.mod) (hr:D.rev<=x.kv.mod) (hr2:x.kv.mod<=D.rev+1) (hp:x.prev=(hasL (D.at x.kv.mod) x.kv.key).getD kv0)
 (hk:x.kind=1\/x.kind=2) (hv:x.kind=1->1<=x.kv.version/\x.kv.version<=n+1) (hu:∀ e∈D.events,e.kv.mod=x.kv.mod->e.kv.key≠x.kv.key):DocOk (n+1) (D.add x):=by
 refine ⟨?_,fun e he=>?_,fun r a b c=>?_,?_,fun A e B hAB hmark=>?_,fun e he=>?_,fun k hk=>?_,fun e he h1=>?_⟩
 · refine List.pairwise_append.2 ⟨h.es,by simp,fun a ha b hb=>?_⟩
   rw [List.mem_singleton.1 hb];have:=h.lo a ha;omega
 · rcases List.mem_append.1 he with he | he
   · have:=h.lo e he
     exact ⟨this.1,this.2.1,by show e.kv.mod<=x.kv.mod;omega⟩
   rw [List.mem_singleton.1 he]
   exact ⟨h1,by show D.mark<=x.kv.mod;omega,Int.le_refl _⟩
 · by_cases e:r=x.kv.mod
   · exact ⟨x,List.mem_append_right _ List.mem_cons_self,e.symm⟩
   have c':r<=x.kv.mod:=c
   obtain ⟨y,hy,e'⟩:=h.full r a b (by omega);exact ⟨y,List.mem_append_left _ hy,e'⟩
 · refine List.pairwise_append.2 ⟨h.uniq,by simp,fun a ha b hb=>?_⟩
   rw [List.mem_singleton.1 hb];exact hu a ha
 · rcases zoh (show D.events++[x] = A++e :: B from hAB) with ⟨rfl,rfl,rfl⟩ | ⟨B',_,h2⟩
   · rw [hp,Doc.at_all (fun e he=>(h.lo e he).2.2) hr]
     rfl
   exact h.prev A e B' h2 hmark
 · rcases List.mem_append.1 he with he | he
   · exact h.kind e he
   rw [List.mem_singleton.1 he];exact hk
 · have:=h.ver0 k hk;omega
 rcases List.mem_append.1 he with he | he
 · have:=h.ver e he h1;omega
 rw [List.mem_singleton.1 he] at h1 ⊢
 have:=hv h1;omega
theorem zle {α:Type} {l A B:List α} {e:α} {p:α->Bool} (h:l.filter p=A++e :: B):∃ A' B',l=A'++e :: B'/\A=A'.filter p/\B=B'.filter p:=by
 induction l generalizing A with
 | nil=>simp at h
 | cons x l ih =>
   rw [List.filter_cons] at h;by_cases hp:p x=true
   · rw [if_pos hp] at h
     cases A with
     | nil =>
       simp only [List.nil_append,List.cons.injEq] at h;obtain ⟨rfl,h⟩:=h;exact ⟨[],l,rfl,rfl,h.symm⟩
     | cons a A =>
       simp only [List.cons_append,List.cons.injEq] at h;obtain ⟨rfl,h⟩:=h;obtain ⟨A',B',h1,h2,h3⟩:=ih h;exact ⟨x :: A',B',by rw [h1];rfl,by rw [List.filter_cons,if_pos hp,h2],h3⟩
   rw [if_neg hp] at h
   obtain ⟨A',B',h1,h2,h3⟩:=ih h;exact ⟨x :: A',B',by rw [h1];rfl,by rw [List.filter_cons,if_neg hp,h2],h3⟩
theorem DocOk.cut {n:Nat} {D:Doc} (h:DocOk n D) (hs:KSorted D.kvs) (R:Int) (hR:D.mark < R) (_hR2:R<=D.rev):DocOk n (D.cut R):=by
 have hsub:∀ e∈(D.cut R).events,e∈D.events/\R<=e.kv.mod:=fun e he=>by
  obtain ⟨h1,h2⟩:=List.mem_filter.1 he;simp only [Bool.and_eq_true,decide_eq_true_eq] at h2;exact ⟨h1,h2.1⟩
 refine ⟨List.Pairwise.sublist List.filter_sublist h.es,fun e he=>?_,fun r a b c=>?_,List.Pairwise.sublist List.filter_sublist h.uniq,fun A e B hAB hmark=>?_,fun e he=>h.kind e (hsub e he).1,fun k hk=>h.ver_at hs hk,fun e he=>h.ver e (hsub e he).1⟩
 · have:=h.lo e (hsub e he).1
   exact ⟨this.1,(hsub e he).2,this.2.2⟩
 · have b':R<=r:=b
   obtain ⟨e,he,h1⟩:=h.full r a (by omega) c;have c':r<=D.rev:=c;exact ⟨e,List.mem_filter.2 ⟨he,by simp;omega⟩,h1⟩
 have hmark':R < e.kv.mod:=hmark
 obtain ⟨A',B',h1,h2,h3⟩:=zle (show D.events.filter _=A++e :: B from hAB);rw [h.prev A' e B' h1 (by omega)]
 congr 2
 -- what lives ahead of the event is the same
 have hA:ESorted A':=(by have:=h.es;rw [h1] at this;exact (List.pairwise_append.1 this).1)
 have hAm:∀ y∈A',y.kv.mod<=e.kv.mod:=by
  have:=h.es;rw [h1] at this;exact fun y hy=>(List.pairwise_append.1 this).2.2 y hy e List.mem_cons_self
 have hem:=(h.lo e (by rw [h1];simp)).2.2;have hp:=zgc hA D.mark R e.kv.mod (by omega) (by omega)
 have e1:(A'.filter fun y=>decide (D.mark < y.kv.mod))=A'.filter fun y=>decide (D.mark < y.kv.mod) && decide (y.kv.mod<=e.kv.mod):=List.filter_congr fun y hy=>by
  have:=hAm y hy;simp [this]
 rw [e1,hp,List.foldl_append]
 have e2:(A.filter fun y=>decide ((D.cut R).mark < y.kv.mod))=A'.filter fun y=>decide (R < y.kv.mod) && decide (y.kv.mod<=e.kv.mod):=by
  rw [h2,List.filter_filter];refine List.filter_congr fun y hy=>?_;have hy1:=hAm y hy
  show (decide (R < y.kv.mod) && (decide (R<=y.kv.mod) && decide (y.kv.mod<=D.rev)))=_
  by_cases hRy:R < y.kv.mod
  · have a1:R<=y.kv.mod:=by omega
    have a2:y.kv.mod<=D.rev:=(by omega);simp [hRy,a1,a2,hy1]
  simp [hRy]
 rw [e2]
 congr 1
 show _=(D.events.filter fun e=>decide (D.mark < e.kv.mod) && decide (e.kv.mod<=R)).foldl doneL D.kvs
 congr 1
 rw [h1,List.filter_append]
 have e3:((e :: B').filter fun e=>decide (D.mark < e.kv.mod) && decide (e.kv.mod<=R)) = []:=List.filter_eq_nil_iff.2 fun y hy=>by
  have:=h.es;rw [h1] at this;have h4:=(List.pairwise_append.1 this).2.1;rcases List.mem_cons.1 hy with rfl | hy
  · simp;omega
  have:=(List.pairwise_cons.1 h4).1 y hy
  simp;omega
 rw [e3,List.append_nil]
theorem znp:∀ (f k:List UInt8),(¬ k < f/\k < f++[0]) ↔ k=f
 | [],[]=>by simp
 | [],a :: k=>by
   simp only [List.nil_append,List.cons_lt_cons_iff,List.not_lt_nil,and_false,or_false]
   constructor
   · rintro ⟨_,h⟩
     exact absurd h (by have:=a.toNat_lt;rw [UInt8.lt_iff_toNat_lt];simp)
   intro h;cases h
 | b :: f,[]=>by simp
 | b :: f,a :: k=>by
   have ih:=znp f k;simp only [List.cons_append,List.cons_lt_cons_iff,List.cons.injEq]
   constructor
   · rintro ⟨h1,h2 | ⟨rfl,h2⟩⟩
     · exact absurd (.inl h2) h1
     exact ⟨rfl,ih.1 ⟨fun h=>h1 (.inr ⟨rfl,h⟩),h2⟩⟩
   rintro ⟨rfl,rfl⟩
   have h3:=ih.2 rfl;refine ⟨?_,.inr ⟨rfl,h3.2⟩⟩;rintro (h | ⟨_,h⟩)
   · exact absurd h (by rw [UInt8.lt_iff_toNat_lt];omega)
   exact h3.1 h
theorem zqc (frm end_ k:ByteArray):rgB frm (toOf frm end_) k=inB k frm end_:=by
 unfold rgB toOf inB
 cases h1:end_.toList.isEmpty with
 | true =>
   simp only [if_true]
   have he:(frm++(⟨#[0]⟩:ByteArray)).toList.isEmpty=false:=by
    rw [Lib.toList_data];simp
   rw [he,Bool.false_or];have hl:=znp frm.data.toList k.data.toList
   have h2:klt k (frm++⟨#[0]⟩)=true ↔ k.data.toList < frm.data.toList++[0]:=by
    rw [zct];simp
   rw [Bool.eq_iff_iff,Bool.and_eq_true,Bool.not_eq_true',Bool.eq_false_iff,Ne,zct,h2,hl,beq_iff_eq,Lib.toList_data,Lib.toList_data]
 | false =>
   simp only [Bool.false_eq_true,if_false]
   cases h2:(end_.toList == [0]) with
   | true =>
     simp only [if_true];have:(ByteArray.empty).toList.isEmpty=true:=(by rw [Lib.toList_data];rfl);rw [this];simp [klt]
   | false =>
     simp only [Bool.false_eq_true,if_false];rw [h1];simp [klt]
set_option maxRecDepth 100000
theorem ztr {L:List Ev} {u:Value} (h:u∈L.flatMap evC):u.oneCell'=true:=by
 obtain ⟨x,_,hx⟩:=List.mem_flatMap.1 h;simp only [evC,kvC,List.mem_cons,List.mem_append,List.not_mem_nil,or_false] at hx;rcases hx with h | (h | h | h | h | h | h) | (h | h | h | h | h | h) <;> rw [h] <;> rfl
def oldB (rev:Int) (x:Ev):Bool:=decide (x.kv.mod < rev)
def keptB (rev:Int) (x:Ev):Bool:=!oldB rev x
def compG (rev:Int) (x:Gen):Gen:=if 1 < upTo x.puts rev then { x with cut:=x.cut+((upTo x.puts rev:Int) - 1),puts:=x.puts.drop (upTo x.puts rev - 1) } else x
def endB (rev:Int) (x:Gen):Bool:=decide (0 < x.end_) && decide (x.end_<=rev)
def compK (rev:Int) (K:List Gen):List Gen:=(K.filter fun x=>!endB rev x).map (compG rev)
end Go.Proofs.Ythljnnjpmdgkoaa