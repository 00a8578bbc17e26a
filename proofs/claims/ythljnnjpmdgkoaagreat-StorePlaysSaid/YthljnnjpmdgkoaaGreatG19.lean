/- Own lemmas and contracts that the claim's proof needs, laid together. The conditions stand in each. -/
import Derived.Test.YthljnnjpmdgkoaaGreatG16
import Derived.Test.YthljnnjpmdgkoaaGreatG06
import Derived.Test.YthljnnjpmdgkoaaGreatG15
import Derived.Test.YthljnnjpmdgkoaaGreatG18
import Derived.Test.YthljnnjpmdgkoaaGreatG17
import Derived.Test.YthljnnjpmdgkoaaGreatG05
import Derived.Deep.DeepCutAuto
import Derived.Deep.RegionHeld3
namespace Go.Proofs.YthljnnjpmdgkoaaGreat
open Go Go.Proofs Go.RowKit
def bareIf (g:Rg) (x:Kv):Kv:=if g.keys then { x with value:=ByteArray.empty } else x
def allA (g:Rg) (l:List Kv):List Kv:=(if g.desc then l.reverse else l).filter fun y=>inB y.key g.key g.end_
def outN (g:Rg) (n:Nat):Nat:=if g.limit=0 then n else min n g.limit.toNat
def outA (g:Rg) (l:List Kv):List Kv:=if g.count then [] else ((allA g l).take (outN g (allA g l).length)).map (bareIf g)
def moreA (g:Rg) (l:List Kv):Bool:=!g.count && decide ((outA g l).length < (allA g l).length)
theorem zsx (g:Rg) (n:Nat):outN g n<=n:=by unfold outN;split <;> omega
theorem zuw {g:Rg} (hc:g.count=false) (l:List Kv):(outA g l).length=outN g (allA g l).length:=by
 unfold outA;rw [hc];have:=zsx g (allA g l).length;simp only [Bool.false_eq_true,if_false,List.length_map,List.length_take];omega
theorem zrh (g:Rg) (l:List Kv):l.map (bareIf g)=if g.keys then l.map (fun x=>{ x with value:=ByteArray.empty }) else l:=by
 unfold bareIf;cases g.keys
 · simp
 simp
theorem zki {S:St} {g:Rg} {rev:Int} {l:List Kv} (h:allL S g rev=l.filter fun y=>inB y.key g.key g.end_) (h0:0<=g.limit) :
 getL S g rev=outA g l/\(allL S g rev).length=(allA g l).length/\moreB S g rev=moreA g l:=by
 have hA:allA g l=if g.desc then (allL S g rev).reverse else allL S g rev:=by
  unfold allA;rw [h]
  split
  · rw [List.filter_reverse]
  rfl
 have hlen:(allL S g rev).length=(allA g l).length:=by
  rw [hA];split <;> simp
 cases hc:g.count with
 | true =>
   refine ⟨?_,hlen,?_⟩
   · unfold getL outA;rw [hc];rfl
   unfold moreB moreA;rw [hc];rfl
 | false =>
   have ho:=zuw hc l
   have hmore:moreB S g rev=moreA g l:=by
    unfold moreB moreA;rw [hc,ho,hlen];unfold outN;rw [Bool.eq_iff_iff];simp only [Bool.not_false,Bool.true_and,Bool.and_eq_true,decide_eq_true_eq]
    split
    · omega
    omega
   refine ⟨?_,hlen,hmore⟩;unfold getL outA;rw [hc,zrh,<-hA];simp only [Bool.false_eq_true,if_false]
   have:cutL g (moreB S g rev) (allA g l)=(allA g l).take (outN g (allA g l).length):=by
    unfold cutL;rw [hmore];unfold moreA;rw [hc,ho];by_cases hm:outN g (allA g l).length < (allA g l).length
    · rw [decide_eq_true hm]
      unfold outN at hm ⊢
      split at hm
      · omega
      rename_i hl
      rw [if_neg hl];simp only [Bool.not_false,Bool.true_and,if_true];have e1:min (allA g l).length g.limit.toNat=g.limit.toNat:=(by omega);rw [e1]
    have e1:outN g (allA g l).length=(allA g l).length:=by have:=zsx g (allA g l).length;omega
    rw [decide_eq_false hm,e1,List.take_length]
    rfl
   rw [this]
structure RunD where
 now:List Kv
 A:List Ans
 E:List Ev
def wasL (l:List Kv) (key:ByteArray):Kv:=(hasL l key).getD kv0
def putD (l:List Kv) (o:Opr) (rev:Int):Ev :=
 ⟨1,⟨o.rg.key,o.value,if (wasL l o.rg.key).version=0 then rev else (wasL l o.rg.key).create,rev,(wasL l o.rg.key).version+1,o.lease⟩,wasL l o.rg.key⟩
def delG (o:Opr):Rg:=⟨o.rg.key,o.rg.end_,0,0,false,false,false⟩
def getD (D:Doc) (now:List Kv) (o:Opr):List Kv:=if o.rg.rev≠0 then D.at o.rg.rev else now
def stepD (D:Doc) (r:RunD) (o:Opr):RunD :=
 if o.kind=1 then ⟨doneL r.now (putD r.now o (D.rev+1)),r.A++[⟨1,told (putD r.now o (D.rev+1)),(told (putD r.now o (D.rev+1))).length,false⟩],r.E++[putD r.now o (D.rev+1)]⟩
 else if o.kind=3 then ⟨r.now,r.A++[⟨3,outA o.rg (getD D r.now o),(allA o.rg (getD D r.now o)).length,moreA o.rg (getD D r.now o)⟩],r.E⟩
 else ⟨(outA (delG o) r.now).foldl (fun l x=>doneL l (goneE x (D.rev+1))) r.now,r.A++[⟨o.kind,outA (delG o) r.now,(outA (delG o) r.now).length,false⟩],r.E++(outA (delG o) r.now).map fun x=>goneE x (D.rev+1)⟩
def runD (D:Doc) (ops:List Opr):RunD:=ops.foldl (stepD D) ⟨D.at D.rev,[],[]⟩
theorem zml (D:Doc) (ops:List Opr) {i:Nat} {o:Opr} (h:ops[i]? = some o):runD D (ops.take (i+1))=stepD D (runD D (ops.take i)) o:=by
 unfold runD;rw [List.take_add_one,h,List.foldl_append]
 rfl
theorem zic (o:Opr) (l:List Kv):outA (delG o) l=l.filter fun y=>inB y.key o.rg.key o.rg.end_:=by
 unfold outA allA outN delG bareIf;simp
theorem Doc.adds_append (D:Doc) (E G:List Ev):D.adds (E++G)=(D.adds E).adds G:=by unfold Doc.adds;rw [List.foldl_append]
theorem Doc.adds_at {r:Int} (G:List Ev):∀ D:Doc,(∀ e∈G,D.mark < e.kv.mod/\e.kv.mod<=r)->(D.adds G).at r=G.foldl doneL (D.at r):=by
 induction G with
 | nil=>intro D _;rfl
 | cons x G ih =>
   intro D h;have hx:=h x List.mem_cons_self;have e:D.adds (x :: G)=(D.add x).adds G:=rfl;rw [e,ih (D.add x) fun e he=>h e (List.mem_cons_of_mem _ he),Doc.add_at D x hx.1,if_pos hx.2]
   rfl
theorem zwt (rev:Int) (L:List Kv) (h:∀ x∈L,1<=x.version):∀ q:St × List Kv × List Ev,(L.foldl (goneR rev) q).2.1=q.2.1++L:=by
 induction L with
 | nil=>intro q;simp
 | cons x L ih =>
   intro q;rw [List.foldl_cons,ih fun y hy=>h y (List.mem_cons_of_mem _ hy)];unfold goneR;rw [zmg (h x List.mem_cons_self)];simp
theorem ztc {o:Opr} (h:oneE o=0):o.kind=1\/o.kind=2\/o.kind=3:=by
 unfold oneE at h;by_cases h3:o.kind=3
 · exact .inr (.inr h3)
 rw [if_neg h3] at h
 by_cases h2:o.kind=2
 · exact .inr (.inl h2)
 rw [if_neg h2] at h
 by_cases h1:o.kind=1
 · exact .inl h1
 rw [if_neg h1] at h;cases h
theorem zgz {g:Rg} (h:askE g=0):0<=g.rev/\0<=g.limit:=by
 unfold askE at h
 split at h
 · rename_i hk;exact absurd h hk
 split at h
 · cases h
 split at h
 · cases h
 omega
theorem zkc {S:St} {rev:Int} (h:whenE S rev=0):rev<=S.rev/\(rev≠0->S.mark<=rev):=by
 unfold whenE at h
 split at h
 · cases h
 split at h
 · cases h
 omega
theorem znx {S:St} {ops:List Opr} (h:whenAll S ops=0) {o:Opr} (ho:o∈ops) (h3:o.kind=3):whenE S o.rg.rev=0:=by
 unfold whenAll at h
 cases hf:ops.find? (fun o=>o.kind == 3 && whenE S o.rg.rev != 0) with
 | none =>
   have:=List.find?_eq_none.1 hf o ho;simpa [h3] using this
 | some q =>
   rw [hf] at h;have:=List.find?_some hf;simp at this;exact absurd h this.2
theorem Good.at_next {k:Nat} {S:St} {D:Doc} (h:Good k S D):D.at (D.rev+1)=D.at D.rev:=Doc.at_late (fun e he=>(h.doc.lo e he).2.2) (by omega) (Int.le_refl _)
theorem Good.runD {k:Nat} {S:St} {D:Doc} (h:Good k S D) (hk:k<=70) {ops:List Opr} (hc:checkE ops=0) (hw:whenAll S ops=0) (hks:∀ o∈ops,o.rg.key.size<=1099511627776) :
 ∀ i≤ ops.length,(Go.Proofs.YthljnnjpmdgkoaaGreat.runD D (ops.take i)).now=(D.adds (runR (D.rev+1) ⟨S,[],[]⟩ (ops.take i)).E).at (D.rev+1) ∧
  (Go.Proofs.YthljnnjpmdgkoaaGreat.runD D (ops.take i)).A=(runR (D.rev+1) ⟨S,[],[]⟩ (ops.take i)).A/\(Go.Proofs.YthljnnjpmdgkoaaGreat.runD D (ops.take i)).E=(runR (D.rev+1) ⟨S,[],[]⟩ (ops.take i)).E:=by
 intro i
 induction i with
 | zero=>intro _;exact ⟨h.at_next.symm,rfl,rfl⟩
 | succ i ih =>
   intro hi;obtain ⟨q1,q2,q3⟩:=ih (by omega);obtain ⟨o,ho⟩:∃ o,ops[i]? = some o:=⟨_,List.getElem?_eq_getElem (by omega)⟩;have hom:=List.mem_of_getElem? ho;have hone:=(zde hc).2.1 o hom;obtain ⟨⟨hr,_⟩,_⟩:=h.runs hk hc hks i (by omega);rw [zml _ _ ho,zmk _ _ _ ho];generalize Go.Proofs.YthljnnjpmdgkoaaGreat.runD D (ops.take i)=q at *;generalize runR (D.rev+1) ⟨S,[],[]⟩ (ops.take i)=r at *;obtain ⟨now,QA,QE⟩:=q;dsimp only at q1 q2 q3;subst q2 q3;have hm0:=h.cpl.m0;have hpt:=Doc.adds_parts D r.E;have hmark:(D.adds r.E).mark<=D.rev+1:=(by rw [hpt.1];omega);have hks':KSorted (D.adds r.E).kvs:=(by rw [hpt.2.1];exact h.cpl.ks);have hlv:=hr.cpl.lives o.rg.key (D.rev+1) hmark
   have hl1:(livesS r.S o.rg.key (D.rev+1)).1=wasL now o.rg.key:=by
    unfold wasL;rw [hlv,q1];cases hasL ((D.adds r.E).at (D.rev+1)) o.rg.key <;> rfl
   have hadd:∀ G:List Ev,(∀ e∈G,e.kv.mod=D.rev+1)->(D.adds (r.E++G)).at (D.rev+1)=G.foldl doneL now:=fun G hG=>by
    rw [Doc.adds_append,Doc.adds_at G (D.adds r.E) fun e he=>by rw [hpt.1,hG e he];omega,<-q1]
   rcases ztc hone with hk1 | hk2 | hk3
   · have hp:zau r.S o (D.rev+1)=putD now o (D.rev+1):=by unfold zau putD;rw [hl1]
     unfold stepD stepR;rw [if_pos hk1,if_pos hk1,hp];refine ⟨?_,rfl,rfl⟩;dsimp only;rw [hadd _ fun e he=>by rw [List.mem_singleton.1 he];rfl]
     rfl
   · have h1:¬ o.kind=1:=by omega
     have h3:¬ o.kind=3:=(by omega);have hbt:zaw r.S o.rg.key o.rg.end_ (D.rev+1)=outA (delG o) now:=(by rw [hr.between hm0.2,<-q1,zic])
     have hver:∀ x∈outA (delG o) now,1<=x.version:=fun x hx=>by
      rw [zic,q1] at hx;exact (hr.doc.ver_at hks' (List.mem_filter.1 hx).1).1
     unfold stepD stepR;rw [if_neg h1,if_neg h1,if_neg h3,if_pos hk2,hbt];dsimp only;refine ⟨?_,?_,?_⟩
     · rw [ztq]
       dsimp only;rw [hadd _ fun e he=>by obtain ⟨x,_,rfl⟩:=List.mem_map.1 he;rfl,List.foldl_map]
     · rw [zwt _ _ hver]
       dsimp only;rw [hk2]
       rfl
     rw [ztq]
   have h1:¬ o.kind=1:=by omega
   have h2:¬ o.kind=2:=(by omega)
   have hask:askE o.rg=0:=by
    unfold oneE at hone;rw [if_pos hk3] at hone;exact hone
   obtain ⟨g0,g1⟩:=zgz hask;obtain ⟨e1,e2⟩:=zkc (znx hw hom hk3);rw [h.rev] at e1;rw [h.cpl.mark] at e2
   have hall:allL r.S o.rg (D.rev+1)=(getD D now o).filter fun y=>inB y.key o.rg.key o.rg.end_:=by
    unfold allL revOf getD;by_cases hz:o.rg.rev≠0
    · rw [if_pos hz,if_pos hz]
      unfold zaw;rw [hr.cpl.between hr.srt _ _ (by rw [hpt.1];exact e2 hz),Doc.adds_at_old D r.E fun e he=>by rw [hr.mods e he];omega]
      congr 1
      funext y
      exact zkt _ _ _
    rw [if_neg hz,if_neg hz,hr.between hm0.2,<-q1]
   obtain ⟨a1,a2,a3⟩:=zki hall g1;unfold stepD stepR;rw [if_neg h1,if_neg h1,if_pos hk3,if_neg h2,if_pos hk3,a1,a2,a3];exact ⟨q1,rfl,rfl⟩
def zbf (D:Doc) (E:List Ev):Doc:=if E = [] then D else ⟨D.rev+1,D.mark,D.kvs,D.events++E⟩
theorem zjk (D:Doc) (E:List Ev) (h:∀ e∈E,e.kv.mod=D.rev+1):D.adds E=zbf D E:=by
 have h1:=Doc.adds_rev D E _ h;have h2:=Doc.adds_parts D E;unfold zbf;by_cases hE:E = []
 · subst hE;rfl
 rw [if_neg hE] at h1 ⊢
 obtain ⟨a,b,c⟩:=h2;cases hD:D.adds E
 rw [hD] at h1 a b c;dsimp only at h1 a b c;rw [h1,a,b,c]
def whenD (D:Doc) (rev:Int):Int:=if D.rev < rev then 33 else if rev≠0/\rev < D.mark then 32 else 0
theorem Good.when {k:Nat} {S:St} {D:Doc} (h:Good k S D) (rev:Int):whenE S rev=whenD D rev:=by unfold whenE whenD;rw [h.rev,h.cpl.mark]
def zax (D:Doc) (ops:List Opr):Int:=match ops.find? fun o=>o.kind == 3 && whenD D o.rg.rev != 0 with
 | some o=>whenD D o.rg.rev
 | none=>0
theorem Good.whenAll {k:Nat} {S:St} {D:Doc} (h:Good k S D) (ops:List Opr):Go.Proofs.YthljnnjpmdgkoaaGreat.whenAll S ops=zax D ops:=by
 unfold Go.Proofs.YthljnnjpmdgkoaaGreat.whenAll zax;simp only [h.when];cases ops.find? (fun o=>o.kind == 3 && whenD D o.rg.rev != 0) <;> rfl
def zaz (D:Doc) (ops:List Opr):Int:=if checkE ops≠0 then checkE ops else if zax D ops≠0 then zax D ops else if (runD D ops).E≠[]/\top<=D.rev then 37 else 0
def zdk (D:Doc) (ops:List Opr):Doc:=if zaz D ops=0 then zbf D (runD D ops).E else D
theorem Good.applyDoc {k:Nat} {S:St} {D:Doc} (h:Good k S D) (hk:k<=70) {ops:List Opr} (hks:∀ o∈ops,o.rg.key.size<=1099511627776) :
 applyE S ops=zaz D ops/\(applyE S ops=0->(runR (S.rev+1) ⟨S,[],[]⟩ ops).A=(Go.Proofs.YthljnnjpmdgkoaaGreat.runD D ops).A/\(runR (S.rev+1) ⟨S,[],[]⟩ ops).E=(Go.Proofs.YthljnnjpmdgkoaaGreat.runD D ops).E/\applyD S D ops=zdk D ops):=by
 have hr1:=h.rev1
 have he:applyE S ops=zaz D ops:=by
  unfold applyE zaz;rw [h.whenAll];by_cases h1:checkE ops≠0
  · rw [if_pos h1,if_pos h1]
  rw [if_neg h1,if_neg h1]
  by_cases h2:zax D ops≠0
  · rw [if_pos h2]
  rw [if_neg h2,if_neg fun hh=>by have:=hh.2;unfold top at this;omega]
  simpa using h2
 refine ⟨he,fun h0=>?_⟩;obtain ⟨e1,e2⟩:=zcg h0;obtain ⟨_,a,b⟩:=h.runD hk e1 e2 hks ops.length (Nat.le_refl _);obtain ⟨⟨hro,_⟩,_⟩:=h.runs hk e1 hks ops.length (Nat.le_refl _);rw [List.take_length] at a b hro;rw [h.rev];refine ⟨a.symm,b.symm,?_⟩;unfold applyD zdk;rw [if_pos (he ▸ h0),b];exact zjk D _ hro.mods
def dropQ (rev:Int) (q:List Kv × List Ev) (k:ByteArray):List Kv × List Ev :=
 if 0 < (wasL q.1 k).version then (doneL q.1 (dropE k rev (wasL q.1 k)),q.2++[dropE k rev (wasL q.1 k)]) else q
def dropsQ (D:Doc) (keys:List ByteArray):List Kv × List Ev:=keys.foldl (dropQ (D.rev+1)) (D.at D.rev,[])
theorem zgh (D:Doc) (keys:List ByteArray) {i:Nat} {k:ByteArray} (h:keys[i]? = some k):dropsQ D (keys.take (i+1))=dropQ (D.rev+1) (dropsQ D (keys.take i)) k:=by
 unfold dropsQ;rw [List.take_add_one,h,List.foldl_append]
 rfl
def dropDE (D:Doc) (keys:List ByteArray):Int:=if (dropsQ D keys).2≠[]/\top<=D.rev then 37 else 0
def dropDD (D:Doc) (keys:List ByteArray):Doc:=if dropDE D keys=0 then zbf D (dropsQ D keys).2 else D
theorem Good.dropsQ {k:Nat} {S:St} {D:Doc} (h:Good k S D) (hk:k<=70) (keys:List ByteArray) (hl:keys.length<=30) :
 ∀ i≤ keys.length,Go.Proofs.YthljnnjpmdgkoaaGreat.dropsQ D (keys.take i)=((D.adds (dropTo (D.rev+1) S keys i).2).at (D.rev+1),(dropTo (D.rev+1) S keys i).2):=by
 intro i
 induction i with
 | zero=>intro _;exact Prod.ext h.at_next.symm rfl
 | succ i ih =>
   intro hi;obtain ⟨x,hx⟩:∃ x,keys[i]? = some x:=⟨_,List.getElem?_eq_getElem (by omega)⟩;obtain ⟨hr,_⟩:=h.drops hk keys hl i (by omega);rw [zgh _ _ hx,zgi _ _ _ hx,ih (by omega)];generalize dropTo (D.rev+1) S keys i=q at *;have hm0:=h.cpl.m0;have hpt:=Doc.adds_parts D q.2;have hks':KSorted (D.adds q.2).kvs:=(by rw [hpt.2.1];exact h.cpl.ks);have hlv:=hr.cpl.lives x (D.rev+1) (by rw [hpt.1];omega);unfold dropQ dropR;dsimp only
   have hw:(livesS q.1 x (D.rev+1)).1=wasL ((D.adds q.2).at (D.rev+1)) x:=by
    unfold wasL;rw [hlv];cases hasL ((D.adds q.2).at (D.rev+1)) x <;> rfl
   have hb:(livesS q.1 x (D.rev+1)).2=true ↔ 0 < (wasL ((D.adds q.2).at (D.rev+1)) x).version:=by
    unfold wasL;rw [hlv]
    cases hh:hasL ((D.adds q.2).at (D.rev+1)) x with
    | none=>exact ⟨fun e=>(by cases e),fun e=>(by have e':(0:Int) < 0:=e;omega)⟩
    | some y =>
      have:=(hr.doc.ver_at hks' ((zcb (Doc.at_sorted hks' _) x y).1 hh).1).1;exact ⟨fun _=>(by show 0 < y.version;omega),fun _=>rfl⟩
   by_cases hv:0 < (wasL ((D.adds q.2).at (D.rev+1)) x).version
   · rw [if_pos hv,if_pos (hb.2 hv),hw]
     dsimp only;rw [Doc.adds_append,Doc.adds_at [dropE x (D.rev+1) (wasL ((D.adds q.2).at (D.rev+1)) x)] (D.adds q.2) fun e he=>by rw [hpt.1,List.mem_singleton.1 he];show D.mark < D.rev+1/\D.rev+1<=D.rev+1;omega]
     rfl
   rw [if_neg hv,if_neg fun e=>hv (hb.1 e)]
theorem Good.dropDoc {k:Nat} {S:St} {D:Doc} (h:Good k S D) (hk:k<=70) (keys:List ByteArray) (hl:keys.length<=30) :
 dropDE D keys=0/\(keys.foldl (dropR (S.rev+1)) (S,[])).2=(Go.Proofs.YthljnnjpmdgkoaaGreat.dropsQ D keys).2/\dropD S D keys=dropDD D keys:=by
 have hr1:=h.rev1;have h0:dropDE D keys=0:=by unfold dropDE;rw [if_neg fun hh=>by have:=hh.2;unfold top at this;omega]
 have hq:=h.dropsQ hk keys hl keys.length (Nat.le_refl _);obtain ⟨hr,_⟩:=h.drops hk keys hl keys.length (Nat.le_refl _);have he:dropTo (D.rev+1) S keys keys.length=keys.foldl (dropR (D.rev+1)) (S,[]):=by unfold dropTo;rw [List.take_length]
 rw [List.take_length,he] at hq;rw [he] at hr;refine ⟨h0,by rw [hq,h.rev],?_⟩;unfold dropD dropDD;rw [if_pos h0,hq];exact zjk D _ hr.mods
def zgd (D:Doc) (g:Rg):Int:=if askE g≠0 then askE g else whenD D g.rev
def zbc (D:Doc) (g:Rg):List Kv:=D.at (if g.rev=0 then D.rev else g.rev)
theorem Good.rangeDoc {k:Nat} {S:St} {D:Doc} (h:Good k S D) (g:Rg) :
 rangeE S g=zgd D g/\(rangeE S g=0->getL S g S.rev=outA g (zbc D g)/\(allL S g S.rev).length=(allA g (zbc D g)).length/\moreB S g S.rev=moreA g (zbc D g)):=by
 have he:rangeE S g=zgd D g:=by unfold rangeE zgd;rw [h.when]
 refine ⟨he,fun h0=>?_⟩;unfold rangeE at h0
 split at h0
 · rename_i hk;exact absurd h0 hk
 rename_i hk
 obtain ⟨g0,g1⟩:=zgz (by simpa using hk);obtain ⟨e1,e2⟩:=zkc h0;have hm0:=h.cpl.m0;rw [h.rev] at e1;rw [h.cpl.mark] at e2;refine zki ?_ g1;unfold allL revOf zbc;rw [h.rev];by_cases hz:g.rev=0
 · rw [if_neg (by simpa using hz),if_pos hz]
   unfold zaw;rw [h.cpl.between h.srt _ _ hm0.2]
   congr 1
   funext y
   exact zkt _ _ _
 rw [if_pos hz,if_neg hz]
 unfold zaw;rw [h.cpl.between h.srt _ _ (e2 hz)]
 congr 1
 funext y
 exact zkt _ _ _
def zbq (D:Doc) (a b:Int):Int:=if a < 1\/b < a then 1 else if D.rev < b then 33 else if a < D.mark then 32 else 0
def zby (D:Doc) (rev:Int):Int:=if D.rev < rev then 33 else if rev<=D.mark then 32 else 0
theorem Good.eventsDoc {k:Nat} {S:St} {D:Doc} (h:Good k S D) (a b:Int):zje S a b=zbq D a b/\S.events=D.events:=by
 refine ⟨?_,h.cpl.events⟩;unfold zje zbq;rw [h.rev,h.cpl.mark]
theorem Good.compactDoc {k:Nat} {S:St} {D:Doc} (h:Good k S D) (rev:Int):zbr S rev=zby D rev:=by
 unfold zbr zby;rw [h.rev,h.cpl.mark]
set_option maxRecDepth 100000
theorem zgn (w:World) (D:Doc) (a1 a2:Option Addr) (n1 n2 c1 c2:Nat) (r:Int) :
 Calls Tryz.prog 106 #[docV D (.slice a1 n1 c1) (.slice a2 n2 c2),.int .i64 r] w fun e w'=>e = .returned (.int .i64 (whenD D r))/\Fr No w w':=by
 unfold docV whenD;by_cases h1:D.rev < r
 · have h1':decide (r > D.rev)=true:=decide_eq_true h1
   rw [if_pos h1];go_enter Tryz.func106,Tryz.ntmps106;go_wp2;go_ret;exact ⟨rfl,(Fr.refl No w).alloc _⟩
 have h1':decide (r > D.rev)=false:=decide_eq_false h1
 rw [if_neg h1];by_cases h2:r=0
 · subst h2
   rw [if_neg (by simp)];go_enter Tryz.func106,Tryz.ntmps106;go_wp2;go_ret;exact ⟨rfl,(Fr.refl No w).alloc _⟩
 have h2b:(r == 0)=false:=beq_eq_false_iff_ne.2 h2
 by_cases h3:r < D.mark
 · have h3':decide (r < D.mark)=true:=decide_eq_true h3
   rw [if_pos ⟨h2,h3⟩];go_enter Tryz.func106,Tryz.ntmps106;go_wp2;go_ret;exact ⟨rfl,(Fr.refl No w).alloc _⟩
 have h3':decide (r < D.mark)=false:=decide_eq_false h3
 rw [if_neg fun h=>h3 h.2];go_enter Tryz.func106,Tryz.ntmps106;go_wp2;go_ret;exact ⟨rfl,(Fr.refl No w).alloc _⟩
theorem zwe {α:Type} {f:α->List Value} {w:World} {e sz:Nat} {v:Value} {L:List α} {n:Nat} (h:SlF w e sz f v L) (hn:L.length=n):∃ a cap,v = .slice a n cap/\n<=cap/\cap<=maxLen/\(0 < n->∃ g o,a=some ⟨g,o,none⟩):=by
 obtain ⟨a,cap,h1,h2,h3,h4⟩:=h.shape;rw [hn] at h1 h2 h4;exact ⟨a,cap,h1,h2,h3,h4⟩
set_option maxHeartbeats 16000000 in
theorem zcp (w:World) (v:Value) (L:List Kv) (hv:SlR w 6 kvC v L) (hl:L.length<=100000000) (g:Rg) (h0:0<=g.limit) :
 Calls Tryz.prog 107 #[v,rgV g] w fun e w'=>∃ v',e = .returned (.tuple #[v',.int .i64 (allA g L).length,.bool (moreA g L)])/\SlF w' 99 6 kvC v' (outA g L)/\(∀ b,v'.ownBlock=some b->w.heap.size<=b)/\Fr No w w':=by
 obtain ⟨va,vcap,rfl,hv1,hv2,hv3⟩:=hv.shape;obtain ⟨i0,hi0,hz0,hz1,hz2⟩:=info_parts info57;have hmo:moreA g L=(!g.count && decide ((outA g L).length < (allA g L).length)):=rfl;have hout:g.count=false->outA g L=((allA g L).take (outN g (allA g L).length)).map (bareIf g):=fun hc=>by unfold outA;rw [hc];rfl
 have houc:g.count=true->outA g L = []:=fun hc=>by unfold outA;rw [hc];rfl
 have hon:outN g (allA g L).length=if g.limit=0 then (allA g L).length else min (allA g L).length g.limit.toNat:=rfl;have hAL:allA g L=(if g.desc then L.reverse else L).filter fun y=>inB y.key g.key g.end_:=rfl
 have hal:(allA g L).length<=100000000:=by
  rw [hAL];refine Nat.le_trans (List.length_filter_le _ _) ?_
  split
  · rw [List.length_reverse];exact hl
  exact hl
 have hmx:∀ i,i < L.length->∃ x y,L[i]? = some x/\(if g.desc then L.reverse else L)[i]? = some y/\(g.desc=false->y=x)/\(g.desc=true->L[L.length - 1 - i]? = some y):=fun i hi=>by
  cases g.desc with
  | false=>exact ⟨L[i],L[i],List.getElem?_eq_getElem hi,List.getElem?_eq_getElem hi,fun _=>rfl,fun h=>(by cases h)⟩
  | true =>
    have h1:L.reverse[i]? = L[L.length - 1 - i]?:=List.getElem?_reverse hi;have h2:L[L.length - 1 - i]? = some L[L.length - 1 - i]:=List.getElem?_eq_getElem (by omega);exact ⟨L[i],L[L.length - 1 - i],List.getElem?_eq_getElem hi,h1.trans h2,fun h=>(by cases h),fun _=>h2⟩
 have hML:(if g.desc then L.reverse else L).length=L.length:=by split <;> simp
 generalize hM:(if g.desc then L.reverse else L)=M at *;have hbi:∀ x:Kv,bareIf g x=if g.keys then { x with value:=ByteArray.empty } else x:=fun _=>rfl;have HBI:=H_ hbi;generalize hBF:bareIf g=BF at *;generalize allA g L=A at *;generalize outN g A.length=K at *;generalize outA g L=O at *;generalize moreA g L=mo at *;obtain ⟨g1,g2,g3,g4,g5,g6,g7⟩:=g;unfold rgV;dsimp only at *;have HAL:=H_ hAL;have HMX:=H_ hmx;have HMO:=H_ hmo;have HOUT:=H_ hout;have HOUC:=H_ houc;have HON:=H_ hon;have HV0:=H_ hv3;have HML:=H_ hML;clear hAL hmx hmo hout houc hon hv3 hM hBF hbi hML;have hb1:=zad w (Obj.cells #[.string g1,.string g2,.int .i64 g3,.int .i64 g4,.bool g5,.bool g6,.bool g7] 35) _ rfl
 have hf1:Fr No w (w.alloc (Obj.cells #[.string g1,.string g2,.int .i64 g3,.int .i64 g4,.bool g5,.bool g6,.bool g7] 35)):=(Fr.refl No w).alloc _;have HB1:=H_ hb1;have HF1:=H_ hf1;have HV:=H_ (hv.fr0 hf1);clear hb1 hf1 hv;go_enter Tryz.func107,Tryz.ntmps107;go_wp2;generalize w.alloc (Obj.cells #[.string g1,.string g2,.int .i64 g3,.int .i64 g4,.bool g5,.bool g6,.bool g7] 35)=W1 at *;have hws:w.heap.size < W1.heap.size:=zac HB1.out
 go_loopg [7,8] L.length (fun g s7 s8 wr=>∃ (i:Nat) (o:Value),s7=o/\s8 = .int .i64 i/\i+g=L.length/\Hid (SlF wr 99 6 kvC o ((M.take i).filter fun y=>inB y.key g1 g2))/\Hid (∀ b,o.ownBlock=some b->W1.heap.size<=b)/\Hid (Fr No W1 wr))
 case atStart=>exact ⟨0,_,rfl,rfl,by simp,H_ (by simpa using SlF.nil _ _ _ _),H_ (by simp [Value.ownBlock]),H_ (Fr.refl No W1)⟩
 case round =>
  obtain ⟨i,o,rfl,rfl,hi,HO,HON1,HF⟩:=hrel;have hb:=HF.out.heap HB1.out id;have lb:=zac hb;have b0:=cellAt hb 0 rfl;have b1:=cellAt hb 1 rfl;have b3:=cellAt hb 3 rfl;have b4:=cellAt hb 4 rfl;have b5:=cellAt hb 5 rfl;have b6:=cellAt hb 6 rfl
  cases gk with
  | zero =>
    have hil:¬ (i:Int) < (L.length:Int):=(by omega);have hti:M.take i=M:=List.take_of_length_le (by have:=HML.out;omega);have hA:=HO.out;rw [hti,<-HAL.out] at hA;clear HO hti HMX hb;obtain ⟨oa,ocap,rfl,ho1,ho2,ho3⟩:=hA.shape;have HA:=H_ hA;have HO3:=H_ ho3;clear hA ho3
    cases g6 with
    | true =>
      have HE:Hid (mo=false):=H_ (by rw [HMO.out];rfl);have HE2:Hid (O = []):=H_ (HOUC.out rfl);go_wp2;go_ret3;exact ⟨_,by rw [HE.out];rfl,by rw [HE2.out];exact SlF.nil _ _ _ _,by simp [Value.ownBlock],HF1.out.trans0 HF.out⟩
    | false =>
      have HOU:Hid (O=(A.take K).map BF):=H_ (HOUT.out rfl);have hK:K<=A.length:=(by rw [HON.out];split <;> omega);have hOK:O.length=K:=(by rw [HOU.out,List.length_map,List.length_take];omega);go_wp2;clear b0 b1 b3 b4 b5 b6 lb;generalize wr=WA at *
      go_loopg [10,11] K (fun g s10 s11 wx=>∃ (j:Nat) (u:Value),s10=u/\s11 = .int .i64 j/\j+g=K/\Hid (SlF wx 99 6 kvC u ((A.take j).map BF))/\Hid (∀ b,u.ownBlock=some b->WA.heap.size<=b)/\Hid (Fr No WA wx))
      case atStart=>exact ⟨0,_,rfl,rfl,by simp,H_ (by simpa using SlF.nil _ _ _ _),H_ (by simp [Value.ownBlock]),H_ (Fr.refl No WA)⟩
      case round =>
       obtain ⟨j,u,rfl,rfl,hj,HU,HUN,HG⟩:=hrel;have hb:=(HF.out.trans0 HG.out).heap HB1.out id;have lb:=zac hb;have b3:=cellAt hb 3 rfl;have b4:=cellAt hb 4 rfl;have hua:=HA.out.fr0 HG.out;have hlen:((A.take j).map BF).length=j:=(by rw [List.length_map,List.length_take];omega);obtain ⟨ua,ucap,rfl,hu1,hu2,_⟩:=zwe HU.out hlen
       cases gk with
       | zero =>
         have hjk:j=K:=(by omega);subst hjk;by_cases hjn:j < A.length
         · have hil2:(j:Int) < (A.length:Int):=by omega
           have hlim:g4≠0/\¬ (j:Int) < g4:=by
            have h1:=HON.out;by_cases hz:g4=0
            · rw [if_pos hz] at h1;omega
            rw [if_neg hz] at h1;exact ⟨hz,by omega⟩
           obtain ⟨hlz,hlj⟩:=hlim;have hlb:(g4 == 0)=false:=beq_eq_false_iff_ne.2 hlz;have HE:Hid (mo=true):=H_ (by rw [HMO.out,hOK];simp;omega);go_wp2;go_ret3;exact ⟨_,by rw [HE.out];rfl,by rw [HOU.out];exact HU.out,fun b hb=>by have:=HUN.out b hb;have:=HF.out.size;omega,HF1.out.trans0 (HF.out.trans0 HG.out)⟩
         have hil2:¬ (j:Int) < (A.length:Int):=by omega
         have HE:Hid (mo=false):=H_ (by rw [HMO.out,hOK];simp;omega);go_wp2;go_ret3;exact ⟨_,by rw [HE.out];rfl,by rw [HOU.out];exact HU.out,fun b hb=>by have:=HUN.out b hb;have:=HF.out.size;omega,HF1.out.trans0 (HF.out.trans0 HG.out)⟩
       | succ g =>
         obtain ⟨ga,go,rfl⟩:=HO3.out (by omega);obtain ⟨y,hy⟩:∃ y,A[j]? = some y:=⟨_,List.getElem?_eq_getElem (by omega)⟩;have hil2:(j:Int) < (A.length:Int):=(by omega)
         have hlim:g4=0\/(g4≠0/\(j:Int) < g4):=by
          have h1:=HON.out;by_cases hz:g4=0
          · exact .inl hz
          rw [if_neg hz] at h1;exact .inr ⟨hz,by omega⟩
         have hstep:(A.take (j+1)).map BF=(A.take j).map BF++[BF y]:=(by rw [List.take_add_one,hy];simp);have f0:=hua.cell0 zae j hy rfl;have f1:=hua.cell zae j 1 hy rfl;have f2:=hua.cell zae j 2 hy rfl;have f3:=hua.cell zae j 3 hy rfl;have f4:=hua.cell zae j 4 hy rfl;have f5:=hua.cell zae j 5 hy rfl;have lf:=World.block_lt_of_cell? _ _ f0;have hz:=HBI.out y;generalize BF y=z at hz hstep;have HST:=H_ hstep;have HZ:=H_ hz;clear hy hua hstep hz hb;obtain ⟨y1,y2,y3,y4,y5,y6⟩:=y;obtain ⟨z1,z2,z3,z4,z5,z6⟩:=z;dsimp only at f0 f1 f2 f3 f4 f5 HZ;have hloop:g4=0\/(g4≠0/\(j:Int) < g4):=hlim;rcases hlim with rfl | ⟨hlz,hlj⟩
         · go_upto_if 70 with fail
           go_cut [71] (fun _ wy=>Hid (wy.heap[wr.heap.size]? = some (.cells #[.string z1,.string z2,.int .i64 z3,.int .i64 z4,.int .i64 z5,.int .i64 z6] 99 (0,0)))/\Hid (Fr No wr wy))
           case first =>
            cases g5 with
            | false =>
              have hxy:=HZ.out;simp only [Bool.false_eq_true,if_false] at hxy;cases hxy
              go_wp2;go_meet
              case rel=>exact ⟨H_ (zad _ _ _ rfl),H_ ((Fr.refl No wr).alloc _)⟩
            | true =>
              have hxy:=HZ.out;simp only [if_true] at hxy;cases hxy
              go_wp2;go_meet
              case rel=>exact ⟨H_ (zad _ _ _ rfl),H_ ((Fr.refl No wr).alloc _)⟩
           case rest =>
            obtain ⟨HBN,HFC⟩:=hcut;have hbn:=HBN.out;obtain ⟨p0,p1,p2,p3,p4,p5⟩:=cells6 hbn;have lbn:=zac hbn;have HOC:=H_ (HU.out.fr0 HFC.out);have HFW:=H_ (HG.out.trans0 HFC.out);have HNK:=H_ (zar wc (kvC ⟨z1,z2,z3,z4,z5,z6⟩) 99 (0,0));clear hbn f0 f1 f2 f3 f4 f5 lf b3 b4 lb;have hlen':((A.take j).map BF).length+1<=100000001:=(by omega);go_wp2_with (at_builtin;refine zbd rfl _ _ 27 rfl 99 i0 _ 6 64 Tryz.underlying27 hi0 hz0 hz1 hz2 rfl (by decide) _ ((A.take j).map BF) rfl (HOC.out.alloc _) WA HUN.out (HFW.out.alloc _) wc.heap.size 1 ⟨z1,z2,z3,z4,z5,z6⟩ rfl HNK.out rfl (zdj _) (by unfold maxLen;omega) (by omega) ?_);intro g6 o6 cap6 w6 hs6 hg6 hf6 hlt6;have hlen2:min j A.length=j:=(by omega);rw [hlen2] at hs6;have HS6:=H_ hs6;have HF6:=H_ hf6;clear hs6 hf6;simp only [hlen2];go_wp2;go_roundg g
            case rel=>exact ⟨j+1,_,rfl,by go_num,by omega,H_ (by rw [HST.out,List.map_take];exact HS6.out),H_ (zbu hg6),HF6⟩
            case measure=>omega
         have hlb:(g4 == 0)=false:=beq_eq_false_iff_ne.2 hlz
         go_upto_if 70 with fail
         go_cut [71] (fun _ wy=>Hid (wy.heap[wr.heap.size]? = some (.cells #[.string z1,.string z2,.int .i64 z3,.int .i64 z4,.int .i64 z5,.int .i64 z6] 99 (0,0)))/\Hid (Fr No wr wy))
         case first =>
          cases g5 with
          | false =>
            have hxy:=HZ.out;simp only [Bool.false_eq_true,if_false] at hxy;cases hxy
            go_wp2;go_meet
            case rel=>exact ⟨H_ (zad _ _ _ rfl),H_ ((Fr.refl No wr).alloc _)⟩
          | true =>
            have hxy:=HZ.out;simp only [if_true] at hxy;cases hxy
            go_wp2;go_meet
            case rel=>exact ⟨H_ (zad _ _ _ rfl),H_ ((Fr.refl No wr).alloc _)⟩
         case rest =>
          obtain ⟨HBN,HFC⟩:=hcut;have hbn:=HBN.out;obtain ⟨p0,p1,p2,p3,p4,p5⟩:=cells6 hbn;have lbn:=zac hbn;have HOC:=H_ (HU.out.fr0 HFC.out);have HFW:=H_ (HG.out.trans0 HFC.out);have HNK:=H_ (zar wc (kvC ⟨z1,z2,z3,z4,z5,z6⟩) 99 (0,0));clear hbn f0 f1 f2 f3 f4 f5 lf b3 b4 lb;have hlen':((A.take j).map BF).length+1<=100000001:=(by omega);go_wp2_with (at_builtin;refine zbd rfl _ _ 27 rfl 99 i0 _ 6 64 Tryz.underlying27 hi0 hz0 hz1 hz2 rfl (by decide) _ ((A.take j).map BF) rfl (HOC.out.alloc _) WA HUN.out (HFW.out.alloc _) wc.heap.size 1 ⟨z1,z2,z3,z4,z5,z6⟩ rfl HNK.out rfl (zdj _) (by unfold maxLen;omega) (by omega) ?_);intro g6 o6 cap6 w6 hs6 hg6 hf6 hlt6;have hlen2:min j A.length=j:=(by omega);rw [hlen2] at hs6;have HS6:=H_ hs6;have HF6:=H_ hf6;clear hs6 hf6;simp only [hlen2];go_wp2;go_roundg g
          case rel=>exact ⟨j+1,_,rfl,by go_num,by omega,H_ (by rw [HST.out,List.map_take];exact HS6.out),H_ (zbu hg6),HF6⟩
          case measure=>omega
  | succ g =>
    have hil:(i:Int) < (L.length:Int):=(by omega);obtain ⟨x,y,hx,hy,hdf,hdt⟩:=HMX.out i (by omega);obtain ⟨ga,go,rfl⟩:=HV0.out (by omega)
    have hstep:(M.take (i+1)).filter (fun y=>inB y.key g1 g2)=(M.take i).filter (fun y=>inB y.key g1 g2)++if inB y.key g1 g2=true then [y] else []:=by
     rw [List.take_add_one,hy,List.filter_append];simp only [Option.toList_some,List.filter_cons,List.filter_nil]
    have hol:((M.take i).filter fun y=>inB y.key g1 g2).length<=100000000:=by
     refine Nat.le_trans (List.length_filter_le _ _) ?_;rw [List.length_take];have:=HML.out;omega
    have hua:=HV.out.fr0 HF.out;have f0:=hua.cell0 zae i hx rfl;have f1:=hua.cell zae i 1 hx rfl;have f2:=hua.cell zae i 2 hx rfl;have f3:=hua.cell zae i 3 hx rfl;have f4:=hua.cell zae i 4 hx rfl;have f5:=hua.cell zae i 5 hx rfl;have lf:=World.block_lt_of_cell? _ _ f0;have HUA:=H_ hua;have HST:=H_ hstep;have HDF:=H_ hdf;have HDT:=H_ hdt;clear hx hy hua hstep hdf hdt hb;obtain ⟨x1,x2,x3,x4,x5,x6⟩:=x;obtain ⟨y1,y2,y3,y4,y5,y6⟩:=y;dsimp only at f0 f1 f2 f3 f4 f5 HST;generalize hOL:(M.take i).filter (fun y=>inB y.key g1 g2)=OL at *;clear hOL;obtain ⟨oa,ocap,rfl,ho1,ho2,_⟩:=HO.out.shape;go_upto_if 24 with fail
    go_cut [32] (fun _ wy=>Hid (wy.heap[wr.heap.size]? = some (.cells #[.string y1,.string y2,.int .i64 y3,.int .i64 y4,.int .i64 y5,.int .i64 y6] 99 (0,0)))/\Hid (Fr No wr wy))
    case first =>
     cases g7 with
     | false =>
       have hxy:=HDF.out rfl;cases hxy
       go_wp2;go_meet
       case rel=>exact ⟨H_ (zad _ _ _ rfl),H_ ((Fr.refl No wr).alloc _)⟩
     | true =>
       have hdt:=HDT.out rfl;obtain ⟨m,hm⟩:∃ m:Nat,m=L.length - 1 - i:=⟨_,rfl⟩;rw [<-hm] at hdt;have q0:=HUA.out.cell0 zae m hdt rfl;have q1:=HUA.out.cell zae m 1 hdt rfl;have q2:=HUA.out.cell zae m 2 hdt rfl;have q3:=HUA.out.cell zae m 3 hdt rfl;have q4:=HUA.out.cell zae m 4 hdt rfl;have q5:=HUA.out.cell zae m 5 hdt rfl;dsimp only at q0 q1 q2 q3 q4 q5;have hme:(L.length:Int) - 1 - (i:Int)=(m:Int):=(by omega);have hml:(m:Int) < (L.length:Int):=(by omega);have hw1:IntKind.i64.wrap ((L.length:Int) - 1)=(L.length:Int) - 1:=(by rw [IntKind.wrap_i64];omega);have hw2:IntKind.i64.wrap (m:Int)=(m:Int):=(by rw [IntKind.wrap_i64];omega);clear hdt hm;go_wp2;go_meet
       case rel=>exact ⟨H_ (zad _ _ _ rfl),H_ ((Fr.refl No wr).alloc _)⟩
    case rest =>
     obtain ⟨HBN,HFC⟩:=hcut;have hbn:=HBN.out;obtain ⟨p0,p1,p2,p3,p4,p5⟩:=cells6 hbn;have lbn:=zac hbn;have c0:=HFC.out.cell0 b0;have c1:=HFC.out.cell0 b1;have lbc:=World.block_lt_of_cell? _ _ c0;have HOC:=H_ (HO.out.fr0 HFC.out);have HFW:=H_ (HF.out.trans0 HFC.out);have HNK:=H_ (zar wc (kvC ⟨y1,y2,y3,y4,y5,y6⟩) 99 (0,0));clear hbn f0 f1 f2 f3 f4 f5 lf b0 b1 b3 b4 b5 b6 lb
     cases hin:inB y1 g1 g2 with
     | false =>
       rw [hin] at HST;go_wp2_with (go_at_call 150;refine (zgc _ _ _ _).mono ?_;rintro e w5 ⟨rfl,rfl⟩;rw [hin]);go_roundg g
       case rel=>exact ⟨i+1,_,rfl,by go_num,by omega,H_ (by rw [HST.out];simpa using HOC.out),HON1,HFW⟩
       case measure=>omega
     | true =>
       rw [hin] at HST;have hx1:OL.length+1<=maxLen:=(by unfold maxLen;omega);have hx2:(OL.length+1) * 64<=140737488355328:=(by omega);go_upto_region 9 with (go_at_call 150;refine (zgc _ _ _ _).mono ?_;rintro e w5 ⟨rfl,rfl⟩;rw [hin]);go_wp2_with (at_builtin;refine zbd rfl _ _ 27 rfl 99 i0 _ 6 64 Tryz.underlying27 hi0 hz0 hz1 hz2 rfl (by decide) _ OL rfl (HOC.out.alloc _) W1 HON1.out (HFW.out.alloc _) wc.heap.size 1 ⟨y1,y2,y3,y4,y5,y6⟩ rfl HNK.out rfl (zdj _) hx1 hx2 ?_);intro g6 o6 cap6 w6 hs6 hg6 hf6 hlt6;have HS6:=H_ hs6;have HF6:=H_ hf6;clear hs6 hf6;go_wp2;go_roundg g
       case rel=>exact ⟨i+1,_,rfl,by go_num,by omega,H_ (by rw [HST.out];simpa using HS6.out),H_ (zbu hg6),HF6⟩
       case measure=>omega
structure RangeA where
 l:List Kv
 n:Int
 more:Bool
 e:Int
def rangeA (D:Doc) (g:Rg):RangeA:=if zgd D g=0 then ⟨outA g (zbc D g),(allA g (zbc D g)).length,moreA g (zbc D g),0⟩ else ⟨[],0,false,zgd D g⟩
def zhj (A:RangeA) (w:World) (e:Ending) (w':World):Prop:=∃ a c,e = .returned (.tuple #[.slice a A.l.length c,.int .i64 A.n,.bool A.more,.int .i64 A.e])/\SlF w' 99 6 kvC (.slice a A.l.length c) A.l/\Fr No w w'
theorem zhj.bad {A:RangeA} {w w':World} {e:Int} (h:A=⟨[],0,false,e⟩) (hf:Fr No w w'):zhj A w (.returned (.tuple #[.slice none 0 0,.int .i64 0,.bool false,.int .i64 e])) w':=by
 subst h;exact ⟨none,0,rfl,SlF.nil _ _ _ _,hf⟩
set_option maxHeartbeats 8000000 in
theorem zjt (w:World) (D:Doc) (a1 a2:Option Addr) (k1 k2:Nat) (hD:DocR w D (.slice a1 D.kvs.length k1) (.slice a2 D.events.length k2)) (hs:KSorted D.kvs) (hl:D.kvs.length+D.events.length<=100000000) (g:Rg) (hks:g.key.size<=1099511627776) :
 Calls Tryz.prog 53 #[docV D (.slice a1 D.kvs.length k1) (.slice a2 D.events.length k2),rgV g] w (zhj (rangeA D g) w):=by
 have hask:=fun W=>zec W g hks;have hwhen:=fun W=>zgn W D a1 a2 D.kvs.length D.events.length k1 k2 g.rev;have hat:=fun W (hW:Fr No w W) r=>zeb W D _ _ (hD.fr0 hW) hs hl r
 have hso:∀ r,(D.at r).length<=100000000:=fun r=>by
  rw [<-zeq];have:=zep D r D.events.length;omega
 have hasked:=fun W v (hv:SlR W 6 kvC v (zbc D g)) (h0:0<=g.limit)=>zcp W v (zbc D g) hv (hso _) g h0;have hE0:askE g≠0->zgd D g=askE g:=fun h=>if_pos h;have hE1:askE g=0->zgd D g=whenD D g.rev:=fun h=>if_neg (not_not_intro h);have hA0:askE g≠0->rangeA D g=⟨[],0,false,askE g⟩:=fun h=>by unfold rangeA;rw [if_neg (by rw [hE0 h];exact h),hE0 h]
 have hA1:askE g=0->whenD D g.rev≠0->rangeA D g=⟨[],0,false,whenD D g.rev⟩:=fun h h2=>by unfold rangeA;rw [if_neg (by rw [hE1 h];exact h2),hE1 h]
 have hA2:askE g=0->whenD D g.rev=0->rangeA D g=⟨outA g (zbc D g),(allA g (zbc D g)).length,moreA g (zbc D g),0⟩:=fun h h2=>by unfold rangeA;rw [if_pos (by rw [hE1 h];exact h2)]
 clear hE0 hE1;have hlim:=@zgz g;have hDL0:g.rev=0->zbc D g=D.at D.rev:=fun h=>by unfold zbc;rw [if_pos h]
 have hDL1:g.rev≠0->zbc D g=D.at g.rev:=fun h=>by unfold zbc;rw [if_neg h]
 generalize rangeA D g=A at *;generalize zbc D g=L at *;have HSO:=H_ hso;obtain ⟨g1,g2,g3,g4,g5,g6,g7⟩:=g;unfold docV rgV at *;dsimp only at *;generalize askE ⟨g1,g2,g3,g4,g5,g6,g7⟩=ea at *;generalize whenD D g3=ew at *;generalize outA ⟨g1,g2,g3,g4,g5,g6,g7⟩ L=O at *;generalize moreA ⟨g1,g2,g3,g4,g5,g6,g7⟩ L=mo at *;generalize (allA ⟨g1,g2,g3,g4,g5,g6,g7⟩ L).length=an at *;have hb1:((w.alloc (Obj.cells #[.int .i64 D.rev,.int .i64 D.mark,.slice a1 D.kvs.length k1,.slice a2 D.events.length k2] 30)).alloc (Obj.cells #[.string g1,.string g2,.int .i64 g3,.int .i64 g4,.bool g5,.bool g6,.bool g7] 35)).heap[w.heap.size]? = some (Obj.cells #[.int .i64 D.rev,.int .i64 D.mark,.slice a1 D.kvs.length k1,.slice a2 D.events.length k2] 30 (0,0)):=zaj (zad w _ _ rfl) _
 have hb2:((w.alloc (Obj.cells #[.int .i64 D.rev,.int .i64 D.mark,.slice a1 D.kvs.length k1,.slice a2 D.events.length k2] 30)).alloc (Obj.cells #[.string g1,.string g2,.int .i64 g3,.int .i64 g4,.bool g5,.bool g6,.bool g7] 35)).heap[w.heap.size+1]? = some (Obj.cells #[.string g1,.string g2,.int .i64 g3,.int .i64 g4,.bool g5,.bool g6,.bool g7] 35 (0,0)):=zad _ _ _ (by simp);have hf2:Fr No w ((w.alloc (Obj.cells #[.int .i64 D.rev,.int .i64 D.mark,.slice a1 D.kvs.length k1,.slice a2 D.events.length k2] 30)).alloc (Obj.cells #[.string g1,.string g2,.int .i64 g3,.int .i64 g4,.bool g5,.bool g6,.bool g7] 35)):=((Fr.refl No w).alloc _).alloc _;have HB1:=H_ hb1;have HB2:=H_ hb2;have HF2:=H_ hf2;have HASK:=H_ hask;have HWHEN:=H_ hwhen
 have HAT:=H_ hat;have HASKED:=H_ hasked;have HA0:=H_ hA0;have HA1:=H_ hA1;have HA2:=H_ hA2;have HL0:=H_ hDL0;have HL1:=H_ hDL1;have HLIM:=H_ hlim;clear hb1 hb2 hf2 hask hwhen hat hasked hA0 hA1 hA2 hDL0 hDL1 hlim hso hD hs hl hks;generalize D.kvs.length=n1 at *;generalize D.events.length=n2 at *;generalize hd1:D.rev=d1 at *;generalize D.mark=d2 at *;go_enter Tryz.func53,Tryz.ntmps53;go_upto_region 1 with fail;generalize (w.alloc (Obj.cells #[.int .i64 d1,.int .i64 d2,.slice a1 n1 k1,.slice a2 n2 k2] 30)).alloc (Obj.cells #[.string g1,.string g2,.int .i64 g3,.int .i64 g4,.bool g5,.bool g6,.bool g7] 35)=W2 at *;generalize w.heap.size+1=rb at *;generalize w.heap.size=db at *
 have HS:Hid (∀ W,Fr No W2 W->W.cell? ⟨db,0,none⟩=some (.int .i64 d1)/\W.cell? ⟨db,1,none⟩=some (.int .i64 d2)/\W.cell? ⟨db,2,none⟩=some (.slice a1 n1 k1)/\W.cell? ⟨db,3,none⟩=some (.slice a2 n2 k2)/\W.cell? ⟨rb,0,none⟩=some (.string g1)/\W.cell? ⟨rb,1,none⟩=some (.string g2)/\W.cell? ⟨rb,2,none⟩=some (.int .i64 g3)/\W.cell? ⟨rb,3,none⟩=some (.int .i64 g4)/\W.cell? ⟨rb,4,none⟩=some (.bool g5)/\W.cell? ⟨rb,5,none⟩=some (.bool g6)/\W.cell? ⟨rb,6,none⟩=some (.bool g7)):=H_ (fun W hW=>by
  have h1:=hW.heap HB1.out id;have h2:=hW.heap HB2.out id;unfold World.cell?;dsimp only;rw [h1,h2];exact ⟨rfl,rfl,rfl,rfl,rfl,rfl,rfl,rfl,rfl,rfl,rfl⟩)
 obtain ⟨x0,x1,x2,x3,y0,y1,y2,y3,y4,y5,y6⟩:=HS.out W2 (Fr.refl No W2);have l1:=zac HB1.out;have l2:=zac HB2.out;by_cases he1:ea=0
 · have HE1:=H_ he1
   subst he1;have HLIM2:Hid (0<=g4):=H_ (HLIM.out (by trivial)).2;go_upto_region 3 with (go_at_call 105;(with_reducible refine (HASK.out _).mono ?_);rintro e w3 ⟨rfl,h3⟩);have HF3:=H_ h3;clear x0 x1 x2 x3 y0 y1 y2 y3 y4 y5 y6;obtain ⟨x0,x1,x2,x3,y0,y1,y2,y3,y4,y5,y6⟩:=HS.out w3 h3;have l3:=h3.size;clear h3;by_cases he2:ew=0
   · subst he2
     have HQ:=H_ (HA2.out (by trivial) (by trivial));by_cases hz:g3=0
     · subst hz
       have HL:=H_ (HL0.out (by trivial));go_upto_region 9 with (go_at_call 106;(with_reducible refine (HWHEN.out _).mono ?_);rintro e w4 ⟨rfl,h4⟩;have g4':=HF3.out.trans0 h4;clear x0 x1 x2 x3 y0 y1 y2 y3 y4 y5 y6;obtain ⟨x0,x1,x2,x3,y0,y1,y2,y3,y4,y5,y6⟩:=HS.out w4 g4';have l4:=h4.size;clear h4);have g4:=g4';clear x0 x1 x2 x3 y0 y1 y2 y3 y4 y5 y6 g4';have GW:=H_ g4;have b1:=HS.out w4 g4;have b2:=HS.out w4.drew g4.drew;have C1:=H_ (HAT.out w4.drew (HF2.out.trans0 g4.drew) d1);clear g4
       go_region_held3 (fun W=>W.cell? ⟨db,0,none⟩=some (.int .i64 d1)/\W.cell? ⟨db,1,none⟩=some (.int .i64 d2)/\W.cell? ⟨db,2,none⟩=some (.slice a1 n1 k1)/\W.cell? ⟨db,3,none⟩=some (.slice a2 n2 k2)/\W.cell? ⟨rb,0,none⟩=some (.string g1)/\W.cell? ⟨rb,1,none⟩=some (.string g2)/\W.cell? ⟨rb,2,none⟩=some (.int .i64 0)/\W.cell? ⟨rb,3,none⟩=some (.int .i64 g4)/\W.cell? ⟨rb,4,none⟩=some (.bool g5)/\W.cell? ⟨rb,5,none⟩=some (.bool g6)/\W.cell? ⟨rb,6,none⟩=some (.bool g7))
        (first | with_reducible exact b1 | with_reducible exact b2 | with_reducible exact b3 | with_reducible exact b4)
        (first
          | (go_at_call 80;(with_reducible refine C1.out.mono ?_);rintro e w5 ⟨v5,rfl,hs5,h5,_⟩
             have G5:=H_ (GW.out.drew.trans0 h5);have b3:=HS.out w5 G5.out;have C2:=H_ (HASKED.out w5 v5 (by rw [HL.out];exact hs5) HLIM2.out);clear hs5 h5)
          | (go_at_call 107;(with_reducible refine C2.out.mono ?_);rintro e w6 ⟨v6,rfl,hs6,_,h6⟩
             have G6:=H_ (G5.out.trans0 h6);have HV6:=H_ hs6;have b4:=HS.out w6 G6.out;clear hs6 h6))
       go_wp2;refine bodyPost_ret (zbt rfl _ _ _) rfl ?_;dsimp only;obtain ⟨va,vc,rfl,_,_,_⟩:=HV6.out.shape;refine ⟨va,vc,?_,?_,?_⟩
       · rw [HQ.out];rfl
       · rw [HQ.out];exact HV6.out
       exact HF2.out.trans0 G6.out
     have hzb:(g3 == 0)=false:=beq_eq_false_iff_ne.2 hz
     have HL:=H_ (HL1.out hz);go_upto_region 9 with (go_at_call 106;(with_reducible refine (HWHEN.out _).mono ?_);rintro e w4 ⟨rfl,h4⟩;have g4':=HF3.out.trans0 h4;clear x0 x1 x2 x3 y0 y1 y2 y3 y4 y5 y6;obtain ⟨x0,x1,x2,x3,y0,y1,y2,y3,y4,y5,y6⟩:=HS.out w4 g4';have l4:=h4.size;clear h4);have g4:=g4';clear x0 x1 x2 x3 y0 y1 y2 y3 y4 y5 y6 g4';have GW:=H_ g4;have b1:=HS.out w4 g4;have b2:=HS.out w4.drew g4.drew;have C1:=H_ (HAT.out w4.drew (HF2.out.trans0 g4.drew) g3);clear g4
     go_region_held3 (fun W=>W.cell? ⟨db,0,none⟩=some (.int .i64 d1)/\W.cell? ⟨db,1,none⟩=some (.int .i64 d2)/\W.cell? ⟨db,2,none⟩=some (.slice a1 n1 k1)/\W.cell? ⟨db,3,none⟩=some (.slice a2 n2 k2)/\W.cell? ⟨rb,0,none⟩=some (.string g1)/\W.cell? ⟨rb,1,none⟩=some (.string g2)/\W.cell? ⟨rb,2,none⟩=some (.int .i64 g3)/\W.cell? ⟨rb,3,none⟩=some (.int .i64 g4)/\W.cell? ⟨rb,4,none⟩=some (.bool g5)/\W.cell? ⟨rb,5,none⟩=some (.bool g6)/\W.cell? ⟨rb,6,none⟩=some (.bool g7))
      (first | with_reducible exact b1 | with_reducible exact b2 | with_reducible exact b3 | with_reducible exact b4)
      (first
        | (go_at_call 80;(with_reducible refine C1.out.mono ?_);rintro e w5 ⟨v5,rfl,hs5,h5,_⟩
           have G5:=H_ (GW.out.drew.trans0 h5);have b3:=HS.out w5 G5.out;have C2:=H_ (HASKED.out w5 v5 (by rw [HL.out];exact hs5) HLIM2.out);clear hs5 h5)
        | (go_at_call 107;(with_reducible refine C2.out.mono ?_);rintro e w6 ⟨v6,rfl,hs6,_,h6⟩
           have G6:=H_ (G5.out.trans0 h6);have HV6:=H_ hs6;have b4:=HS.out w6 G6.out;clear hs6 h6))
     go_wp2;refine bodyPost_ret (zbt rfl _ _ _) rfl ?_;dsimp only;obtain ⟨va,vc,rfl,_,_,_⟩:=HV6.out.shape;refine ⟨va,vc,?_,?_,?_⟩
     · rw [HQ.out];rfl
     · rw [HQ.out];exact HV6.out
     exact HF2.out.trans0 G6.out
   have he2b:(ew == 0)=false:=beq_eq_false_iff_ne.2 he2
   have HQ:=H_ (HA1.out (by trivial) he2);go_wp2_with (go_at_call 106;(with_reducible refine (HWHEN.out _).mono ?_);rintro e w4 ⟨rfl,h4⟩);refine bodyPost_ret (zbt rfl _ _ _) rfl ?_;dsimp only;exact zhj.bad HQ.out (HF2.out.trans0 (HF3.out.trans0 h4))
 have he1b:(ea == 0)=false:=beq_eq_false_iff_ne.2 he1
 have HQ:=H_ (HA0.out he1);go_wp2_with (go_at_call 105;(with_reducible refine (HASK.out _).mono ?_);rintro e w3 ⟨rfl,h3⟩);refine bodyPost_ret (zbt rfl _ _ _) rfl ?_;dsimp only;exact zhj.bad HQ.out (HF2.out.trans0 h3)
end Go.Proofs.YthljnnjpmdgkoaaGreat