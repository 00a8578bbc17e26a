/- Own lemmas and contracts that the claim's proof needs, laid together. The conditions stand in each. -/
import Derived.Test.YthljnnjpmdgkoaaN30
import Derived.Test.YthljnnjpmdgkoaaN22
import Derived.Test.YthljnnjpmdgkoaaN29
import Derived.Test.YthljnnjpmdgkoaaN40
import Derived.Test.YthljnnjpmdgkoaaN35
import Derived.Deep.DeepCutAuto
namespace Go.Proofs.Ythljnnjpmdgkoaa
open Go Go.Proofs Go.RowKit
def bareIf (g:Rg) (x:Kv):Kv:=if g.keys then { x with value:=ByteArray.empty } else x
def allA (g:Rg) (l:List Kv):List Kv:=(if g.desc then l.reverse else l).filter fun y=>inB y.key g.key g.end_
def outN (g:Rg) (n:Nat):Nat:=if g.limit=0 then n else min n g.limit.toNat
def outA (g:Rg) (l:List Kv):List Kv:=if g.count then [] else ((allA g l).take (outN g (allA g l).length)).map (bareIf g)
def moreA (g:Rg) (l:List Kv):Bool:=!g.count && decide ((outA g l).length < (allA g l).length)
theorem zqj (g:Rg) (n:Nat):outN g n<=n:=by unfold outN;split <;> omega
theorem zsb {g:Rg} (hc:g.count=false) (l:List Kv):(outA g l).length=outN g (allA g l).length:=by
 unfold outA;rw [hc];have:=zqj g (allA g l).length;simp only [Bool.false_eq_true,if_false,List.length_map,List.length_take];omega
theorem zop (g:Rg) (l:List Kv):l.map (bareIf g)=if g.keys then l.map (fun x=>{ x with value:=ByteArray.empty }) else l:=by
 unfold bareIf;cases g.keys
 · simp
 simp
theorem zow {S:St} {g:Rg} {rev:Int} {l:List Kv} (h:allL S g rev=l.filter fun y=>inB y.key g.key g.end_) (h0:0<=g.limit) :
 getL S g rev=outA g l/\(allL S g rev).length=(allA g l).length/\moreB S g rev=moreA g l:=by
 have hA:allA g l=if g.desc then (allL S g rev).reverse else allL S g rev:=by
  unfold allA;rw [h]
  split
  · rw [List.filter_reverse]
  rfl
 have hlen:(allL S g rev).length=(allA g l).length:=by
  rw [hA];split <;> simp
 cases hc:g.count with
 | true =>
   refine ⟨?_,hlen,?_⟩
   · unfold getL outA;rw [hc];rfl
   unfold moreB moreA;rw [hc];rfl
 | false =>
   have ho:=zsb hc l
   have hmore:moreB S g rev=moreA g l:=by
    unfold moreB moreA;rw [hc,ho,hlen];unfold outN;rw [Bool.eq_iff_iff];simp only [Bool.not_false,Bool.true_and,Bool.and_eq_true,decide_eq_true_eq]
    split
    · omega
    omega
   refine ⟨?_,hlen,hmore⟩;unfold getL outA;rw [hc,zop,<-hA];simp only [Bool.false_eq_true,if_false]
   have:cutL g (moreB S g rev) (allA g l)=(allA g l).take (outN g (allA g l).length):=by
    unfold cutL;rw [hmore];unfold moreA;rw [hc,ho];by_cases hm:outN g (allA g l).length < (allA g l).length
    · rw [decide_eq_true hm]
      unfold outN at hm ⊢
      split at hm
      · omega
      rename_i hl
      rw [if_neg hl];simp only [Bool.not_false,Bool.true_and,if_true];have e1:min (allA g l).length g.limit.toNat=g.limit.toNat:=(by omega);rw [e1]
    have e1:outN g (allA g l).length=(allA g l).length:=by have:=zqj g (allA g l).length;omega
    rw [decide_eq_false hm,e1,List.take_length]
    rfl
   rw [this]
structure RunD where
 now:List Kv
 A:List Ans
 E:List Ev
def wasL (l:List Kv) (key:ByteArray):Kv:=(hasL l key).getD kv0
def putD (l:List Kv) (o:Opr) (rev:Int):Ev :=
 ⟨1,⟨o.rg.key,o.value,if (wasL l o.rg.key).version=0 then rev else (wasL l o.rg.key).create,rev,(wasL l o.rg.key).version+1,o.lease⟩,wasL l o.rg.key⟩
def delG (o:Opr):Rg:=⟨o.rg.key,o.rg.end_,0,0,false,false,false⟩
def getD (D:Doc) (now:List Kv) (o:Opr):List Kv:=if o.rg.rev≠0 then D.at o.rg.rev else now
def stepD (D:Doc) (r:RunD) (o:Opr):RunD :=
 if o.kind=1 then ⟨doneL r.now (putD r.now o (D.rev+1)),r.A++[⟨1,told (putD r.now o (D.rev+1)),(told (putD r.now o (D.rev+1))).length,false⟩],r.E++[putD r.now o (D.rev+1)]⟩
 else if o.kind=3 then ⟨r.now,r.A++[⟨3,outA o.rg (getD D r.now o),(allA o.rg (getD D r.now o)).length,moreA o.rg (getD D r.now o)⟩],r.E⟩
 else ⟨(outA (delG o) r.now).foldl (fun l x=>doneL l (goneE x (D.rev+1))) r.now,r.A++[⟨o.kind,outA (delG o) r.now,(outA (delG o) r.now).length,false⟩],r.E++(outA (delG o) r.now).map fun x=>goneE x (D.rev+1)⟩
def runD (D:Doc) (ops:List Opr):RunD:=ops.foldl (stepD D) ⟨D.at D.rev,[],[]⟩
theorem zhe (D:Doc) (ops:List Opr) {i:Nat} {o:Opr} (h:ops[i]? = some o):runD D (ops.take (i+1))=stepD D (runD D (ops.take i)) o:=by
 unfold runD;rw [List.take_add_one,h,List.foldl_append]
 rfl
theorem zjm (o:Opr) (l:List Kv):outA (delG o) l=l.filter fun y=>inB y.key o.rg.key o.rg.end_:=by
 unfold outA allA outN delG bareIf;simp
theorem Doc.adds_append (D:Doc) (E G:List Ev):D.adds (E++G)=(D.adds E).adds G:=by unfold Doc.adds;rw [List.foldl_append]
theorem Doc.adds_at {r:Int} (G:List Ev):∀ D:Doc,(∀ e∈G,D.mark < e.kv.mod/\e.kv.mod<=r)->(D.adds G).at r=G.foldl doneL (D.at r):=by
 induction G with
 | nil=>intro D _;rfl
 | cons x G ih =>
   intro D h;have hx:=h x List.mem_cons_self;have e:D.adds (x :: G)=(D.add x).adds G:=rfl;rw [e,ih (D.add x) fun e he=>h e (List.mem_cons_of_mem _ he),Doc.add_at D x hx.1,if_pos hx.2]
   rfl
theorem ztn (rev:Int) (L:List Kv) (h:∀ x∈L,1<=x.version):∀ q:St × List Kv × List Ev,(L.foldl (goneR rev) q).2.1=q.2.1++L:=by
 induction L with
 | nil=>intro q;simp
 | cons x L ih =>
   intro q;rw [List.foldl_cons,ih fun y hy=>h y (List.mem_cons_of_mem _ hy)];unfold goneR;rw [zke (h x List.mem_cons_self)];simp
theorem zks {o:Opr} (h:oneE o=0):o.kind=1\/o.kind=2\/o.kind=3:=by
 unfold oneE at h;by_cases h3:o.kind=3
 · exact .inr (.inr h3)
 rw [if_neg h3] at h
 by_cases h2:o.kind=2
 · exact .inr (.inl h2)
 rw [if_neg h2] at h
 by_cases h1:o.kind=1
 · exact .inl h1
 rw [if_neg h1] at h;cases h
theorem zrk {g:Rg} (h:askE g=0):0<=g.rev/\0<=g.limit:=by
 unfold askE at h
 split at h
 · rename_i hk;exact absurd h hk
 split at h
 · cases h
 split at h
 · cases h
 omega
theorem zoc {S:St} {rev:Int} (h:whenE S rev=0):rev<=S.rev/\(rev≠0->S.mark<=rev):=by
 unfold whenE at h
 split at h
 · cases h
 split at h
 · cases h
 omega
theorem zlq {S:St} {ops:List Opr} (h:whenAll S ops=0) {o:Opr} (ho:o∈ops) (h3:o.kind=3):whenE S o.rg.rev=0:=by
 unfold whenAll at h
 cases hf:ops.find? (fun o=>o.kind == 3 && whenE S o.rg.rev != 0) with
 | none =>
   have:=List.find?_eq_none.1 hf o ho;simpa [h3] using this
 | some q =>
   rw [hf] at h;have:=List.find?_some hf;simp at this;exact absurd h this.2
theorem Good.at_next {k:Nat} {S:St} {D:Doc} (h:Good k S D):D.at (D.rev+1)=D.at D.rev:=Doc.at_late (fun e he=>(h.doc.lo e he).2.2) (by omega) (Int.le_refl _)
theorem Good.runD {k:Nat} {S:St} {D:Doc} (h:Good k S D) (hk:k<=70) {ops:List Opr} (hc:checkE ops=0) (hw:whenAll S ops=0) (hks:∀ o∈ops,o.rg.key.size<=1099511627776) :
 ∀ i≤ ops.length,(Go.Proofs.Ythljnnjpmdgkoaa.runD D (ops.take i)).now=(D.adds (runR (D.rev+1) ⟨S,[],[]⟩ (ops.take i)).E).at (D.rev+1) ∧
  (Go.Proofs.Ythljnnjpmdgkoaa.runD D (ops.take i)).A=(runR (D.rev+1) ⟨S,[],[]⟩ (ops.take i)).A/\(Go.Proofs.Ythljnnjpmdgkoaa.runD D (ops.take i)).E=(runR (D.rev+1) ⟨S,[],[]⟩ (ops.take i)).E:=by
 intro i
 induction i with
 | zero=>intro _;exact ⟨h.at_next.symm,rfl,rfl⟩
 | succ i ih =>
   intro hi;obtain ⟨q1,q2,q3⟩:=ih (by omega);obtain ⟨o,ho⟩:∃ o,ops[i]? = some o:=⟨_,List.getElem?_eq_getElem (by omega)⟩;have hom:=List.mem_of_getElem? ho;have hone:=(zcp hc).2.1 o hom;obtain ⟨⟨hr,_⟩,_⟩:=h.runs hk hc hks i (by omega);rw [zhe _ _ ho,zhd _ _ _ ho];generalize Go.Proofs.Ythljnnjpmdgkoaa.runD D (ops.take i)=q at *;generalize runR (D.rev+1) ⟨S,[],[]⟩ (ops.take i)=r at *;obtain ⟨now,QA,QE⟩:=q;dsimp only at q1 q2 q3;subst q2 q3;have hm0:=h.cpl.m0;have hpt:=Doc.adds_parts D r.E;have hmark:(D.adds r.E).mark<=D.rev+1:=(by rw [hpt.1];omega);have hks':KSorted (D.adds r.E).kvs:=(by rw [hpt.2.1];exact h.cpl.ks);have hlv:=hr.cpl.lives o.rg.key (D.rev+1) hmark
   have hl1:(livesS r.S o.rg.key (D.rev+1)).1=wasL now o.rg.key:=by
    unfold wasL;rw [hlv,q1];cases hasL ((D.adds r.E).at (D.rev+1)) o.rg.key <;> rfl
   have hadd:∀ G:List Ev,(∀ e∈G,e.kv.mod=D.rev+1)->(D.adds (r.E++G)).at (D.rev+1)=G.foldl doneL now:=fun G hG=>by
    rw [Doc.adds_append,Doc.adds_at G (D.adds r.E) fun e he=>by rw [hpt.1,hG e he];omega,<-q1]
   rcases zks hone with hk1 | hk2 | hk3
   · have hp:zaq r.S o (D.rev+1)=putD now o (D.rev+1):=by unfold zaq putD;rw [hl1]
     unfold stepD stepR;rw [if_pos hk1,if_pos hk1,hp];refine ⟨?_,rfl,rfl⟩;dsimp only;rw [hadd _ fun e he=>by rw [List.mem_singleton.1 he];rfl]
     rfl
   · have h1:¬ o.kind=1:=by omega
     have h3:¬ o.kind=3:=(by omega);have hbt:zat r.S o.rg.key o.rg.end_ (D.rev+1)=outA (delG o) now:=(by rw [hr.between hm0.2,<-q1,zjm])
     have hver:∀ x∈outA (delG o) now,1<=x.version:=fun x hx=>by
      rw [zjm,q1] at hx;exact (hr.doc.ver_at hks' (List.mem_filter.1 hx).1).1
     unfold stepD stepR;rw [if_neg h1,if_neg h1,if_neg h3,if_pos hk2,hbt];dsimp only;refine ⟨?_,?_,?_⟩
     · rw [zmj]
       dsimp only;rw [hadd _ fun e he=>by obtain ⟨x,_,rfl⟩:=List.mem_map.1 he;rfl,List.foldl_map]
     · rw [ztn _ _ hver]
       dsimp only;rw [hk2]
       rfl
     rw [zmj]
   have h1:¬ o.kind=1:=by omega
   have h2:¬ o.kind=2:=(by omega)
   have hask:askE o.rg=0:=by
    unfold oneE at hone;rw [if_pos hk3] at hone;exact hone
   obtain ⟨g0,g1⟩:=zrk hask;obtain ⟨e1,e2⟩:=zoc (zlq hw hom hk3);rw [h.rev] at e1;rw [h.cpl.mark] at e2
   have hall:allL r.S o.rg (D.rev+1)=(getD D now o).filter fun y=>inB y.key o.rg.key o.rg.end_:=by
    unfold allL revOf getD;by_cases hz:o.rg.rev≠0
    · rw [if_pos hz,if_pos hz]
      unfold zat;rw [hr.cpl.between hr.srt _ _ (by rw [hpt.1];exact e2 hz),Doc.adds_at_old D r.E fun e he=>by rw [hr.mods e he];omega]
      congr 1
      funext y
      exact zqc _ _ _
    rw [if_neg hz,if_neg hz,hr.between hm0.2,<-q1]
   obtain ⟨a1,a2,a3⟩:=zow hall g1;unfold stepD stepR;rw [if_neg h1,if_neg h1,if_pos hk3,if_neg h2,if_pos hk3,a1,a2,a3];exact ⟨q1,rfl,rfl⟩
def zmt (D:Doc) (E:List Ev):Doc:=if E = [] then D else ⟨D.rev+1,D.mark,D.kvs,D.events++E⟩
theorem zmy (D:Doc) (E:List Ev) (h:∀ e∈E,e.kv.mod=D.rev+1):D.adds E=zmt D E:=by
 have h1:=Doc.adds_rev D E _ h;have h2:=Doc.adds_parts D E;unfold zmt;by_cases hE:E = []
 · subst hE;rfl
 rw [if_neg hE] at h1 ⊢
 obtain ⟨a,b,c⟩:=h2;cases hD:D.adds E
 rw [hD] at h1 a b c;dsimp only at h1 a b c;rw [h1,a,b,c]
def dropQ (rev:Int) (q:List Kv × List Ev) (k:ByteArray):List Kv × List Ev :=
 if 0 < (wasL q.1 k).version then (doneL q.1 (dropE k rev (wasL q.1 k)),q.2++[dropE k rev (wasL q.1 k)]) else q
def dropsQ (D:Doc) (keys:List ByteArray):List Kv × List Ev:=keys.foldl (dropQ (D.rev+1)) (D.at D.rev,[])
theorem zet (D:Doc) (keys:List ByteArray) {i:Nat} {k:ByteArray} (h:keys[i]? = some k):dropsQ D (keys.take (i+1))=dropQ (D.rev+1) (dropsQ D (keys.take i)) k:=by
 unfold dropsQ;rw [List.take_add_one,h,List.foldl_append]
 rfl
def dropDE (D:Doc) (keys:List ByteArray):Int:=if (dropsQ D keys).2≠[]/\top<=D.rev then 37 else 0
def dropDD (D:Doc) (keys:List ByteArray):Doc:=if dropDE D keys=0 then zmt D (dropsQ D keys).2 else D
theorem Good.dropsQ {k:Nat} {S:St} {D:Doc} (h:Good k S D) (hk:k<=70) (keys:List ByteArray) (hl:keys.length<=30) :
 ∀ i≤ keys.length,Go.Proofs.Ythljnnjpmdgkoaa.dropsQ D (keys.take i)=((D.adds (dropTo (D.rev+1) S keys i).2).at (D.rev+1),(dropTo (D.rev+1) S keys i).2):=by
 intro i
 induction i with
 | zero=>intro _;exact Prod.ext h.at_next.symm rfl
 | succ i ih =>
   intro hi;obtain ⟨x,hx⟩:∃ x,keys[i]? = some x:=⟨_,List.getElem?_eq_getElem (by omega)⟩;obtain ⟨hr,_⟩:=h.drops hk keys hl i (by omega);rw [zet _ _ hx,zeu _ _ _ hx,ih (by omega)];generalize dropTo (D.rev+1) S keys i=q at *;have hm0:=h.cpl.m0;have hpt:=Doc.adds_parts D q.2;have hks':KSorted (D.adds q.2).kvs:=(by rw [hpt.2.1];exact h.cpl.ks);have hlv:=hr.cpl.lives x (D.rev+1) (by rw [hpt.1];omega);unfold dropQ dropR;dsimp only
   have hw:(livesS q.1 x (D.rev+1)).1=wasL ((D.adds q.2).at (D.rev+1)) x:=by
    unfold wasL;rw [hlv];cases hasL ((D.adds q.2).at (D.rev+1)) x <;> rfl
   have hb:(livesS q.1 x (D.rev+1)).2=true ↔ 0 < (wasL ((D.adds q.2).at (D.rev+1)) x).version:=by
    unfold wasL;rw [hlv]
    cases hh:hasL ((D.adds q.2).at (D.rev+1)) x with
    | none=>exact ⟨fun e=>(by cases e),fun e=>(by have e':(0:Int) < 0:=e;omega)⟩
    | some y =>
      have:=(hr.doc.ver_at hks' ((zbd (Doc.at_sorted hks' _) x y).1 hh).1).1;exact ⟨fun _=>(by show 0 < y.version;omega),fun _=>rfl⟩
   by_cases hv:0 < (wasL ((D.adds q.2).at (D.rev+1)) x).version
   · rw [if_pos hv,if_pos (hb.2 hv),hw]
     dsimp only;rw [Doc.adds_append,Doc.adds_at [dropE x (D.rev+1) (wasL ((D.adds q.2).at (D.rev+1)) x)] (D.adds q.2) fun e he=>by rw [hpt.1,List.mem_singleton.1 he];show D.mark < D.rev+1/\D.rev+1<=D.rev+1;omega]
     rfl
   rw [if_neg hv,if_neg fun e=>hv (hb.1 e)]
theorem Good.dropDoc {k:Nat} {S:St} {D:Doc} (h:Good k S D) (hk:k<=70) (keys:List ByteArray) (hl:keys.length<=30) :
 dropDE D keys=0/\(keys.foldl (dropR (S.rev+1)) (S,[])).2=(Go.Proofs.Ythljnnjpmdgkoaa.dropsQ D keys).2/\dropD S D keys=dropDD D keys:=by
 have hr1:=h.rev1;have h0:dropDE D keys=0:=by unfold dropDE;rw [if_neg fun hh=>by have:=hh.2;unfold top at this;omega]
 have hq:=h.dropsQ hk keys hl keys.length (Nat.le_refl _);obtain ⟨hr,_⟩:=h.drops hk keys hl keys.length (Nat.le_refl _);have he:dropTo (D.rev+1) S keys keys.length=keys.foldl (dropR (D.rev+1)) (S,[]):=by unfold dropTo;rw [List.take_length]
 rw [List.take_length,he] at hq;rw [he] at hr;refine ⟨h0,by rw [hq,h.rev],?_⟩;unfold dropD dropDD;rw [if_pos h0,hq];exact zmy D _ hr.mods
structure RInv (D:Doc):Prop where
 kv:∀ k∈D.kvs,MayP k D.mark
 ev:∀ e∈D.events,EvW e
 pm:∀ e∈D.events,e.kv.mod=D.mark->PrevW e
 mkd:∀ e∈D.events,e.kv.mod=D.mark->hasL D.kvs e.kv.key=if e.kind=1 then some e.kv else none
 fr:∀ k∈D.kvs,k.mod=D.mark->∃ e∈D.events,e.kind=1/\e.kv=k
theorem RInv.prevs {n:Nat} {D:Doc} (h:RInv D) (hd:DocOk n D) (hK:KeysOk D) (hs:KSorted D.kvs):∀ (i:Nat) (e:Ev),D.events[i]? = some e->PrevW e:=by
 intro i
 induction i using Nat.strongRecOn with
 | _ i ih =>
   intro e he;have hem:=List.mem_of_getElem? he;have hlo:=hd.lo e hem;by_cases hm:e.kv.mod=D.mark
   · exact h.pm e hem hm
   have hp:=hd.prev_at he (by omega)
   cases hh:hasL (foldTo D i) e.kv.key with
   | none=>left;rw [hp,hh];rfl
   | some y =>
     right
     rw [hh] at hp;have hp':e.prev=y:=hp;have hy:=List.mem_of_find?_eq_some hh;have hyk:y.key=e.kv.key:=zai.1 (by have:=List.find?_some hh;exact this);rw [hp'];refine ⟨hyk,?_⟩;rcases zbi hs _ y hy with h1 | ⟨e',h1,h2,h3⟩
     · exact (h.kv y h1).mono (by omega)
     obtain ⟨h4,h5⟩:=List.mem_filter.1 h1
     obtain ⟨j,hj⟩:=List.mem_iff_getElem?.1 h4
     have hji:j < i:=by
      have:=(List.getElem?_eq_some_iff.1 hj).1;simp at this;omega
     rw [List.getElem?_take,if_pos hji] at hj;have hle:=zbz hd.es hj he (by omega);have hne:e'.kv.mod≠e.kv.mod:=fun hq=>hd.uniq_at hj he hji hq (by rw [<-h3];exact hyk);have hem':=List.mem_of_getElem? hj;have:=zmb (h.ev e' hem') h2 (hK.evs e' hem') (hd.lo e' hem').1 (ih j hji e' hj);rw [h3];exact this.mono (by omega)
theorem RInv.prevM {n:Nat} {D:Doc} (h:RInv D) (hd:DocOk n D) (hK:KeysOk D) (hs:KSorted D.kvs) {e:Ev} (he:e∈D.events):PrevW e:=by
 obtain ⟨i,hi⟩:=List.mem_iff_getElem?.1 he;exact h.prevs hd hK hs i e hi
theorem RInv.mayAt {n:Nat} {D:Doc} (h:RInv D) (hd:DocOk n D) (hK:KeysOk D) (hs:KSorted D.kvs) {r:Int} (hr:D.mark<=r) {y:Kv} (hy:y∈D.at r):MayP y r:=by
 rcases zbi hs _ y hy with h1 | ⟨e,h1,h2,rfl⟩
 · exact (h.kv y h1).mono hr
 obtain ⟨h3,h4⟩:=List.mem_filter.1 h1
 simp only [Bool.and_eq_true,decide_eq_true_eq] at h4;exact (zmb (h.ev e h3) h2 (hK.evs e h3) (hd.lo e h3).1 (h.prevM hd hK hs h3)).mono h4.2
theorem RInv.new:RInv newD:=⟨fun k hk=>by simp [newD] at hk,fun e he=>by simp [newD] at he,fun e he=>by simp [newD] at he,fun e he=>by simp [newD] at he,fun k hk=>by simp [newD] at hk⟩
theorem RInv.adds {D:Doc} (h:RInv D) (E:List Ev) (hE:∀ e∈E,EvW e) (hm:∀ e∈E,D.mark < e.kv.mod):RInv (D.adds E):=by
 obtain ⟨a,b,c⟩:=Doc.adds_parts D E
 have hold:∀ e∈(D.adds E).events,e.kv.mod=D.mark->e∈D.events:=fun e he h1=>by
  rw [c] at he;rcases List.mem_append.1 he with he | he
  · exact he
  have:=hm e he;omega
 refine ⟨fun k hk=>?_,fun e he=>?_,fun e he h1=>?_,fun e he h1=>?_,fun k hk h1=>?_⟩
 · rw [b] at hk;rw [a];exact h.kv k hk
 · rw [c] at he
   rcases List.mem_append.1 he with he | he
   · exact h.ev e he
   exact hE e he
 · rw [a] at h1;exact h.pm e (hold e he h1) h1
 · rw [a] at h1;rw [b];exact h.mkd e (hold e he h1) h1
 rw [b] at hk;rw [a] at h1
 obtain ⟨e,he,h2⟩:=h.fr k hk h1;exact ⟨e,by rw [c];exact List.mem_append_left _ he,h2⟩
theorem RInv.cut {n:Nat} {D:Doc} (h:RInv D) (hd:DocOk n D) (hK:KeysOk D) (hs:KSorted D.kvs) {R:Int} (h1:D.mark < R):RInv (D.cut R):=by
 have hev:∀ e∈(D.cut R).events,e∈D.events:=fun e he=>(List.mem_filter.1 he).1;refine ⟨fun k hk=>h.mayAt hd hK hs (by show D.mark<=R;omega) hk,fun e he=>h.ev e (hev e he),fun e he _=>h.prevM hd hK hs (hev e he),fun e he hm=>?_,fun k hk hm=>?_⟩
 · have hm':e.kv.mod=R:=hm
   obtain ⟨i,hi⟩:=List.mem_iff_getElem?.1 (hev e he);obtain ⟨A,B,hAB⟩:=List.append_of_mem (hev e he)
   show hasL (D.at R) e.kv.key=_
   unfold Doc.at;rw [hAB,List.filter_append,List.filter_cons,if_pos (by simp;omega)];refine zir hs _ _ _ fun y hy hk=>?_;obtain ⟨hy1,hy2⟩:=List.mem_filter.1 hy;simp only [Bool.and_eq_true,decide_eq_true_eq] at hy2;have hes:=hd.es;have hun:=hd.uniq;rw [hAB] at hes hun;have e1:=(List.pairwise_cons.1 (List.pairwise_append.1 hes).2.1).1 y hy1;have e2:=(List.pairwise_cons.1 (List.pairwise_append.1 hun).2.1).1 y hy1;exact e2 (by omega) hk.symm
 have hm':k.mod=R:=hm
 rcases zbi hs _ k hk with h2 | ⟨e,h2,h3,rfl⟩
 · have:=(h.kv k h2).ver;omega
 obtain ⟨h4,h5⟩:=List.mem_filter.1 h2
 refine ⟨e,List.mem_filter.2 ⟨h4,?_⟩,h3,rfl⟩;have:=(hd.lo e h4).2.2;simp;omega
theorem Good.evw {k:Nat} {S:St} {D:Doc} (h:Good k S D) (hk:k<=70) {ops:List Opr} (hc:checkE ops=0) (hw:Go.Proofs.Ythljnnjpmdgkoaa.whenAll S ops=0) (hks:∀ o∈ops,o.rg.key.size<=1099511627776) :
 ∀ i≤ ops.length,∀ e∈(Go.Proofs.Ythljnnjpmdgkoaa.runD D (ops.take i)).E,EvW e:=by
 intro i
 induction i with
 | zero=>intro _ e he;simp [Go.Proofs.Ythljnnjpmdgkoaa.runD] at he
 | succ i ih =>
   intro hi;have ih':=ih (by omega);obtain ⟨q1,q2,q3⟩:=h.runD hk hc hw hks i (by omega);obtain ⟨o,ho⟩:∃ o,ops[i]? = some o:=⟨_,List.getElem?_eq_getElem (by omega)⟩;have hom:=List.mem_of_getElem? ho;have hone:=(zcp hc).2.1 o hom;obtain ⟨⟨hr,_⟩,_⟩:=h.runs hk hc hks i (by omega);rw [zhe _ _ ho];generalize Go.Proofs.Ythljnnjpmdgkoaa.runD D (ops.take i)=q at *;generalize runR (D.rev+1) ⟨S,[],[]⟩ (ops.take i)=r at *;have hks':KSorted (D.adds r.E).kvs:=(by rw [(Doc.adds_parts D r.E).2.1];exact h.cpl.ks);rcases zks hone with hk1 | hk2 | hk3
   · unfold stepD
     rw [if_pos hk1];intro e he;rcases List.mem_append.1 he with he | he
     · exact ih' e he
     rw [List.mem_singleton.1 he]
     unfold oneE at hone;rw [if_neg (by omega),if_neg (by omega),if_pos hk1] at hone
     split at hone
     · rename_i hq;exact absurd hone hq
     split at hone
     · cases hone
     split at hone
     · exact .inl ⟨rfl,by show o.value.size<=1024;omega,by show 0<=o.lease;omega,rfl,rfl⟩
     cases hone
   · unfold stepD
     rw [if_neg (by omega),if_neg (by omega)];intro e he;rcases List.mem_append.1 he with he | he
     · exact ih' e he
     obtain ⟨x,hx,rfl⟩:=List.mem_map.1 he
     rw [zjm,q1] at hx;have:=(hr.doc.ver_at hks' (List.mem_filter.1 hx).1).1;exact .inr ⟨rfl,by show 0 < x.version;omega,rfl⟩
   unfold stepD
   rw [if_neg (by omega),if_pos hk3];exact ih'
theorem zoy (D:Doc) (keys:List ByteArray):∀ i≤ keys.length,∀ e∈(dropsQ D (keys.take i)).2,EvW e:=by
 intro i
 induction i with
 | zero=>intro _ e he;simp [dropsQ] at he
 | succ i ih =>
   intro hi;have ih':=ih (by omega);obtain ⟨x,hx⟩:∃ x,keys[i]? = some x:=⟨_,List.getElem?_eq_getElem (by omega)⟩;rw [zet _ _ hx];unfold dropQ
   split
   · rename_i hv
     intro e he;rcases List.mem_append.1 he with he | he
     · exact ih' e he
     rw [List.mem_singleton.1 he]
     exact .inr ⟨rfl,hv,rfl⟩
   exact ih'
theorem zqb {k:Nat} {S:St} {D:Doc} (h:Good k S D) (hk:k<=70) {q:CalQ} (hq:fewCal q=true) (hK:KeysOk D) (hD:RInv D):RInv (doD S D q):=by
 obtain ⟨f1,f2,f3,f4,f5⟩:=zdz hq;have hm0:=h.cpl.m0;unfold doD;by_cases h4:kindN q.1.kind=4
 · rw [if_pos h4];exact hD
 rw [if_neg h4]
 by_cases h5:kindN q.1.kind=5
 · rw [if_pos h5]
   split
   · rename_i hc
     obtain ⟨_,c2⟩:=zfe hc;rw [h.cpl.mark] at c2;exact hD.cut h.doc hK h.cpl.ks c2
   exact hD
 rw [if_neg h5]
 by_cases h6:kindN q.1.kind=6
 · rw [if_pos h6];exact hD
 rw [if_neg h6]
 by_cases h7:kindN q.1.kind=7
 · rw [if_pos h7]
   obtain ⟨a,_⟩:=h.drops hk q.2.2 f3 q.2.2.length (Nat.le_refl _);obtain ⟨_,hq2,_⟩:=h.dropDoc hk q.2.2 f3;have he:dropTo (D.rev+1) S q.2.2 q.2.2.length=q.2.2.foldl (dropR (D.rev+1)) (S,[]):=(by unfold dropTo;rw [List.take_length]);rw [he] at a;have hev:=zoy D q.2.2 q.2.2.length (Nat.le_refl _);rw [List.take_length,<-hq2,h.rev] at hev;exact hD.adds _ hev fun e he=>by rw [a.mods e he];omega
 rw [if_neg h7]
 by_cases ha:applyE S q.2.1=0
 · rw [if_pos ha]
   have hks:∀ o∈q.2.1,o.rg.key.size<=1099511627776:=fun o ho=>by have:=(f1 o ho).1;omega
   obtain ⟨e1,e2⟩:=zbp ha;obtain ⟨⟨a,_⟩,_⟩:=h.runs hk e1 hks q.2.1.length (Nat.le_refl _);obtain ⟨_,_,hq3⟩:=h.runD hk e1 e2 hks q.2.1.length (Nat.le_refl _);have hev:=h.evw hk e1 e2 hks q.2.1.length (Nat.le_refl _);rw [hq3] at hev;rw [List.take_length] at a hev;exact hD.adds _ hev fun e he=>by rw [a.mods e he];omega
 rw [if_neg ha];exact hD
theorem zft {l:List CalQ} (h:zbo l=true):∀ i≤ l.length,RInv (donesT l i).2:=by
 obtain ⟨h1,h2⟩:=zav h;have hg:=zbf h;have hk:=zcz h;intro i
 induction i with
 | zero=>intro _;exact RInv.new
 | succ i ih =>
   intro hi;obtain ⟨q,hq⟩:∃ q,l[i]? = some q:=⟨_,List.getElem?_eq_getElem (by omega)⟩;rw [zcn l hq];exact zqb (hg i (by omega)) (by omega) (h2 q (List.mem_of_getElem? hq)) (hk i (by omega)) (ih (by omega))
theorem zla {l m:List Kv} (h:l.Pairwise fun a b=>a.key≠b.key) (hs:∀ x∈l,x∈m):l.length<=m.length:=by
 induction l generalizing m with
 | nil=>exact Nat.zero_le _
 | cons x l ih =>
   obtain ⟨a,b,rfl⟩:=List.append_of_mem (hs x List.mem_cons_self);have h1:=List.pairwise_cons.1 h
   have:=ih (m:=a++b) h1.2 fun y hy=>by
    have hne:=h1.1 y hy;rcases List.mem_append.1 (hs y (List.mem_cons_of_mem _ hy)) with h2 | h2
    · exact List.mem_append_left _ h2
    rcases List.mem_cons.1 h2 with h3 | h3
    · rw [h3] at hne;exact absurd rfl hne
    exact List.mem_append_right _ h3
   simp only [List.length_append,List.length_cons] at this ⊢
   omega
theorem zep {l:List Ev} (p:Ev->Bool) (h:l.Pairwise fun a b=>p a=true->p b=true->a.kv.key≠b.kv.key):((l.filter p).map fun e=>e.kv).Pairwise fun a b=>a.key≠b.key:=by
 induction l with
 | nil=>exact List.Pairwise.nil
 | cons x l ih =>
   have h1:=List.pairwise_cons.1 h;rw [List.filter_cons]
   split
   · rename_i hp
     rw [List.map_cons];refine List.pairwise_cons.2 ⟨fun y hy=>?_,ih h1.2⟩;obtain ⟨e,he,rfl⟩:=List.mem_map.1 hy;obtain ⟨e1,e2⟩:=List.mem_filter.1 he;exact h1.1 e e1 hp e2
   exact ih h1.2
theorem Good.right {k:Nat} {S:St} {D:Doc} (h:Good k S D) (hk:k<=70) (hK:KeysOk D) (hR:RInv D):zar D:=by
 have hm0:=h.cpl.m0;have hr1:=h.rev1;have hs:=h.cpl.ks
 have hmade:∀ e∈D.events,madeB e e.prev e.kv.mod=true:=fun e he=>by
  have hv:wrap64 (e.prev.version+1)=e.prev.version+1:=by
   rcases hR.ev e he with ⟨h1,_,_,_,h5⟩ | ⟨h1,h5,_⟩
   · have:=h.doc.ver e he h1
     unfold wrap64;omega
   rcases hR.prevM h.doc hK hs he with hp | ⟨_,hp⟩
   · rw [hp];show wrap64 (0+1)=0+1;unfold wrap64;omega
   have hlo:=h.doc.lo e he
   have hver:=hp.ver
   have:e.prev.version<=200:=by
    obtain ⟨_,_,_,p4,p5,p6,p7,p8⟩:=hp;by_cases hq:e.prev.mod=e.prev.create
    · have:=p7 hq;omega
    have:=p8 hq;omega
   unfold wrap64;omega
  unfold madeB;rw [if_neg (by rw [hK.evs e he,zed];simp),hv];rcases hR.ev e he with ⟨h1,h2,h3,h4,h5⟩ | ⟨h1,h2,h3⟩
  · rw [if_neg (by omega),h1,h4,h5]
    simp [h2,h3]
  rw [if_pos h1,<-h3,zed]
  simp [h2]
 refine { m0:=hm0.1,mr:=hm0.2,top:=by omega,kvs:=fun i k hi=>⟨zdh.2 (hR.kv k (List.mem_of_getElem? hi)),fun k' h0 hk'=>?_⟩,evs:=fun i x hi=>?_,last:=h.doc.revAt_last hm0.1 hm0.2,fresh:=?_ }
 · obtain ⟨i1,i2⟩:=List.getElem?_eq_some_iff.1 hi
   obtain ⟨j1,j2⟩:=List.getElem?_eq_some_iff.1 hk';have:=List.pairwise_iff_getElem.1 hs (i - 1) i j1 i1 (by omega);rw [i2,j2] at this;exact this
 · have hx:=List.mem_of_getElem? hi
   have hlo:=h.doc.lo x hx;have hch:=h.doc.chain hm0.1 hi;refine ⟨by omega,by omega,by omega,fun j y hj hy he=>?_,fun hm=>?_,fun hm=>?_⟩
   · have:=h.doc.uniq_at hy hi hj he
     cases hq:keq y.kv.key x.kv.key
     · rfl
     exact absurd (zai.1 hq) this
   · have hp:=hR.pm x hx hm
     have hmd:=hmade x hx;have hmk:=hR.mkd x hx hm;rw [hm] at hmd;unfold zfq;rw [if_neg,hmk]
     · rcases h.doc.kind x hx with h1 | h1
       · rw [if_pos h1,if_pos h1]
         exact zed _
       rw [if_neg (by omega),if_neg (by omega)]
       rfl
     rintro (⟨a,b⟩ | a)
     · rcases hp with hp | ⟨hp1,hp2⟩
       · rw [hp,zed] at a;cases a
       rcases b with b | b
       · rw [zai.2 hp1] at b;cases b
       rw [hm] at hp2
       rw [zdh.2 hp2] at b;cases b
     rw [hmd] at a;cases a
   rw [<-h.doc.prev_at hi (by omega)]
   exact hmade x hx
 unfold freshK freshE
 rw [List.take_length,List.take_length]
 have e1:(D.kvs.filter fun k=>k.mod == D.mark).length<=((D.events.filter fun x=>x.kv.mod == D.mark && x.kind == 1).map fun e=>e.kv).length:=by
  refine zla ?_ fun x hx=>?_
  · refine List.Pairwise.imp ?_ (List.Pairwise.sublist List.filter_sublist hs)
    intro a b hab e;rw [e,zbc] at hab;cases hab
  obtain ⟨h1,h2⟩:=List.mem_filter.1 hx
  obtain ⟨e,he,h3,h4⟩:=hR.fr x h1 (by simpa using h2);refine List.mem_map.2 ⟨e,List.mem_filter.2 ⟨he,?_⟩,h4⟩;rw [h4,h3];simpa using h2
 have e2:((D.events.filter fun x=>x.kv.mod == D.mark && x.kind == 1).map fun e=>e.kv).length<=(D.kvs.filter fun k=>k.mod == D.mark).length:=by
  refine zla ?_ fun x hx=>?_
  · refine zep _ (h.doc.uniq.imp fun {a b} hab h1 h2=>hab ?_)
    simp only [Bool.and_eq_true,beq_iff_eq] at h1 h2;rw [h1.1,h2.1]
  obtain ⟨e,he,rfl⟩:=List.mem_map.1 hx
  obtain ⟨h1,h2⟩:=List.mem_filter.1 he;simp only [Bool.and_eq_true,beq_iff_eq] at h2;have h3:=hR.mkd e h1 h2.1;rw [if_pos h2.2] at h3;refine List.mem_filter.2 ⟨((zbd hs _ _).1 h3).1,by simpa using h2.1⟩
 simp only [List.length_map] at e1 e2;omega
theorem zhl {x:Kv} {r:Int} (h:MayP x r):x.mod<=r/\x.version<=r:=by
 obtain ⟨_,_,_,h1,h2,h3,h4,h5⟩:=h;by_cases e:x.mod=x.create
 · have:=h4 e;omega
 have:=h5 e;omega
theorem zre {l:List CalQ} (h:zbo l=true):DocN64 (donesT l l.length).2:=by
 have hl:=(zav h).1;have hG:=zbf h l.length (Nat.le_refl _);have hR:=zft h l.length (Nat.le_refl _);have hK:=zcz h l.length (Nat.le_refl _);have hs:=zsr h;have hm:=hG.cpl.m0;have hr:=hG.rev1
 have hlen:(donesT l l.length).2.kvs.length<=16 * l.length:=by
  have h1:=hG.size;rw [<-zkf hG];unfold zah;exact Nat.le_trans (List.length_filterMap_le _ _) (by omega)
 have hev:(donesT l l.length).2.events.length<=20000 * l.length:=by have:=hG.ok.ev;rw [<-hG.cpl.events];omega
 refine ⟨fun k hk=>?_,fun x hx=>?_,hs.kvs,hs.evs,by omega⟩
 · have:=zhl (hR.kv k hk)
   omega
 have h1:=hG.doc.lo x hx
 refine ⟨by omega,by omega,?_⟩;rcases hR.prevM hG.doc hK hG.cpl.ks hx with e | ⟨_,e⟩
 · rw [e]
   exact ⟨by decide,by decide⟩
 have:=zhl e
 omega
theorem zmo {l:List CalQ} (h:zbo l=true):zar (donesT l l.length).2:=by
 have hl:=(zav h).1;exact (zbf h l.length (Nat.le_refl _)).right (by omega) (zcz h l.length (Nat.le_refl _)) (zft h l.length (Nat.le_refl _))
set_option maxRecDepth 100000
theorem zru {W:World} {b:Nat} {o1:Opr} {t:TypeId} (h:W.heap[b]? = some (.cells (opC o1).toArray t (0,0))):SlR W 10 opC (.slice (some ⟨b,0,none⟩) 1 1) [o1]:=by
 refine ⟨_,1,rfl,by simp,by decide,fun _=>⟨b,0,rfl,fun i x hx j u hu=>?_⟩⟩;have hi:i=0:=by have:=(List.getElem?_eq_some_iff.1 hx).1;simp at this;omega
 subst hi;obtain rfl:o1=x:=by simpa using hx
 unfold World.cell?;simp only [h,Nat.zero_mul,Nat.zero_add,Option.isSome_none,Bool.false_eq_true,if_false];simpa using hu
end Go.Proofs.Ythljnnjpmdgkoaa