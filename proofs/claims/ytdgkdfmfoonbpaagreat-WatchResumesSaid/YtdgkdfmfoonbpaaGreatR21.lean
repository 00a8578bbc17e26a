/- Own lemmas. -/
import Derived.Test.YtdgkdfmfoonbpaaGreatR18
import Derived.Test.YtdgkdfmfoonbpaaGreatR20
namespace Go.Proofs.YtdgkdfmfoonbpaaGreat
open Go Go.Proofs Go.RowKit
def Doc.adds (D:Doc) (E:List Ev):Doc:=E.foldl Doc.add D
theorem Doc.adds_snoc (D:Doc) (E:List Ev) (x:Ev):D.adds (E++[x])=(D.adds E).add x:=by
 unfold Doc.adds;rw [List.foldl_append]
 rfl
theorem Doc.adds_parts (D:Doc) (E:List Ev):(D.adds E).mark=D.mark/\(D.adds E).kvs=D.kvs/\(D.adds E).events=D.events++E:=by
 induction E generalizing D with
 | nil=>exact ⟨rfl,rfl,by simp [Doc.adds]⟩
 | cons e E ih =>
   obtain ⟨a,b,c⟩:=ih (D.add e);refine ⟨a,b,?_⟩
   show ((D.add e).adds E).events=_
   rw [c]
   show (D.events++[e])++E=_
   simp
theorem Doc.adds_rev (D:Doc) (E:List Ev) (R:Int) (h:∀ e∈E,e.kv.mod=R):(D.adds E).rev=if E = [] then D.rev else R:=by
 rcases List.eq_nil_or_concat E with rfl | ⟨a,x,rfl⟩
 · rfl
 simp only [List.concat_eq_append] at *
 rw [Doc.adds_snoc,if_neg (by simp)];exact h x (by simp)
structure RunOk (c n:Nat) (D:Doc) (P:List Opr) (S:St) (E:List Ev):Prop where
 cpl:Cpl S (D.adds E)
 doc:DocOk n (D.adds E)
 ok:StOk n S
 size:S.T.length<=c
 srt:Sorted S.T
 more:SMore n S
 srev:S.rev=D.rev
 mods:∀ e∈E,e.kv.mod=D.rev+1
 old:∀ e∈D.events,e.kv.mod<=D.rev
 last:∀ k,(getT S.T k).2=true->∀ H,S.past (getT S.T k).1=some H->H.last<=D.rev\/∃ e∈E,e.kv.key=k
 by1:∀ e∈E,(e.kind=1/\∃ o∈P,o.kind=1/\o.rg.key=e.kv.key)\/(e.kind=2/\(∃ o∈P,o.kind=2/\inB e.kv.key o.rg.key o.rg.end_=true)/\hasL ((D.adds E).at (D.rev+1)) e.kv.key=none)
theorem RunOk.mono {c n c' n':Nat} {D:Doc} {P P':List Opr} {S:St} {E:List Ev} (h:RunOk c n D P S E) (hc:c<=c') (hn:n<=n') (hP:∀ o∈P,o∈P'):RunOk c' n' D P' S E :=
 { h with doc:=h.doc.mono hn,ok:=h.ok.mono hn,size:=Nat.le_trans h.size hc,more:=h.more.mono hn,by1:=fun e he=>(h.by1 e he).imp (fun ⟨a,o,b,c⟩=>⟨a,o,hP o b,c⟩) fun ⟨a,⟨o,b,c⟩,d⟩=>⟨a,⟨o,hP o b,c⟩,d⟩ }
theorem RunOk.rev {c n:Nat} {D:Doc} {P:List Opr} {S:St} {E:List Ev} (h:RunOk c n D P S E):D.rev<=(D.adds E).rev/\(D.adds E).rev<=D.rev+1:=by
 rw [Doc.adds_rev D E _ h.mods]
 split <;> omega
theorem znn (T:Pairs) (k:ByteArray) (m:Int):(insT T k m).length<=T.length+1:=by
 induction T with
 | nil=>simp [insT]
 | cons p T ih =>
   unfold insT
   split
   · simp;omega
   split <;> simp
theorem zwp (S:St) (x:Ev):(doS S x).T.length<=S.T.length+if x.kind=1 then 1 else 0:=by
 show (doneS S x).T.length<=_
 unfold doneS
 split
 · unfold putS madeS
   dsimp only
   split
   · omega
   exact znn _ _ _
 unfold tombS
 split <;> simp
theorem zql {S:St} (h:Sorted S.T) (x:Ev):Sorted (doS S x).T:=by
 show Sorted (doneS S x).T
 unfold doneS
 split
 · unfold putS madeS
   dsimp only
   split
   · exact h
   exact (zil _ h _ _).1
 unfold tombS
 split <;> exact h
theorem zwo (S:St) (x:Ev):(doS S x).rev=S.rev:=by
 show (doneS S x).rev=S.rev
 unfold doneS putS tombS madeS;dsimp only
 split
 · split <;> rfl
 split <;> rfl
theorem SInv.open_lives {M:Int} {S:St} (h:SInv M S) {k:ByteArray} (hk:(getT S.T k).2=true) {H:Hist} (hH:S.past (getT S.T k).1=some H) {r:Int} (hr:H.last<=r):(livesS S k r).2=isOpen H.gens:=by
 unfold livesS;rw [if_pos hk,hH];exact ztc (h.hist _ _ hH).1.1 hr
theorem zuy {M:Int} {S:St} (h:SInv M S) (hM:0<=M) (x:Ev) {B:Int} (_hB:0<=B) {k:ByteArray} (hk:(getT (doS S x).T k).2=true) {H:Hist} (hH:(doS S x).past (getT (doS S x).T k).1=some H)
 (hl:(getT S.T k).2=true->∀ H,S.past (getT S.T k).1=some H->H.last<=B\/k=x.kv.key):H.last<=B\/k=x.kv.key:=by
 by_cases hkx:k=x.kv.key
 · exact .inr hkx
 have f:(getT S.T k).2=true->∀ H,S.past (getT S.T k).1=some H->H.last<=B:=fun a H b=>(hl a H b).resolve_right hkx;refine .inl ?_;have i:keq x.kv.key k=false:=by rw [Bool.eq_false_iff];exact fun e=>hkx (zat.1 e).symm
 change (getT (doneS S x).T k).2=true at hk;change (doneS S x).past (getT (doneS S x).T k).1=some H at hH;unfold doneS at hk hH;by_cases h1:x.kind=1
 · rw [if_pos h1] at hk hH
   obtain ⟨a,b,c,d⟩:=h.made hM x.kv.key;unfold putS at hk hH;dsimp only at hk hH
   have g:(getT (madeS S x.kv.key).T k).1≠idS S x.kv.key:=fun e=>by
    have:=a.inj k x.kv.key hk b (e.trans c.symm);exact hkx this
   rw [if_neg g] at hH
   -- behind 'made' the other keys are as they were
   unfold madeS at hk hH;by_cases hg:(getT S.T x.kv.key).2=true
   · rw [if_pos hg] at hk hH
     exact f hk H hH
   rw [if_neg hg] at hk hH
   dsimp only at hk hH;rw [zcp,i] at hk hH;simp only [Bool.false_eq_true,if_false] at hk hH;obtain ⟨G,j⟩:=h.has k hk;have:=(h.hist _ _ j).2;rw [if_neg (by omega)] at hH;exact f hk H hH
 rw [if_neg h1] at hk hH
 unfold tombS at hk hH;by_cases hg:(getT S.T x.kv.key).2=true
 · rw [if_pos hg] at hk hH
   dsimp only at hk hH;rw [if_neg fun e=>hkx (h.inj k x.kv.key hk hg e)] at hH;exact f hk H hH
 rw [if_neg hg] at hk hH
 exact f hk H hH
theorem RunOk.event {c n N:Nat} {D:Doc} {P:List Opr} {S:St} {E:List Ev} (h:RunOk c n D P S E) (x:Ev) (hD0:0<=D.rev) (hmod:x.kv.mod=D.rev+1) (htop:D.rev+1<=top) (hmk:D.mark<=D.rev)
 (hp:x.prev=(hasL ((D.adds E).at (D.rev+1)) x.kv.key).getD kv0) (hfree:∀ e∈E,e.kv.key≠x.kv.key) (hN:c<N)
 (hk:(x.kind=1/\(x.kv.version=x.prev.version+1)/\∃ o∈P,o.kind=1/\o.rg.key=x.kv.key)\/(x.kind=2/\(∃ o∈P,o.kind=2/\inB x.kv.key o.rg.key o.rg.end_=true)/\hasL ((D.adds E).at (D.rev+1)) x.kv.key≠none)) :
 DoOk N S x/\RunOk (c+if x.kind=1 then 1 else 0) (n+1) D P (doS S x) (E++[x]):=by
 have C:=h.rev;have i:=Doc.adds_parts D E;have s:KSorted D.kvs:=by have:=h.cpl.ks;rw [i.2.1] at this;exact this
 have g:(D.adds E).mark<x.kv.mod:=by rw [i.1];omega
 -- the key's history is older
 have f:(getT S.T x.kv.key).2=true->∀ H,S.past (getT S.T x.kv.key).1=some H->H.last<x.kv.mod:=fun a H b=>by
  rcases h.last _ a H b with j | ⟨e,j,l⟩
  · omega
  exact absurd l (hfree e j)
 have q:x.kind=1\/x.kind=2:=hk.imp (·.1) (·.1)
 have m:x.kind≠1->(getT S.T x.kv.key).2=true/\∀ H,S.past (getT S.T x.kv.key).1=some H->isOpen H.gens=true:=fun hx=>by
  rcases hk with hk | ⟨_,_,B⟩
  · exact absurd hk.1 hx
  cases hh:hasL ((D.adds E).at (D.rev+1)) x.kv.key with
  | none=>exact absurd hh B
  | some y =>
    have v:(D.adds E).mark<=D.rev+1:=(by rw [i.1];omega);have A:=h.cpl.has v hh;refine ⟨A,fun H hH=>?_⟩;have G:=f A H hH;have l:=h.cpl.inv.open_lives A hH (r:=D.rev+1) (by omega);rw [<-l,h.cpl.lives _ _ v,hh]
    rfl
 have z:x.kind=1->1<=x.kv.version/\x.kv.version<=(n:Int)+1:=fun hx=>by
  rcases hk with ⟨_,I,_⟩ | hk
  · have j:=h.doc.ver_has (by rw [i.2.1];exact s) (D.rev+1) x.kv.key
    rw [<-hp] at j;omega
  rw [hk.1] at hx;cases hx
 have t:=h.cpl.does x (by omega) (by omega) g f m
 have u:=h.doc.add x (by omega) g (by omega) (by omega) (by rw [hmod];exact hp) q z (fun e d hem=>by
  rw [i.2.2] at d;rcases List.mem_append.1 d with d | d
  · have:=h.old e d;omega
  exact hfree e d)
 refine ⟨⟨by omega,by omega,fun H a b=>f b H a,fun _ _=>by have:=h.size;omega,fun hx H a b=>(m hx).2 H a⟩,?_⟩;refine ⟨by rw [Doc.adds_snoc];exact t,by rw [Doc.adds_snoc];exact u,doS_ok h.ok x (by omega) (by omega),?_,zql h.srt x,h.more.doS h.cpl.inv (by omega) x (by omega) f m,by rw [zwo];exact h.srev,fun e d=>?_,h.old,fun k a H b=>?_,fun e d=>?_⟩
 · have:=zwp S x
   have:=h.size;omega
 · rcases List.mem_append.1 d with d | d
   · exact h.mods e d
   rw [List.mem_singleton.1 d];exact hmod
 · by_cases hkx:k=x.kv.key
   · exact .inr ⟨x,List.mem_append_right _ List.mem_cons_self,hkx.symm⟩
   by_cases hold:∃ e∈E,e.kv.key=k
   · obtain ⟨e,j,l⟩:=hold
     exact .inr ⟨e,List.mem_append_left _ j,l⟩
   refine .inl ?_
   refine (zuy h.cpl.inv (by omega) x hD0 a b fun a' H' b'=>?_).resolve_right hkx;exact .inl ((h.last k a' H' b').resolve_right hold)
 have w:∀ k,k≠x.kv.key->hasL ((D.adds (E++[x])).at (D.rev+1)) k=hasL ((D.adds E).at (D.rev+1)) k:=fun k hkx=>by
  rw [Doc.adds_snoc,Doc.add_at _ x g,if_pos (by omega),zfg (Doc.at_sorted (by rw [i.2.1];exact s) _),if_neg fun e=>hkx (zat.1 e)]
 rcases List.mem_append.1 d with d | d
 · rcases h.by1 e d with j | ⟨j,l,F⟩
   · exact .inl j
   exact .inr ⟨j,l,by rw [w _ (hfree e d)];exact F⟩
 obtain rfl:=List.mem_singleton.1 d
 rcases hk with ⟨j,_,l⟩ | ⟨j,l,_⟩
 · exact .inl ⟨j,l⟩
 refine .inr ⟨j,l,?_⟩
 rw [Doc.adds_snoc,Doc.add_at _ e g,if_pos (by omega),zfg (Doc.at_sorted (by rw [i.2.1];exact s) _),if_pos (zat.2 rfl),if_neg (by omega)]
def delR (rev:Int) (r:Run) (L:List Kv) (j:Nat):St×List Kv×List Ev:=(L.take j).foldl (goneR rev) (r.S,[],r.E)
structure StepG (N n:Nat) (rev:Int) (r:Run) (o:Opr):Prop where
 st:StOk n r.S
 tree:r.S.T.length<=1099511627
 evs:r.E.length<=1099511627
 ans:r.A.length<=1099511627
 key:o.rg.key.size<=1099511627776
 put:o.kind=1->0<=(livesS r.S o.rg.key rev).1.version/\(livesS r.S o.rg.key rev).1.version<=top/\DoOk N r.S (zaw r.S o rev)
 dlen:(zaz r.S o.rg.key o.rg.end_ rev).length<=1099511627
 del:o.kind=2->∀ j x,(zaz r.S o.rg.key o.rg.end_ rev)[j]?=some x →
  let q:=delR rev r (zaz r.S o.rg.key o.rg.end_ rev) j
  StOk n q.1/\DoOk N q.1 (goneE x rev)/\q.2.1.length<=1099511627/\q.2.2.length<=1099511627
theorem zrs {x:Kv} (h:1<=x.version) (rev:Int):told (goneE x rev) = [x]:=by
 unfold told goneE;dsimp only;rw [if_pos (by omega)]
theorem RunOk.dels {N:Nat} {D:Doc} {P:List Opr} {o:Opr} (ho:o∈P) (hk:o.kind=2) (hD0:0<=D.rev) (htop:D.rev+1<=top) (hmk:D.mark<=D.rev) :
 ∀ (L:List Kv) (_:KSorted L) (c n:Nat) (S:St) (K:List Kv) (E:List Ev) (_:RunOk c n D P S E) (_:c<N) (_:∀ x∈L,inB x.key o.rg.key o.rg.end_=true/\hasL ((D.adds E).at (D.rev+1)) x.key=some x/\(∀ e∈E,e.kv.key≠x.key)/\1<=x.version),
  (∀ j≤ L.length,RunOk c (n+L.length) D P ((L.take j).foldl (goneR (D.rev+1)) (S,K,E)).1 ((L.take j).foldl (goneR (D.rev+1)) (S,K,E)).2.2 ∧
    ((L.take j).foldl (goneR (D.rev+1)) (S,K,E)).2.1=K++L.take j/\((L.take j).foldl (goneR (D.rev+1)) (S,K,E)).2.2=E++(L.take j).map fun x=>goneE x (D.rev+1)) ∧
  ∀ j x,L[j]?=some x->DoOk N ((L.take j).foldl (goneR (D.rev+1)) (S,K,E)).1 (goneE x (D.rev+1))
 | [],_,c,n,S,K,E,h,_,_=>by
   refine ⟨fun j _=>?_,fun j x hx=>by simp at hx⟩;simp only [List.take_nil,List.foldl_nil,List.length_nil,Nat.add_zero,List.append_nil,List.map_nil];exact ⟨h,trivial,trivial⟩
 | x :: L,hL,c,n,S,K,E,h,hN,hx=>by
   obtain ⟨l1,l2⟩:=List.pairwise_cons.1 hL;obtain ⟨x1,x2,x3,x4⟩:=hx x List.mem_cons_self;have hpt:=Doc.adds_parts D E;have hks:KSorted D.kvs:=(by have:=h.cpl.ks;rw [hpt.2.1] at this;exact this);have hmark:(D.adds E).mark<D.rev+1:=(by rw [hpt.1];omega);have hev:=h.event (N:=N) (goneE x (D.rev+1)) hD0 rfl htop hmk (by show x=(hasL ((D.adds E).at (D.rev+1)) x.key).getD kv0;rw [x2];rfl) x3 hN (.inr ⟨rfl,⟨o,ho,hk,x1⟩,by show hasL ((D.adds E).at (D.rev+1)) x.key≠none;rw [x2];simp⟩)
   have hev2:RunOk c (n+1) D P (doS S (goneE x (D.rev+1))) (E++[goneE x (D.rev+1)]):=by
    have:=hev.2;rw [if_neg (by show ¬ (2:Int)=1;decide)] at this;exact this
   have d:=RunOk.dels ho hk hD0 htop hmk L l2 c (n+1) (doS S (goneE x (D.rev+1))) (K++told (goneE x (D.rev+1))) (E++[goneE x (D.rev+1)]) hev2 hN fun y hy=>by
    obtain ⟨l,m,q,r⟩:=hx y (List.mem_cons_of_mem _ hy);have g:y.key≠x.key:=fun e=>by have:=l1 y hy;rw [e,zca] at this;cases this
    refine ⟨l,?_,fun e f=>?_,r⟩
    · rw [Doc.adds_snoc,Doc.add_at _ (goneE x (D.rev+1)) hmark,if_pos (by show D.rev+1<=D.rev+1;omega),zfg (Doc.at_sorted (by rw [hpt.2.1];exact hks) _),if_neg (fun e:keq y.key (goneE x (D.rev+1)).kv.key=true=>g (zat.1 e))]
      exact m
    rcases List.mem_append.1 f with f | f
    · exact q e f
    rw [List.mem_singleton.1 f];exact fun e=>g e.symm
   have k:=zrs x4 (D.rev+1);refine ⟨fun j hj=>?_,fun j y hy=>?_⟩
   · cases j with
     | zero =>
       simp only [List.take_zero,List.foldl_nil,List.append_nil,List.map_nil];exact ⟨h.mono (Nat.le_refl _) (by omega) fun _ h=>h,trivial,trivial⟩
     | succ j =>
       obtain ⟨a,b,i⟩:=d.1 j (by simpa using hj);rw [List.take_succ_cons,List.foldl_cons];refine ⟨?_,?_,?_⟩
       · have:=a
         rw [show n+(x :: L).length=n+1+L.length by simp;omega];exact this
       · show _=K++x :: L.take j
         rw [show goneR (D.rev+1) (S,K,E) x=(doS S (goneE x (D.rev+1)),K++told (goneE x (D.rev+1)),E++[goneE x (D.rev+1)]) from rfl,b,k];simp
       rw [show goneR (D.rev+1) (S,K,E) x=(doS S (goneE x (D.rev+1)),K++told (goneE x (D.rev+1)),E++[goneE x (D.rev+1)]) from rfl,i]
       simp
   cases j with
   | zero =>
     simp only [List.getElem?_cons_zero,Option.some.injEq] at hy;subst hy;exact hev.1
   | succ j =>
     rw [List.getElem?_cons_succ] at hy;rw [List.take_succ_cons,List.foldl_cons];exact d.2 j y hy
def Apart (P:List Opr) (o:Opr):Prop:=(o.kind=1->∀ p∈P,clash o p=false)/\(o.kind=2->∀ p∈P,p.kind=1->clash p o=false)
theorem RunOk.between {c n:Nat} {D:Doc} {P:List Opr} {S:St} {E:List Ev} (h:RunOk c n D P S E) (hmk:D.mark<=D.rev) (frm upr:ByteArray) :
 zaz S frm upr (D.rev+1)=((D.adds E).at (D.rev+1)).filter fun y=>inB y.key frm upr:=by
 unfold zaz;rw [h.cpl.between h.srt _ _ (by rw [(Doc.adds_parts D E).1];omega)]
 congr 1
 funext y
 exact zwa _ _ _
theorem RunOk.step {c n N:Nat} {D:Doc} {P:List Opr} {r:Run} (h:RunOk c n D P r.S r.E) (o:Opr) (hD0:0<=D.rev) (htop:D.rev+1<=top) (hmk:D.mark<=D.rev) (hN:c<N) (hap:Apart P o) (hn:n+c<=1099511627)
 (ha:r.A.length<=1099511627) (hkey:o.rg.key.size<=1099511627776) :
 StepG N (n+c) (D.rev+1) r o/\RunOk (c+1) (n+c+1) D (P++[o]) (stepR (D.rev+1) r o).S (stepR (D.rev+1) r o).E:=by
 have l:=Doc.adds_parts D r.E;have B:KSorted D.kvs:=by have:=h.cpl.ks;rw [l.2.1] at this;exact this
 have f:KSorted (D.adds r.E).kvs:=by rw [l.2.1];exact B
 have s:(D.adds r.E).mark<=D.rev+1:=by rw [l.1];omega
 have Q:r.E.length<=n:=by
  have d:=h.ok.ev;rw [h.cpl.events,l.2.2,List.length_append] at d;omega
 have F:=h.size;have z:RunOk c n D (P++[o]) r.S r.E:=h.mono (Nat.le_refl _) (Nat.le_refl _) fun _ h=>List.mem_append_left _ h;have v:o∈P++[o]:=List.mem_append_right _ List.mem_cons_self;have t:=h.between hmk o.rg.key o.rg.end_
 have M:(zaz r.S o.rg.key o.rg.end_ (D.rev+1)).length<=c:=by
  unfold zaz zbd;exact Nat.le_trans (List.length_filterMap_le _ _) (Nat.le_trans (List.length_filter_le _ _) F)
 have C:=h.cpl.lives o.rg.key (D.rev+1) s;have G:=h.doc.ver_has f (D.rev+1) o.rg.key
 have u:(livesS r.S o.rg.key (D.rev+1)).1=(hasL ((D.adds r.E).at (D.rev+1)) o.rg.key).getD kv0:=by
  rw [C];cases hasL ((D.adds r.E).at (D.rev+1)) o.rg.key <;> rfl
 -- the put
 have q:o.kind=1->DoOk N r.S (zaw r.S o (D.rev+1))/\RunOk (c+1) (n+1) D (P++[o]) (doS r.S (zaw r.S o (D.rev+1))) (r.E++[zaw r.S o (D.rev+1)]):=fun hk=>by
  have:=z.event (N:=N) (zaw r.S o (D.rev+1)) hD0 rfl htop hmk u (fun e he hke=>?_) hN (.inl ⟨rfl,rfl,o,v,hk,rfl⟩)
  · rw [if_pos (show (zaw r.S o (D.rev+1)).kind=1 from rfl)] at this
    exact this
  have m:e.kv.key=o.rg.key:=hke
  rcases h.by1 e he with ⟨_,p,w,i,k⟩ | ⟨_,⟨p,w,i,k⟩,_⟩
  · have d:=hap.1 hk p w
    unfold clash at d;rw [i,k,m] at d;simp at d
  have d:=hap.1 hk p w
  unfold clash at d;rw [<-m,i,k] at d;simp at d
 -- the delete
 have g:o.kind=2->_:=fun hk=>by
  have L:KSorted (zaz r.S o.rg.key o.rg.end_ (D.rev+1)):=by
   rw [t];exact List.Pairwise.sublist List.filter_sublist (Doc.at_sorted f _)
  exact RunOk.dels (N:=N) v hk hD0 htop hmk (zaz r.S o.rg.key o.rg.end_ (D.rev+1)) L c n r.S [] r.E z hN fun x hx=>by
   rw [t] at hx;obtain ⟨I,J⟩:=List.mem_filter.1 hx;have H:=(zbz (Doc.at_sorted f _) x.key x).2 ⟨I,rfl⟩;refine ⟨J,H,fun e he hke=>?_,(h.doc.ver_at f I).1⟩;rcases h.by1 e he with ⟨_,p,w,i,k⟩ | ⟨_,_,y⟩
   · have d:=hap.2 hk p w i
     unfold clash at d;rw [k,hke,hk,J] at d;simp at d
   rw [hke,H] at y;cases y
 have T:(n:Int)<=top:=by unfold top;omega
 refine ⟨⟨h.ok.mono (by omega),by omega,by omega,ha,hkey,fun hk=>?_,by omega,fun hk j x hx=>?_⟩,?_⟩
 · rw [u]
   exact ⟨G.1,by omega,(q hk).1⟩
 · have R:=(List.getElem?_eq_some_iff.1 hx).1
   obtain ⟨a,b,K⟩:=(g hk).1 j (by omega);have O:=(g hk).2 j x hx;refine ⟨a.ok.mono (by omega),O,?_,?_⟩
   · show ((delR (D.rev+1) r (zaz r.S o.rg.key o.rg.end_ (D.rev+1)) j).2.1).length<=_
     unfold delR;rw [b];simp;omega
   show ((delR (D.rev+1) r (zaz r.S o.rg.key o.rg.end_ (D.rev+1)) j).2.2).length<=_
   unfold delR;rw [K];simp;omega
 unfold stepR
 by_cases d:o.kind=1
 · rw [if_pos d]
   exact (q d).2.mono (Nat.le_refl _) (by omega) fun _ h=>h
 rw [if_neg d]
 by_cases h2:o.kind=2
 · rw [if_pos h2]
   obtain ⟨a,_,_⟩:=(g h2).1 _ (Nat.le_refl _);rw [List.take_length] at a;exact a.mono (by omega) (by omega) fun _ h=>h
 rw [if_neg h2]
 by_cases h3:o.kind=3
 · rw [if_pos h3]
   exact z.mono (by omega) (by omega) fun _ h=>h
 rw [if_neg h3]
 exact z.mono (by omega) (by omega) fun _ h=>h
end Go.Proofs.YtdgkdfmfoonbpaaGreat