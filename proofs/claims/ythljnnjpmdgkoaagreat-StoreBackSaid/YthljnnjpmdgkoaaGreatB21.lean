/- Own lemmas and contracts that the claim's proof needs, laid together. The conditions stand in each. -/
import Derived.Test.YthljnnjpmdgkoaaGreatB18
import Derived.Test.YthljnnjpmdgkoaaGreatB20
namespace Go.Proofs.YthljnnjpmdgkoaaGreat
open Go Go.Proofs Go.RowKit
def Doc.adds (D:Doc) (E:List Ev):Doc:=E.foldl Doc.add D
theorem Doc.adds_snoc (D:Doc) (E:List Ev) (x:Ev):D.adds (E++[x])=(D.adds E).add x:=by
 unfold Doc.adds;rw [List.foldl_append]
 rfl
theorem Doc.adds_parts (D:Doc) (E:List Ev):(D.adds E).mark=D.mark/\(D.adds E).kvs=D.kvs/\(D.adds E).events=D.events++E:=by
 induction E generalizing D with
 | nil=>exact ⟨rfl,rfl,by simp [Doc.adds]⟩
 | cons e E ih =>
   obtain ⟨a,b,c⟩:=ih (D.add e);refine ⟨a,b,?_⟩
   show ((D.add e).adds E).events=_
   rw [c]
   show (D.events++[e])++E=_
   simp
theorem Doc.adds_rev (D:Doc) (E:List Ev) (R:Int) (h:∀ e∈E,e.kv.mod=R):(D.adds E).rev=if E = [] then D.rev else R:=by
 rcases List.eq_nil_or_concat E with rfl | ⟨E',x,rfl⟩
 · rfl
 simp only [List.concat_eq_append] at *
 rw [Doc.adds_snoc,if_neg (by simp)];exact h x (by simp)
structure RunOk (c n:Nat) (D:Doc) (P:List Opr) (S:St) (E:List Ev):Prop where
 cpl:Cpl S (D.adds E)
 doc:DocOk n (D.adds E)
 ok:StOk n S
 size:S.T.length<=c
 srt:Sorted S.T
 more:SMore n S
 srev:S.rev=D.rev
 mods:∀ e∈E,e.kv.mod=D.rev+1
 old:∀ e∈D.events,e.kv.mod<=D.rev
 last:∀ k,(getT S.T k).2=true->∀ H,S.past (getT S.T k).1=some H->H.last<=D.rev\/∃ e∈E,e.kv.key=k
 by1:∀ e∈E,(e.kind=1/\∃ o∈P,o.kind=1/\o.rg.key=e.kv.key)\/(e.kind=2/\(∃ o∈P,o.kind=2/\inB e.kv.key o.rg.key o.rg.end_=true)/\hasL ((D.adds E).at (D.rev+1)) e.kv.key=none)
theorem RunOk.mono {c n c' n':Nat} {D:Doc} {P P':List Opr} {S:St} {E:List Ev} (h:RunOk c n D P S E) (hc:c<=c') (hn:n<=n') (hP:∀ o∈P,o∈P'):RunOk c' n' D P' S E :=
 { h with doc:=h.doc.mono hn,ok:=h.ok.mono hn,size:=Nat.le_trans h.size hc,more:=h.more.mono hn,by1:=fun e he=>(h.by1 e he).imp (fun ⟨a,o,b,c⟩=>⟨a,o,hP o b,c⟩) fun ⟨a,⟨o,b,c⟩,d⟩=>⟨a,⟨o,hP o b,c⟩,d⟩ }
theorem RunOk.rev {c n:Nat} {D:Doc} {P:List Opr} {S:St} {E:List Ev} (h:RunOk c n D P S E):D.rev<=(D.adds E).rev/\(D.adds E).rev<=D.rev+1:=by
 rw [Doc.adds_rev D E _ h.mods]
 split <;> omega
theorem zig (T:Pairs) (k:ByteArray) (m:Int):(insT T k m).length<=T.length+1:=by
 induction T with
 | nil=>simp [insT]
 | cons p T ih =>
   unfold insT
   split
   · simp;omega
   split <;> simp
theorem ztj (S:St) (x:Ev):(doS S x).T.length<=S.T.length+if x.kind=1 then 1 else 0:=by
 show (doneS S x).T.length<=_
 unfold doneS
 split
 · unfold putS madeS
   dsimp only
   split
   · omega
   exact zig _ _ _
 unfold tombS
 split <;> simp
theorem zgv {S:St} (h:Sorted S.T) (x:Ev):Sorted (doS S x).T:=by
 show Sorted (doneS S x).T
 unfold doneS
 split
 · unfold putS madeS
   dsimp only
   split
   · exact h
   exact (zif _ h _ _).1
 unfold tombS
 split <;> exact h
theorem doS_T2 (S:St) (x:Ev) (h:x.kind≠1):(doS S x).T=S.T:=by
 show (doneS S x).T=S.T
 unfold doneS;rw [if_neg h];unfold tombS
 split <;> rfl
theorem zoc (S:St) (x:Ev):(doS S x).rev=S.rev:=by
 show (doneS S x).rev=S.rev
 unfold doneS putS tombS madeS;dsimp only
 split
 · split <;> rfl
 split <;> rfl
theorem SInv.open_lives {M:Int} {S:St} (h:SInv M S) {k:ByteArray} (hk:(getT S.T k).2=true) {H:Hist} (hH:S.past (getT S.T k).1=some H) {r:Int} (hr:H.last<=r):(livesS S k r).2=isOpen H.gens:=by
 unfold livesS;rw [if_pos hk,hH];exact zta (h.hist _ _ hH).1.1 hr
theorem zhh {M:Int} {S:St} (h:SInv M S) (hM:0<=M) (x:Ev) {B:Int} (_hB:0<=B) {k:ByteArray} (hk:(getT (doS S x).T k).2=true) {H:Hist} (hH:(doS S x).past (getT (doS S x).T k).1=some H)
 (hl:(getT S.T k).2=true->∀ H,S.past (getT S.T k).1=some H->H.last<=B\/k=x.kv.key):H.last<=B\/k=x.kv.key:=by
 by_cases hkx:k=x.kv.key
 · exact .inr hkx
 have hl':(getT S.T k).2=true->∀ H,S.past (getT S.T k).1=some H->H.last<=B:=fun a H b=>(hl a H b).resolve_right hkx;refine .inl ?_;have hne:keq x.kv.key k=false:=by rw [Bool.eq_false_iff];exact fun e=>hkx (zap.1 e).symm
 change (getT (doneS S x).T k).2=true at hk;change (doneS S x).past (getT (doneS S x).T k).1=some H at hH;unfold doneS at hk hH;by_cases h1:x.kind=1
 · rw [if_pos h1] at hk hH
   obtain ⟨a,b,c,d⟩:=h.made hM x.kv.key;unfold putS at hk hH;dsimp only at hk hH
   have hid:(getT (madeS S x.kv.key).T k).1≠idS S x.kv.key:=fun e=>by
    have:=a.inj k x.kv.key hk b (e.trans c.symm);exact hkx this
   rw [if_neg hid] at hH
   -- behind 'made' the other keys are as they were
   unfold madeS at hk hH;by_cases hg:(getT S.T x.kv.key).2=true
   · rw [if_pos hg] at hk hH
     exact hl' hk H hH
   rw [if_neg hg] at hk hH
   dsimp only at hk hH;rw [zcf,hne] at hk hH;simp only [Bool.false_eq_true,if_false] at hk hH;obtain ⟨G,hG⟩:=h.has k hk;have:=(h.hist _ _ hG).2;rw [if_neg (by omega)] at hH;exact hl' hk H hH
 rw [if_neg h1] at hk hH
 unfold tombS at hk hH;by_cases hg:(getT S.T x.kv.key).2=true
 · rw [if_pos hg] at hk hH
   dsimp only at hk hH;rw [if_neg fun e=>hkx (h.inj k x.kv.key hk hg e)] at hH;exact hl' hk H hH
 rw [if_neg hg] at hk hH
 exact hl' hk H hH
theorem RunOk.event {c n N:Nat} {D:Doc} {P:List Opr} {S:St} {E:List Ev} (h:RunOk c n D P S E) (x:Ev) (hD0:0<=D.rev) (hmod:x.kv.mod=D.rev+1) (htop:D.rev+1<=top) (hmk:D.mark<=D.rev)
 (hp:x.prev=(hasL ((D.adds E).at (D.rev+1)) x.kv.key).getD kv0) (hfree:∀ e∈E,e.kv.key≠x.kv.key) (hN:c < N)
 (hk:(x.kind=1/\(x.kv.version=x.prev.version+1)/\∃ o∈P,o.kind=1/\o.rg.key=x.kv.key)\/(x.kind=2/\(∃ o∈P,o.kind=2/\inB x.kv.key o.rg.key o.rg.end_=true)/\hasL ((D.adds E).at (D.rev+1)) x.kv.key≠none)) :
 DoOk N S x/\RunOk (c+if x.kind=1 then 1 else 0) (n+1) D P (doS S x) (E++[x]):=by
 have hrev:=h.rev;have hpt:=Doc.adds_parts D E;have hks:KSorted D.kvs:=by have:=h.cpl.ks;rw [hpt.2.1] at this;exact this
 have hmark:(D.adds E).mark < x.kv.mod:=by rw [hpt.1];omega
 -- the key's history is older
 have hlast:(getT S.T x.kv.key).2=true->∀ H,S.past (getT S.T x.kv.key).1=some H->H.last < x.kv.mod:=fun a H b=>by
  rcases h.last _ a H b with h1 | ⟨e,h1,h2⟩
  · omega
  exact absurd h2 (hfree e h1)
 have hkind:x.kind=1\/x.kind=2:=hk.imp (·.1) (·.1)
 have hdel:x.kind≠1->(getT S.T x.kv.key).2=true/\∀ H,S.past (getT S.T x.kv.key).1=some H->isOpen H.gens=true:=fun hx=>by
  rcases hk with hk | ⟨_,_,hne⟩
  · exact absurd hk.1 hx
  cases hh:hasL ((D.adds E).at (D.rev+1)) x.kv.key with
  | none=>exact absurd hh hne
  | some y =>
    have hmr:(D.adds E).mark<=D.rev+1:=(by rw [hpt.1];omega);have hg:=h.cpl.has hmr hh;refine ⟨hg,fun H hH=>?_⟩;have hl:=hlast hg H hH;have h2:=h.cpl.inv.open_lives hg hH (r:=D.rev+1) (by omega);rw [<-h2,h.cpl.lives _ _ hmr,hh]
    rfl
 have hver:x.kind=1->1<=x.kv.version/\x.kv.version<=(n:Int)+1:=fun hx=>by
  rcases hk with ⟨_,hv,_⟩ | hk
  · have h1:=h.doc.ver_has (by rw [hpt.2.1];exact hks) (D.rev+1) x.kv.key
    rw [<-hp] at h1;omega
  rw [hk.1] at hx;cases hx
 have hcpl:=h.cpl.does x (by omega) (by omega) hmark hlast hdel
 have hdoc:=h.doc.add x (by omega) hmark (by omega) (by omega) (by rw [hmod];exact hp) hkind hver (fun e he hem=>by
  rw [hpt.2.2] at he;rcases List.mem_append.1 he with he | he
  · have:=h.old e he;omega
  exact hfree e he)
 refine ⟨⟨by omega,by omega,fun H a b=>hlast b H a,fun _ _=>by have:=h.size;omega,fun hx H a b=>(hdel hx).2 H a⟩,?_⟩;refine ⟨by rw [Doc.adds_snoc];exact hcpl,by rw [Doc.adds_snoc];exact hdoc,doS_ok h.ok x (by omega) (by omega),?_,zgv h.srt x,h.more.doS h.cpl.inv (by omega) x (by omega) hlast hdel,by rw [zoc];exact h.srev,fun e he=>?_,h.old,fun k a H b=>?_,fun e he=>?_⟩
 · have:=ztj S x
   have:=h.size;omega
 · rcases List.mem_append.1 he with he | he
   · exact h.mods e he
   rw [List.mem_singleton.1 he];exact hmod
 · by_cases hkx:k=x.kv.key
   · exact .inr ⟨x,List.mem_append_right _ List.mem_cons_self,hkx.symm⟩
   by_cases hold:∃ e∈E,e.kv.key=k
   · obtain ⟨e,h1,h2⟩:=hold
     exact .inr ⟨e,List.mem_append_left _ h1,h2⟩
   refine .inl ?_
   refine (zhh h.cpl.inv (by omega) x hD0 a b fun a' H' b'=>?_).resolve_right hkx;exact .inl ((h.last k a' H' b').resolve_right hold)
 have hnow:∀ k,k≠x.kv.key->hasL ((D.adds (E++[x])).at (D.rev+1)) k=hasL ((D.adds E).at (D.rev+1)) k:=fun k hkx=>by
  rw [Doc.adds_snoc,Doc.add_at _ x hmark,if_pos (by omega),zct (Doc.at_sorted (by rw [hpt.2.1];exact hks) _),if_neg fun e=>hkx (zap.1 e)]
 rcases List.mem_append.1 he with he | he
 · rcases h.by1 e he with h1 | ⟨h1,h2,h3⟩
   · exact .inl h1
   exact .inr ⟨h1,h2,by rw [hnow _ (hfree e he)];exact h3⟩
 obtain rfl:=List.mem_singleton.1 he
 rcases hk with ⟨h1,_,h2⟩ | ⟨h1,h2,_⟩
 · exact .inl ⟨h1,h2⟩
 refine .inr ⟨h1,h2,?_⟩
 rw [Doc.adds_snoc,Doc.add_at _ e hmark,if_pos (by omega),zct (Doc.at_sorted (by rw [hpt.2.1];exact hks) _),if_pos (zap.2 rfl),if_neg (by omega)]
def delR (rev:Int) (r:Run) (L:List Kv) (j:Nat):St × List Kv × List Ev:=(L.take j).foldl (goneR rev) (r.S,[],r.E)
structure StepG (N n:Nat) (rev:Int) (r:Run) (o:Opr):Prop where
 st:StOk n r.S
 tree:r.S.T.length<=1099511627
 evs:r.E.length<=1099511627
 ans:r.A.length<=1099511627
 key:o.rg.key.size<=1099511627776
 put:o.kind=1->0<=(livesS r.S o.rg.key rev).1.version/\(livesS r.S o.rg.key rev).1.version<=top/\DoOk N r.S (zaw r.S o rev)
 dlen:(zba r.S o.rg.key o.rg.end_ rev).length<=1099511627
 del:o.kind=2->∀ j x,(zba r.S o.rg.key o.rg.end_ rev)[j]? = some x →
  let q:=delR rev r (zba r.S o.rg.key o.rg.end_ rev) j
  StOk n q.1/\DoOk N q.1 (goneE x rev)/\q.2.1.length<=1099511627/\q.2.2.length<=1099511627
theorem zlf {x:Kv} (h:1<=x.version) (rev:Int):told (goneE x rev) = [x]:=by
 unfold told goneE;dsimp only;rw [if_pos (by omega)]
theorem RunOk.dels {N:Nat} {D:Doc} {P:List Opr} {o:Opr} (ho:o∈P) (hk:o.kind=2) (hD0:0<=D.rev) (htop:D.rev+1<=top) (hmk:D.mark<=D.rev) :
 ∀ (L:List Kv) (_:KSorted L) (c n:Nat) (S:St) (K:List Kv) (E:List Ev) (_:RunOk c n D P S E) (_:c < N) (_:∀ x∈L,inB x.key o.rg.key o.rg.end_=true/\hasL ((D.adds E).at (D.rev+1)) x.key=some x/\(∀ e∈E,e.kv.key≠x.key)/\1<=x.version),
  (∀ j≤ L.length,RunOk c (n+L.length) D P ((L.take j).foldl (goneR (D.rev+1)) (S,K,E)).1 ((L.take j).foldl (goneR (D.rev+1)) (S,K,E)).2.2 ∧
    ((L.take j).foldl (goneR (D.rev+1)) (S,K,E)).2.1=K++L.take j/\((L.take j).foldl (goneR (D.rev+1)) (S,K,E)).2.2=E++(L.take j).map fun x=>goneE x (D.rev+1)) ∧
  ∀ j x,L[j]? = some x->DoOk N ((L.take j).foldl (goneR (D.rev+1)) (S,K,E)).1 (goneE x (D.rev+1))
 | [],_,c,n,S,K,E,h,_,_=>by
   refine ⟨fun j _=>?_,fun j x hx=>by simp at hx⟩;simp only [List.take_nil,List.foldl_nil,List.length_nil,Nat.add_zero,List.append_nil,List.map_nil];exact ⟨h,trivial,trivial⟩
 | x :: L,hL,c,n,S,K,E,h,hN,hx=>by
   obtain ⟨l1,l2⟩:=List.pairwise_cons.1 hL;obtain ⟨x1,x2,x3,x4⟩:=hx x List.mem_cons_self;have hpt:=Doc.adds_parts D E;have hks:KSorted D.kvs:=(by have:=h.cpl.ks;rw [hpt.2.1] at this;exact this);have hmark:(D.adds E).mark < D.rev+1:=(by rw [hpt.1];omega);have hev:=h.event (N:=N) (goneE x (D.rev+1)) hD0 rfl htop hmk (by show x=(hasL ((D.adds E).at (D.rev+1)) x.key).getD kv0;rw [x2];rfl) x3 hN (.inr ⟨rfl,⟨o,ho,hk,x1⟩,by show hasL ((D.adds E).at (D.rev+1)) x.key≠none;rw [x2];simp⟩)
   have hev2:RunOk c (n+1) D P (doS S (goneE x (D.rev+1))) (E++[goneE x (D.rev+1)]):=by
    have:=hev.2;rw [if_neg (by show ¬ (2:Int)=1;decide)] at this;exact this
   have hnext:=RunOk.dels ho hk hD0 htop hmk L l2 c (n+1) (doS S (goneE x (D.rev+1))) (K++told (goneE x (D.rev+1))) (E++[goneE x (D.rev+1)]) hev2 hN fun y hy=>by
    obtain ⟨y1,y2,y3,y4⟩:=hx y (List.mem_cons_of_mem _ hy);have hne:y.key≠x.key:=fun e=>by have:=l1 y hy;rw [e,zbd] at this;cases this
    refine ⟨y1,?_,fun e he=>?_,y4⟩
    · rw [Doc.adds_snoc,Doc.add_at _ (goneE x (D.rev+1)) hmark,if_pos (by show D.rev+1<=D.rev+1;omega),zct (Doc.at_sorted (by rw [hpt.2.1];exact hks) _),if_neg (fun e:keq y.key (goneE x (D.rev+1)).kv.key=true=>hne (zap.1 e))]
      exact y2
    rcases List.mem_append.1 he with he | he
    · exact y3 e he
    rw [List.mem_singleton.1 he];exact fun e=>hne e.symm
   have ht:=zlf x4 (D.rev+1);refine ⟨fun j hj=>?_,fun j y hy=>?_⟩
   · cases j with
     | zero =>
       simp only [List.take_zero,List.foldl_nil,List.append_nil,List.map_nil];exact ⟨h.mono (Nat.le_refl _) (by omega) fun _ h=>h,trivial,trivial⟩
     | succ j =>
       obtain ⟨a,b,c'⟩:=hnext.1 j (by simpa using hj);rw [List.take_succ_cons,List.foldl_cons];refine ⟨?_,?_,?_⟩
       · have:=a
         rw [show n+(x :: L).length=n+1+L.length by simp;omega];exact this
       · show _=K++x :: L.take j
         rw [show goneR (D.rev+1) (S,K,E) x=(doS S (goneE x (D.rev+1)),K++told (goneE x (D.rev+1)),E++[goneE x (D.rev+1)]) from rfl,b,ht];simp
       rw [show goneR (D.rev+1) (S,K,E) x=(doS S (goneE x (D.rev+1)),K++told (goneE x (D.rev+1)),E++[goneE x (D.rev+1)]) from rfl,c']
       simp
   cases j with
   | zero =>
     simp only [List.getElem?_cons_zero,Option.some.injEq] at hy;subst hy;exact hev.1
   | succ j =>
     rw [List.getElem?_cons_succ] at hy;rw [List.take_succ_cons,List.foldl_cons];exact hnext.2 j y hy
def Apart (P:List Opr) (o:Opr):Prop:=(o.kind=1->∀ p∈P,clash o p=false)/\(o.kind=2->∀ p∈P,p.kind=1->clash p o=false)
theorem RunOk.between {c n:Nat} {D:Doc} {P:List Opr} {S:St} {E:List Ev} (h:RunOk c n D P S E) (hmk:D.mark<=D.rev) (frm upr:ByteArray) :
 zba S frm upr (D.rev+1)=((D.adds E).at (D.rev+1)).filter fun y=>inB y.key frm upr:=by
 unfold zba;rw [h.cpl.between h.srt _ _ (by rw [(Doc.adds_parts D E).1];omega)]
 congr 1
 funext y
 exact zsb _ _ _
theorem RunOk.step {c n N:Nat} {D:Doc} {P:List Opr} {r:Run} (h:RunOk c n D P r.S r.E) (o:Opr) (hD0:0<=D.rev) (htop:D.rev+1<=top) (hmk:D.mark<=D.rev) (hN:c < N) (hap:Apart P o) (hn:n+c<=1099511627)
 (ha:r.A.length<=1099511627) (hkey:o.rg.key.size<=1099511627776) :
 StepG N (n+c) (D.rev+1) r o/\RunOk (c+1) (n+c+1) D (P++[o]) (stepR (D.rev+1) r o).S (stepR (D.rev+1) r o).E:=by
 have hpt:=Doc.adds_parts D r.E;have hks:KSorted D.kvs:=by have:=h.cpl.ks;rw [hpt.2.1] at this;exact this
 have hks':KSorted (D.adds r.E).kvs:=by rw [hpt.2.1];exact hks
 have hmark:(D.adds r.E).mark<=D.rev+1:=by rw [hpt.1];omega
 have hel:r.E.length<=n:=by
  have h1:=h.ok.ev;rw [h.cpl.events,hpt.2.2,List.length_append] at h1;omega
 have hsz:=h.size;have hP:RunOk c n D (P++[o]) r.S r.E:=h.mono (Nat.le_refl _) (Nat.le_refl _) fun _ h=>List.mem_append_left _ h;have hoP:o∈P++[o]:=List.mem_append_right _ List.mem_cons_self;have hbt:=h.between hmk o.rg.key o.rg.end_
 have hbl:(zba r.S o.rg.key o.rg.end_ (D.rev+1)).length<=c:=by
  unfold zba zan;exact Nat.le_trans (List.length_filterMap_le _ _) (Nat.le_trans (List.length_filter_le _ _) hsz)
 have hlv:=h.cpl.lives o.rg.key (D.rev+1) hmark;have hvv:=h.doc.ver_has hks' (D.rev+1) o.rg.key
 have hl1:(livesS r.S o.rg.key (D.rev+1)).1=(hasL ((D.adds r.E).at (D.rev+1)) o.rg.key).getD kv0:=by
  rw [hlv];cases hasL ((D.adds r.E).at (D.rev+1)) o.rg.key <;> rfl
 -- the put
 have hput:o.kind=1->DoOk N r.S (zaw r.S o (D.rev+1))/\RunOk (c+1) (n+1) D (P++[o]) (doS r.S (zaw r.S o (D.rev+1))) (r.E++[zaw r.S o (D.rev+1)]):=fun hk=>by
  have:=hP.event (N:=N) (zaw r.S o (D.rev+1)) hD0 rfl htop hmk hl1 (fun e he hke=>?_) hN (.inl ⟨rfl,rfl,o,hoP,hk,rfl⟩)
  · rw [if_pos (show (zaw r.S o (D.rev+1)).kind=1 from rfl)] at this
    exact this
  have hke':e.kv.key=o.rg.key:=hke
  rcases h.by1 e he with ⟨_,p,hp,hp1,hp2⟩ | ⟨_,⟨p,hp,hp1,hp2⟩,_⟩
  · have h1:=hap.1 hk p hp
    unfold clash at h1;rw [hp1,hp2,hke'] at h1;simp at h1
  have h1:=hap.1 hk p hp
  unfold clash at h1;rw [<-hke',hp1,hp2] at h1;simp at h1
 -- the delete
 have hdel:o.kind=2->_:=fun hk=>by
  have hL:KSorted (zba r.S o.rg.key o.rg.end_ (D.rev+1)):=by
   rw [hbt];exact List.Pairwise.sublist List.filter_sublist (Doc.at_sorted hks' _)
  exact RunOk.dels (N:=N) hoP hk hD0 htop hmk (zba r.S o.rg.key o.rg.end_ (D.rev+1)) hL c n r.S [] r.E hP hN fun x hx=>by
   rw [hbt] at hx;obtain ⟨x1,x2⟩:=List.mem_filter.1 hx;have hh:=(zbf (Doc.at_sorted hks' _) x.key x).2 ⟨x1,rfl⟩;refine ⟨x2,hh,fun e he hke=>?_,(h.doc.ver_at hks' x1).1⟩;rcases h.by1 e he with ⟨_,p,hp,hp1,hp2⟩ | ⟨_,_,hp3⟩
   · have h1:=hap.2 hk p hp hp1
     unfold clash at h1;rw [hp2,hke,hk,x2] at h1;simp at h1
   rw [hke,hh] at hp3;cases hp3
 have hn1:(n:Int)<=top:=by unfold top;omega
 refine ⟨⟨h.ok.mono (by omega),by omega,by omega,ha,hkey,fun hk=>?_,by omega,fun hk j x hx=>?_⟩,?_⟩
 · rw [hl1]
   exact ⟨hvv.1,by omega,(hput hk).1⟩
 · have hjl:=(List.getElem?_eq_some_iff.1 hx).1
   obtain ⟨a,b,c'⟩:=(hdel hk).1 j (by omega);have hd:=(hdel hk).2 j x hx;refine ⟨a.ok.mono (by omega),hd,?_,?_⟩
   · show ((delR (D.rev+1) r (zba r.S o.rg.key o.rg.end_ (D.rev+1)) j).2.1).length<=_
     unfold delR;rw [b];simp;omega
   show ((delR (D.rev+1) r (zba r.S o.rg.key o.rg.end_ (D.rev+1)) j).2.2).length<=_
   unfold delR;rw [c'];simp;omega
 unfold stepR
 by_cases h1:o.kind=1
 · rw [if_pos h1]
   exact (hput h1).2.mono (Nat.le_refl _) (by omega) fun _ h=>h
 rw [if_neg h1]
 by_cases h2:o.kind=2
 · rw [if_pos h2]
   obtain ⟨a,_,_⟩:=(hdel h2).1 _ (Nat.le_refl _);rw [List.take_length] at a;exact a.mono (by omega) (by omega) fun _ h=>h
 rw [if_neg h2]
 by_cases h3:o.kind=3
 · rw [if_pos h3]
   exact hP.mono (by omega) (by omega) fun _ h=>h
 rw [if_neg h3]
 exact hP.mono (by omega) (by omega) fun _ h=>h
end Go.Proofs.YthljnnjpmdgkoaaGreat