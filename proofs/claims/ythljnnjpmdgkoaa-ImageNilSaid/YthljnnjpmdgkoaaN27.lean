/- A run of ops that are right: what each step asks of the walk holds (StepG), and RunOk holds behind it. Plain facts; no program is run. -/
import Derived.Test.YthljnnjpmdgkoaaN26
namespace Go.Proofs.Ythljnnjpmdgkoaa
open Go Go.Proofs Go.RowKit
def delR (rev:Int) (r:Run) (L:List Kv) (j:Nat):St × List Kv × List Ev:=(L.take j).foldl (goneR rev) (r.S,[],r.E)
structure StepG (N n:Nat) (rev:Int) (r:Run) (o:Opr):Prop where
 st:StOk n r.S
 tree:r.S.T.length<=1099511627
 evs:r.E.length<=1099511627
 ans:r.A.length<=1099511627
 key:o.rg.key.size<=1099511627776
 put:o.kind=1->0<=(livesS r.S o.rg.key rev).1.version/\(livesS r.S o.rg.key rev).1.version<=top/\DoOk N r.S (zaq r.S o rev)
 dlen:(zat r.S o.rg.key o.rg.end_ rev).length<=1099511627
 del:o.kind=2->∀ j x,(zat r.S o.rg.key o.rg.end_ rev)[j]? = some x →
  let q:=delR rev r (zat r.S o.rg.key o.rg.end_ rev) j
  StOk n q.1/\DoOk N q.1 (goneE x rev)/\q.2.1.length<=1099511627/\q.2.2.length<=1099511627
theorem zke {x:Kv} (h:1<=x.version) (rev:Int):told (goneE x rev) = [x]:=by
 unfold told goneE;dsimp only;rw [if_pos (by omega)]
theorem RunOk.dels {N:Nat} {D:Doc} {P:List Opr} {o:Opr} (ho:o∈P) (hk:o.kind=2) (hD0:0<=D.rev) (htop:D.rev+1<=top) (hmk:D.mark<=D.rev) :
 ∀ (L:List Kv) (_:KSorted L) (c n:Nat) (S:St) (K:List Kv) (E:List Ev) (_:RunOk c n D P S E) (_:c < N) (_:∀ x∈L,inB x.key o.rg.key o.rg.end_=true/\hasL ((D.adds E).at (D.rev+1)) x.key=some x/\(∀ e∈E,e.kv.key≠x.key)/\1<=x.version),
  (∀ j≤ L.length,RunOk c (n+L.length) D P ((L.take j).foldl (goneR (D.rev+1)) (S,K,E)).1 ((L.take j).foldl (goneR (D.rev+1)) (S,K,E)).2.2 ∧
    ((L.take j).foldl (goneR (D.rev+1)) (S,K,E)).2.1=K++L.take j/\((L.take j).foldl (goneR (D.rev+1)) (S,K,E)).2.2=E++(L.take j).map fun x=>goneE x (D.rev+1)) ∧
  ∀ j x,L[j]? = some x->DoOk N ((L.take j).foldl (goneR (D.rev+1)) (S,K,E)).1 (goneE x (D.rev+1))
 | [],_,c,n,S,K,E,h,_,_=>by
   refine ⟨fun j _=>?_,fun j x hx=>by simp at hx⟩;simp only [List.take_nil,List.foldl_nil,List.length_nil,Nat.add_zero,List.append_nil,List.map_nil];exact ⟨h,trivial,trivial⟩
 | x :: L,hL,c,n,S,K,E,h,hN,hx=>by
   obtain ⟨l1,l2⟩:=List.pairwise_cons.1 hL;obtain ⟨x1,x2,x3,x4⟩:=hx x List.mem_cons_self;have hpt:=Doc.adds_parts D E;have hks:KSorted D.kvs:=(by have:=h.cpl.ks;rw [hpt.2.1] at this;exact this);have hmark:(D.adds E).mark < D.rev+1:=(by rw [hpt.1];omega);have hev:=h.event (N:=N) (goneE x (D.rev+1)) hD0 rfl htop hmk (by show x=(hasL ((D.adds E).at (D.rev+1)) x.key).getD kv0;rw [x2];rfl) x3 hN (.inr ⟨rfl,⟨o,ho,hk,x1⟩,by show hasL ((D.adds E).at (D.rev+1)) x.key≠none;rw [x2];simp⟩)
   have hev2:RunOk c (n+1) D P (doS S (goneE x (D.rev+1))) (E++[goneE x (D.rev+1)]):=by
    have:=hev.2;rw [if_neg (by show ¬ (2:Int)=1;decide)] at this;exact this
   have hnext:=RunOk.dels ho hk hD0 htop hmk L l2 c (n+1) (doS S (goneE x (D.rev+1))) (K++told (goneE x (D.rev+1))) (E++[goneE x (D.rev+1)]) hev2 hN fun y hy=>by
    obtain ⟨y1,y2,y3,y4⟩:=hx y (List.mem_cons_of_mem _ hy);have hne:y.key≠x.key:=fun e=>by have:=l1 y hy;rw [e,zbc] at this;cases this
    refine ⟨y1,?_,fun e he=>?_,y4⟩
    · rw [Doc.adds_snoc,Doc.add_at _ (goneE x (D.rev+1)) hmark,if_pos (by show D.rev+1<=D.rev+1;omega),zcj (Doc.at_sorted (by rw [hpt.2.1];exact hks) _),if_neg (fun e:keq y.key (goneE x (D.rev+1)).kv.key=true=>hne (zai.1 e))]
      exact y2
    rcases List.mem_append.1 he with he | he
    · exact y3 e he
    rw [List.mem_singleton.1 he];exact fun e=>hne e.symm
   have ht:=zke x4 (D.rev+1);refine ⟨fun j hj=>?_,fun j y hy=>?_⟩
   · cases j with
     | zero =>
       simp only [List.take_zero,List.foldl_nil,List.append_nil,List.map_nil];exact ⟨h.mono (Nat.le_refl _) (by omega) fun _ h=>h,trivial,trivial⟩
     | succ j =>
       obtain ⟨a,b,c'⟩:=hnext.1 j (by simpa using hj);rw [List.take_succ_cons,List.foldl_cons];refine ⟨?_,?_,?_⟩
       · have:=a
         rw [show n+(x :: L).length=n+1+L.length by simp;omega];exact this
       · show _=K++x :: L.take j
         rw [show goneR (D.rev+1) (S,K,E) x=(doS S (goneE x (D.rev+1)),K++told (goneE x (D.rev+1)),E++[goneE x (D.rev+1)]) from rfl,b,ht];simp
       rw [show goneR (D.rev+1) (S,K,E) x=(doS S (goneE x (D.rev+1)),K++told (goneE x (D.rev+1)),E++[goneE x (D.rev+1)]) from rfl,c']
       simp
   cases j with
   | zero =>
     simp only [List.getElem?_cons_zero,Option.some.injEq] at hy;subst hy;exact hev.1
   | succ j =>
     rw [List.getElem?_cons_succ] at hy;rw [List.take_succ_cons,List.foldl_cons];exact hnext.2 j y hy
def Apart (P:List Opr) (o:Opr):Prop:=(o.kind=1->∀ p∈P,clash o p=false)/\(o.kind=2->∀ p∈P,p.kind=1->clash p o=false)
theorem RunOk.between {c n:Nat} {D:Doc} {P:List Opr} {S:St} {E:List Ev} (h:RunOk c n D P S E) (hmk:D.mark<=D.rev) (frm upr:ByteArray) :
 zat S frm upr (D.rev+1)=((D.adds E).at (D.rev+1)).filter fun y=>inB y.key frm upr:=by
 unfold zat;rw [h.cpl.between h.srt _ _ (by rw [(Doc.adds_parts D E).1];omega)]
 congr 1
 funext y
 exact zqc _ _ _
theorem RunOk.step {c n N:Nat} {D:Doc} {P:List Opr} {r:Run} (h:RunOk c n D P r.S r.E) (o:Opr) (hD0:0<=D.rev) (htop:D.rev+1<=top) (hmk:D.mark<=D.rev) (hN:c < N) (hap:Apart P o) (hn:n+c<=1099511627)
 (ha:r.A.length<=1099511627) (hkey:o.rg.key.size<=1099511627776) :
 StepG N (n+c) (D.rev+1) r o/\RunOk (c+1) (n+c+1) D (P++[o]) (stepR (D.rev+1) r o).S (stepR (D.rev+1) r o).E:=by
 have hpt:=Doc.adds_parts D r.E;have hks:KSorted D.kvs:=by have:=h.cpl.ks;rw [hpt.2.1] at this;exact this
 have hks':KSorted (D.adds r.E).kvs:=by rw [hpt.2.1];exact hks
 have hmark:(D.adds r.E).mark<=D.rev+1:=by rw [hpt.1];omega
 have hel:r.E.length<=n:=by
  have h1:=h.ok.ev;rw [h.cpl.events,hpt.2.2,List.length_append] at h1;omega
 have hsz:=h.size;have hP:RunOk c n D (P++[o]) r.S r.E:=h.mono (Nat.le_refl _) (Nat.le_refl _) fun _ h=>List.mem_append_left _ h;have hoP:o∈P++[o]:=List.mem_append_right _ List.mem_cons_self;have hbt:=h.between hmk o.rg.key o.rg.end_
 have hbl:(zat r.S o.rg.key o.rg.end_ (D.rev+1)).length<=c:=by
  unfold zat zah;exact Nat.le_trans (List.length_filterMap_le _ _) (Nat.le_trans (List.length_filter_le _ _) hsz)
 have hlv:=h.cpl.lives o.rg.key (D.rev+1) hmark;have hvv:=h.doc.ver_has hks' (D.rev+1) o.rg.key
 have hl1:(livesS r.S o.rg.key (D.rev+1)).1=(hasL ((D.adds r.E).at (D.rev+1)) o.rg.key).getD kv0:=by
  rw [hlv];cases hasL ((D.adds r.E).at (D.rev+1)) o.rg.key <;> rfl
 -- the put
 have hput:o.kind=1->DoOk N r.S (zaq r.S o (D.rev+1))/\RunOk (c+1) (n+1) D (P++[o]) (doS r.S (zaq r.S o (D.rev+1))) (r.E++[zaq r.S o (D.rev+1)]):=fun hk=>by
  have:=hP.event (N:=N) (zaq r.S o (D.rev+1)) hD0 rfl htop hmk hl1 (fun e he hke=>?_) hN (.inl ⟨rfl,rfl,o,hoP,hk,rfl⟩)
  · rw [if_pos (show (zaq r.S o (D.rev+1)).kind=1 from rfl)] at this
    exact this
  have hke':e.kv.key=o.rg.key:=hke
  rcases h.by1 e he with ⟨_,p,hp,hp1,hp2⟩ | ⟨_,⟨p,hp,hp1,hp2⟩,_⟩
  · have h1:=hap.1 hk p hp
    unfold clash at h1;rw [hp1,hp2,hke'] at h1;simp at h1
  have h1:=hap.1 hk p hp
  unfold clash at h1;rw [<-hke',hp1,hp2] at h1;simp at h1
 -- the delete
 have hdel:o.kind=2->_:=fun hk=>by
  have hL:KSorted (zat r.S o.rg.key o.rg.end_ (D.rev+1)):=by
   rw [hbt];exact List.Pairwise.sublist List.filter_sublist (Doc.at_sorted hks' _)
  exact RunOk.dels (N:=N) hoP hk hD0 htop hmk (zat r.S o.rg.key o.rg.end_ (D.rev+1)) hL c n r.S [] r.E hP hN fun x hx=>by
   rw [hbt] at hx;obtain ⟨x1,x2⟩:=List.mem_filter.1 hx;have hh:=(zbd (Doc.at_sorted hks' _) x.key x).2 ⟨x1,rfl⟩;refine ⟨x2,hh,fun e he hke=>?_,(h.doc.ver_at hks' x1).1⟩;rcases h.by1 e he with ⟨_,p,hp,hp1,hp2⟩ | ⟨_,_,hp3⟩
   · have h1:=hap.2 hk p hp hp1
     unfold clash at h1;rw [hp2,hke,hk,x2] at h1;simp at h1
   rw [hke,hh] at hp3;cases hp3
 have hn1:(n:Int)<=top:=by unfold top;omega
 refine ⟨⟨h.ok.mono (by omega),by omega,by omega,ha,hkey,fun hk=>?_,by omega,fun hk j x hx=>?_⟩,?_⟩
 · rw [hl1]
   exact ⟨hvv.1,by omega,(hput hk).1⟩
 · have hjl:=(List.getElem?_eq_some_iff.1 hx).1
   obtain ⟨a,b,c'⟩:=(hdel hk).1 j (by omega);have hd:=(hdel hk).2 j x hx;refine ⟨a.ok.mono (by omega),hd,?_,?_⟩
   · show ((delR (D.rev+1) r (zat r.S o.rg.key o.rg.end_ (D.rev+1)) j).2.1).length<=_
     unfold delR;rw [b];simp;omega
   show ((delR (D.rev+1) r (zat r.S o.rg.key o.rg.end_ (D.rev+1)) j).2.2).length<=_
   unfold delR;rw [c'];simp;omega
 unfold stepR
 by_cases h1:o.kind=1
 · rw [if_pos h1]
   exact (hput h1).2.mono (Nat.le_refl _) (by omega) fun _ h=>h
 rw [if_neg h1]
 by_cases h2:o.kind=2
 · rw [if_pos h2]
   obtain ⟨a,_,_⟩:=(hdel h2).1 _ (Nat.le_refl _);rw [List.take_length] at a;exact a.mono (by omega) (by omega) fun _ h=>h
 rw [if_neg h2]
 by_cases h3:o.kind=3
 · rw [if_pos h3]
   exact hP.mono (by omega) (by omega) fun _ h=>h
 rw [if_neg h3]
 exact hP.mono (by omega) (by omega) fun _ h=>h
end Go.Proofs.Ythljnnjpmdgkoaa
