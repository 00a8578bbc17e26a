/- Own lemmas and contracts that the claim's proof needs, laid together. The conditions stand in each. -/
import Derived.Test.YthljnnjpmdgkoaaN27
import Derived.Test.YthljnnjpmdgkoaaN26
import Derived.Test.YthljnnjpmdgkoaaN25
import Derived.Test.YthljnnjpmdgkoaaN15
import Derived.Test.YthljnnjpmdgkoaaN22
import Derived.Test.YthljnnjpmdgkoaaN14
import Derived.Test.YthljnnjpmdgkoaaN23
import Derived.Test.YthljnnjpmdgkoaaN07
import Derived.Deep.DeepCutAuto
namespace Go.Proofs.Ythljnnjpmdgkoaa
open Go Go.Proofs Go.RowKit
structure Good (k:Nat) (S:St) (D:Doc):Prop where
 cpl:Cpl S D
 doc:DocOk (20000 * k) D
 ok:StOk (20000 * k) S
 size:S.T.length<=16 * k
 srt:Sorted S.T
 more:SMore (20000 * k) S
 rev:S.rev=D.rev
 rev1:D.rev<=k
theorem Good.mono {k m:Nat} {S:St} {D:Doc} (h:Good k S D) (hm:k<=m):Good m S D :=
 { h with doc:=h.doc.mono (by omega),ok:=h.ok.mono (by omega),size:=by have:=h.size;omega,more:=h.more.mono (by omega),rev1:=by have:=h.rev1;omega }
def newS:St:=⟨[],fun _=>none,0,0,0,[]⟩
def newD:Doc:=⟨0,0,[],[]⟩
theorem Good.new:Good 0 newS newD where
 cpl:={
  mark:=rfl
  events:=rfl
  inv:=⟨fun k _ h=>by simp [newS,getT] at h,fun k h=>by simp [newS,getT] at h,fun i H h=>by simp [newS] at h⟩
  ks:=List.Pairwise.nil
  m0:=⟨Int.le_refl 0,Int.le_refl 0⟩
  lives:=fun k r _=>rfl }
 doc:={
  es:=List.Pairwise.nil
  lo:=fun e he=>by simp [newD] at he
  full:=fun r a _ c=>by have c':r<=0:=c;omega
  uniq:=List.Pairwise.nil
  prev:=fun A e B h=>by simp [newD] at h
  kind:=fun e he=>by simp [newD] at he
  ver0:=fun e he=>by simp [newD] at he
  ver:=fun e he=>by simp [newD] at he }
 ok:={
  pos:=Int.le_refl 0
  next:=Int.le_refl 0
  id:=fun p hp=>by simp [newS] at hp
  ids:=fun i H h=>by simp [newS] at h
  hist:=fun i H h=>by simp [newS] at h
  rev0:=by show -top<=0;unfold top;omega
  rev1:=by show 0<=top;unfold top;omega
  mark0:=Int.le_refl 0
  ev:=Nat.le_refl 0 }
 size:=Nat.le_refl 0
 srt:=List.Pairwise.nil
 more:=fun i H h=>by simp [newS] at h
 rev:=rfl
 rev1:=Int.le_refl 0
theorem zcp {ops:List Opr} (h:checkE ops=0):ops.length<=16/\(∀ o∈ops,oneE o=0)/\∀ i o,ops[i]? = some o->Apart (ops.take i) o:=by
 unfold checkE at h
 split at h
 · cases h
 rename_i hl
 split at h
 · rename_i o ho
   have:=List.find?_some ho;rw [h] at this;simp at this
 rename_i hn
 split at h
 · cases h
 rename_i ht
 refine ⟨by omega,fun o ho=>by simpa using List.find?_eq_none.1 hn o ho,fun i o hi=>?_⟩
 have htw:∀ j p,ops[j]? = some p->p.kind=1->(∀ q∈ops.take j,clash p q=false)/\∀ q∈ops.drop (j+1),clash p q=false:=fun j p hj hp=>by
  have hjl:=(List.getElem?_eq_some_iff.1 hj).1;unfold twice at ht;rw [Bool.not_eq_true,List.any_eq_false] at ht;have h1:=ht j (List.mem_range.2 hjl);unfold zdq at h1;rw [hj] at h1;simp only [hp,beq_self_eq_true,Bool.true_and,Bool.or_eq_true,not_or,Bool.not_eq_true,List.any_eq_false] at h1;exact ⟨fun q hq=>by simpa using h1.1 q hq,fun q hq=>by simpa using h1.2 q hq⟩
 refine ⟨fun ho p hp=>(htw i o hi ho).1 p hp,fun ho p hp hp1=>?_⟩;obtain ⟨j,hj⟩:=List.mem_iff_getElem?.1 hp
 have hji:j < i:=by
  have:=(List.getElem?_eq_some_iff.1 hj).1;simp at this;omega
 rw [List.getElem?_take,if_pos hji] at hj;refine (htw j p hj hp1).2 o (List.mem_iff_getElem?.2 ⟨i - (j+1),?_⟩);rw [List.getElem?_drop,show j+1+(i - (j+1))=i by omega];exact hi
theorem StepG.mono {N n m:Nat} {rev:Int} {r:Run} {o:Opr} (h:StepG N n rev r o) (hm:n<=m):StepG N m rev r o :=
 { h with st:=h.st.mono hm,del:=fun hk j x hx=>⟨(h.del hk j x hx).1.mono hm,(h.del hk j x hx).2⟩ }
theorem zhd (rev:Int) (r:Run) (ops:List Opr) {i:Nat} {o:Opr} (h:ops[i]? = some o):runR rev r (ops.take (i+1))=stepR rev (runR rev r (ops.take i)) o:=by
 unfold runR;rw [List.take_add_one,h,List.foldl_append]
 rfl
theorem ztb (rev:Int) (r:Run) (o:Opr):(stepR rev r o).A.length=r.A.length+1:=by
 unfold stepR
 split
 · simp
 split
 · simp
 split <;> simp
theorem Good.begin {k:Nat} {S:St} {D:Doc} (h:Good k S D):RunOk (16 * k) (20000 * k) D [] S [] where
 cpl:=h.cpl
 doc:=h.doc
 ok:=h.ok
 size:=h.size
 srt:=h.srt
 more:=h.more
 srev:=h.rev
 mods:=fun e he=>by simp at he
 old:=fun e he=>(h.doc.lo e he).2.2
 last:=fun k _ H hH=>.inl (h.cpl.inv.hist _ _ hH).1.2
 by1:=fun e he=>by simp at he
theorem Good.runs {k:Nat} {S:St} {D:Doc} (h:Good k S D) (hk:k<=70) {ops:List Opr} (hc:checkE ops=0) (hks:∀ o∈ops,o.rg.key.size<=1099511627776) :
 ∀ i≤ ops.length,(RunOk (16 * k+i) (20000 * k+i * (16 * k+17)) D (ops.take i) (runR (D.rev+1) ⟨S,[],[]⟩ (ops.take i)).S (runR (D.rev+1) ⟨S,[],[]⟩ (ops.take i)).E/\(runR (D.rev+1) ⟨S,[],[]⟩ (ops.take i)).A.length=i) ∧
  ∀ o,ops[i]? = some o->StepG 1000000 (20000 * k+20000) (D.rev+1) (runR (D.rev+1) ⟨S,[],[]⟩ (ops.take i)) o:=by
 obtain ⟨hl,_,hap⟩:=zcp hc;have hm0:=h.cpl.m0;have hr1:=h.rev1;have htop:D.rev+1<=top:=by unfold top;omega
 have key:∀ i≤ ops.length,RunOk (16 * k+i) (20000 * k+i * (16 * k+17)) D (ops.take i) (runR (D.rev+1) ⟨S,[],[]⟩ (ops.take i)).S (runR (D.rev+1) ⟨S,[],[]⟩ (ops.take i)).E/\(runR (D.rev+1) ⟨S,[],[]⟩ (ops.take i)).A.length=i:=by
  intro i
  induction i with
  | zero=>intro _;exact ⟨h.begin.mono (by omega) (by omega) fun _ h=>h,rfl⟩
  | succ i ih =>
    intro hi;obtain ⟨a,b⟩:=ih (by omega);obtain ⟨o,ho⟩:∃ o,ops[i]? = some o:=⟨_,List.getElem?_eq_getElem (by omega)⟩;have hi16:i<=15:=(by omega);have hmul:i * (16 * k+17)<=15 * (16 * k+17):=Nat.mul_le_mul_right _ hi16;have hs:=a.step (N:=1000000) o (by omega) htop hm0.2 (by omega) (hap i o ho) (by omega) (by omega) (hks o (List.mem_of_getElem? ho));rw [zhd _ _ _ ho];refine ⟨?_,by rw [ztb,b]⟩;have h2:=hs.2;have e1:(i+1) * (16 * k+17)=i * (16 * k+17)+(16 * k+17):=(by rw [Nat.succ_mul]);rw [List.take_add_one,ho];exact h2.mono (by omega) (by omega) fun _ h=>h
 intro i hi;refine ⟨key i hi,fun o ho=>?_⟩;obtain ⟨a,b⟩:=key i hi;have hil:=(List.getElem?_eq_some_iff.1 ho).1;have hmul:i * (16 * k+17)<=15 * (16 * k+17):=Nat.mul_le_mul_right _ (by omega);exact (a.step (N:=1000000) o (by omega) htop hm0.2 (by omega) (hap i o ho) (by omega) (by omega) (hks o (List.mem_of_getElem? ho))).1.mono (by omega)
theorem Cpl.setRev {S:St} {D:Doc} (h:Cpl S D) (r:Int):Cpl { S with rev:=r } D :=
 ⟨h.mark,h.events,⟨h.inv.inj,h.inv.has,h.inv.hist⟩,h.ks,h.m0,h.lives⟩
theorem zmj (rev:Int) (L:List Kv):∀ q:St × List Kv × List Ev,(L.foldl (goneR rev) q).2.2=q.2.2++L.map fun x=>goneE x rev:=by
 induction L with
 | nil=>intro q;simp
 | cons x L ih =>
   intro q;rw [List.foldl_cons,ih];simp [goneR]
def applyD (S:St) (D:Doc) (ops:List Opr):Doc:=D.adds (runR (D.rev+1) ⟨S,[],[]⟩ ops).E
theorem Good.apply {k:Nat} {S:St} {D:Doc} (h:Good k S D) (hk:k<=70) {ops:List Opr} (hc:checkE ops=0) (hks:∀ o∈ops,o.rg.key.size<=1099511627776):Good (k+1) (applyS S ops) (applyD S D ops):=by
 have hl:=(zcp hc).1;obtain ⟨⟨a,b⟩,_⟩:=h.runs hk hc hks ops.length (Nat.le_refl _);rw [List.take_length] at a;have hmul:ops.length * (16 * k+17)<=16 * (16 * k+17):=Nat.mul_le_mul_right _ hl;have hD:=Doc.adds_rev D (runR (D.rev+1) ⟨S,[],[]⟩ ops).E _ a.mods;have hr:=h.rev;have hr1:=h.rev1;unfold applyS applyD;rw [hr];dsimp only;by_cases hE:(runR (D.rev+1) ⟨S,[],[]⟩ ops).E = []
 · rw [if_pos hE]
   rw [if_pos hE] at hD;exact { cpl:=a.cpl,doc:=a.doc.mono (by omega),ok:=a.ok.mono (by omega),size:=by have:=a.size;omega,srt:=a.srt,more:=a.more.mono (by omega),rev:=by rw [a.srev,hD],rev1:=by rw [hD];omega }
 rw [if_neg hE]
 rw [if_neg hE] at hD;have hm0:=h.cpl.m0;exact { cpl:=a.cpl.setRev _,doc:=a.doc.mono (by omega),ok:=(a.ok.mono (by omega)).setRev _ (by unfold top;omega) (by unfold top;omega),size:=by have:=a.size;dsimp only;omega,srt:=a.srt,more:=fun i H hi=>a.more.mono (by omega) i H hi,rev:=hD.symm,rev1:=by rw [hD];omega }
theorem Doc.adds_at_old (D:Doc) (E:List Ev) {r:Int} (hE:∀ e∈E,r < e.kv.mod):(D.adds E).at r=D.at r:=by
 obtain ⟨a,b,c⟩:=Doc.adds_parts D E
 unfold Doc.at;rw [a,b,c,List.filter_append];have:(E.filter fun e=>decide (D.mark < e.kv.mod) && decide (e.kv.mod<=r)) = []:=List.filter_eq_nil_iff.2 fun e he=>by have:=hE e he;simp;omega
 rw [this,List.append_nil]
def keepP (R:Int) (S:St) (p:ByteArray × Int):Bool:=match S.past p.2 with
 | some H=>!(compK R H.gens).isEmpty
 | none=>true
def compP (R:Int) (o:Option Hist):Option Hist:=match o with
 | some H=>if (compK R H.gens).isEmpty then none else some (compH R H)
 | none=>none
def compTo (R:Int) (S:St) (i:Nat):St where
 T:=(S.T.take i).filter (keepP R S)++S.T.drop i
 past:=fun j=>if j∈(S.T.take i).map (·.2) then compP R (S.past j) else S.past j
 next:=S.next
 rev:=S.rev
 mark:=R
 events:=S.events.filter (keptB R)
def compS (R:Int) (S:St):St:=compTo R S S.T.length
section
variable {TA:zan} {N:Nat} (hT:TreeOk TA N) {w w':World} {s t p:Nat} {ev:Value} {hp:Int->Option Nat} {FT:Nat->Prop} {FH:Int->Nat->Prop} {S:St}
include hT
end
set_option maxRecDepth 100000
def fewOp (o:Opr):Bool:=decide (o.rg.key.size<=3000) && decide (o.rg.end_.size<=3000) && decide (o.value.size<=3000)
def fewOps (l:List Opr):Bool:=decide (l.length<=30) && l.all fewOp
structure Cal where
 kind:Int
 ops:Value
 rg:Rg
 rev:Int
 upto:Int
 keys:Value
def fewKey (s:ByteArray):Bool:=decide (s.size<=3000)
def fewCal (q:Cal × List Opr × List ByteArray):Bool:=fewOps q.2.1 && decide (q.2.2.length<=30) && fewKey q.1.rg.key && fewKey q.1.rg.end_ && q.2.2.all fewKey
def zbo (Z:List (Cal × List Opr × List ByteArray)):Bool:=decide (Z.length<=30) && Z.all fewCal
def dropE (k:ByteArray) (rev:Int) (x:Kv):Ev:=⟨2,⟨k,ByteArray.empty,0,rev,0,0⟩,x⟩
def dropR (rev:Int) (q:St × List Ev) (k:ByteArray):St × List Ev :=
 if (livesS q.1 k rev).2 then (doS q.1 (dropE k rev (livesS q.1 k rev).1),q.2++[dropE k rev (livesS q.1 k rev).1]) else q
def dropTo (rev:Int) (S:St) (keys:List ByteArray) (i:Nat):St × List Ev:=(keys.take i).foldl (dropR rev) (S,[])
def dropS (S:St) (keys:List ByteArray):St :=
 if (keys.foldl (dropR (S.rev+1)) (S,[])).2 = [] then (keys.foldl (dropR (S.rev+1)) (S,[])).1 else { (keys.foldl (dropR (S.rev+1)) (S,[])).1 with rev:=S.rev+1 }
theorem zeu (rev:Int) (S:St) (keys:List ByteArray) {i:Nat} {k:ByteArray} (h:keys[i]? = some k):dropTo rev S keys (i+1)=dropR rev (dropTo rev S keys i) k:=by
 unfold dropTo;rw [List.take_add_one,h,List.foldl_append]
 rfl
theorem ztt (R:Int) (S:St):(compS R S).T=S.T.filter (keepP R S):=by
 unfold compS compTo;simp
theorem ziz (R:Int) (S:St) (j:Int):(compS R S).past j=if j∈S.T.map (·.2) then compP R (S.past j) else S.past j:=by
 unfold compS compTo;dsimp only;rw [List.take_length]
theorem zei {R:Int} {S:St} {j:Int} {G:Hist} (h:(compS R S).past j=some G):∃ H,S.past j=some H/\(G=H\/G=compH R H):=by
 rw [ziz] at h
 split at h
 · unfold compP at h
   cases hH:S.past j with
   | none=>rw [hH] at h;cases h
   | some H =>
     rw [hH] at h;dsimp only at h
     split at h
     · cases h
     exact ⟨H,rfl,.inr (Option.some.inj h).symm⟩
 exact ⟨G,h,.inl rfl⟩
theorem Good.cut {k:Nat} {S:St} {D:Doc} (h:Good k S D) (hk:k<=50000) {R:Int} (h1:D.mark < R) (h2:R<=D.rev):Good k (compS R S) (D.cut R):=by
 have hT':=ztt R S;have hP':=ziz R S;have hsrt:Sorted (compS R S).T:=by rw [hT'];exact List.Pairwise.sublist List.filter_sublist h.srt
 have hm0:=h.cpl.m0
 -- a key that is left has the number that it had
 have hin:∀ key,(getT (compS R S).T key).2=true->getT (compS R S).T key=getT S.T key/\(getT S.T key).2=true/\keepP R S (key,(getT S.T key).1)=true:=fun key hg=>by
  have hm:=zeh hg;rw [hT'] at hm;obtain ⟨a,b⟩:=List.mem_filter.1 hm;have e1:=zdi h.srt a
  have e2:getT (compS R S).T key=getT S.T key:=by
   rw [e1];rw [hT'];exact Prod.ext rfl (by rw [<-hT'];exact hg)
  dsimp only at e1;refine ⟨e2,by rw [<-e2];exact hg,?_⟩;rw [<-e2,hT'];exact b
 have hmem:∀ key,(getT S.T key).2=true->(getT S.T key).1∈S.T.map (·.2):=fun key hg=>List.mem_map.2 ⟨_,zeh hg,rfl⟩
 have hinv:SInv D.rev (compS R S):=by
  refine ⟨fun key key' a b e=>?_,fun key a=>?_,fun i G hG=>?_⟩
  · obtain ⟨a1,a2,_⟩:=hin key a
    obtain ⟨b1,b2,_⟩:=hin key' b;rw [a1,b1] at e;exact h.cpl.inv.inj key key' a2 b2 e
  · obtain ⟨a1,a2,a3⟩:=hin key a
    obtain ⟨H,hH⟩:=h.cpl.inv.has key a2;unfold keepP at a3;dsimp only at a3;rw [hH] at a3;dsimp only at a3;refine ⟨compH R H,?_⟩;rw [a1,hP',if_pos (hmem key a2),hH];unfold compP;dsimp only;rw [if_neg (by simpa using a3)]
  obtain ⟨H,hH,e | e⟩:=zei hG
  · rw [e];exact h.cpl.inv.hist i H hH
  rw [e]
  have:=h.cpl.inv.hist i H hH;exact ⟨⟨this.1.1.comp R,this.1.2⟩,this.2⟩
 have hlives:∀ key r,R<=r->livesS (compS R S) key r=livesS S key r:=fun key r hr=>by
  cases hg:(getT S.T key).2 with
  | false =>
    have hg':(getT (compS R S).T key).2=false:=by
     rw [Bool.eq_false_iff];intro hg';rw [(hin key hg').2.1] at hg;cases hg
    unfold livesS;rw [hg,hg'];simp
  | true =>
    obtain ⟨H,hH⟩:=h.cpl.inv.has key hg;have hI:=(h.cpl.inv.hist _ _ hH).1.1;have hO:=(h.more _ _ hH).ord;by_cases hc:compK R H.gens = []
    · have hg':(getT (compS R S).T key).2=false:=by
       rw [Bool.eq_false_iff];intro hg';have h3:=(hin key hg').2.2;unfold keepP at h3;dsimp only at h3;rw [hH] at h3;dsimp only at h3;rw [hc] at h3;simp at h3
      unfold livesS;rw [hg,hg',if_pos rfl,hH,if_neg (by simp)];dsimp only;rw [zqz hO hr hI.zero hc]
    have hm:(key,(getT S.T key).1)∈(compS R S).T:=by
     rw [hT'];refine List.mem_filter.2 ⟨zeh hg,?_⟩;unfold keepP;dsimp only;rw [hH];simpa using hc
    have e1:=zdi hsrt hm;dsimp only at e1;unfold livesS;rw [e1,hg,if_pos rfl,if_pos rfl,hH];dsimp only;rw [hP',if_pos (hmem key hg),hH];unfold compP;dsimp only;rw [if_neg (by simpa using hc)];exact zra hI hO hr
 exact {
  cpl:={
   mark:=rfl
   events:=by
    show S.events.filter (keptB R)=D.events.filter _
    rw [h.cpl.events];refine List.filter_congr fun e he=>?_;have:=(h.doc.lo e he).2.2;unfold keptB oldB;by_cases hm:e.kv.mod < R
    · have:¬ R<=e.kv.mod:=by omega
      simp [hm,this]
    have h3:R<=e.kv.mod:=by omega
    simp [hm,h3,this]
   inv:=hinv
   ks:=Doc.at_sorted h.cpl.ks R
   m0:=⟨by show 0<=R;omega,h2⟩
   lives:=fun key r hr=>by
    have hr':R<=r:=hr;rw [hlives key r hr',Doc.cut_at h.doc.es (by omega) hr' fun e he=>(h.doc.lo e he).2.2];exact h.cpl.lives key r (by omega) }
  doc:=h.doc.cut h.cpl.ks R h1 h2
  ok:={
   pos:=h.ok.pos
   next:=h.ok.next
   id:=fun p hp=>by
    have hg:=zdi hsrt hp;obtain ⟨G,hG⟩:=hinv.has p.1 (by rw [hg]);rw [hg] at hG;exact ⟨G,hG⟩
   ids:=fun i G hG=>by
    obtain ⟨H,hH,_⟩:=zei hG;exact h.ok.ids i H hH
   hist:=fun i G hG=>by
    obtain ⟨H,hH,e | e⟩:=zei hG
    · rw [e];exact h.ok.hist i H hH
    rw [e]
    have:=h.ok.hist i H hH;exact ⟨this.1.comp (h.more i H hH) (by omega) R,this.2⟩
   rev0:=h.ok.rev0
   rev1:=h.ok.rev1
   mark0:=by show 0<=R;omega
   ev:=Nat.le_trans (List.length_filter_le _ _) h.ok.ev }
  size:=by rw [hT'];exact Nat.le_trans (List.length_filter_le _ _) h.size
  srt:=hsrt
  more:=fun i G hG=>by
   obtain ⟨H,hH,e | e⟩:=zei hG
   · rw [e];exact h.more i H hH
   rw [e];exact (h.more i H hH).comp R
  rev:=h.rev
  rev1:=h.rev1 }
def dropP (keys:List ByteArray):List Opr:=keys.map fun k=>⟨2,⟨k,ByteArray.empty,0,0,false,false,false⟩,ByteArray.empty,0⟩
theorem zsl (k:ByteArray):inB k k ByteArray.empty=true:=by
 unfold inB;rw [if_pos (by rw [Lib.toList_data];rfl)];exact beq_self_eq_true _
theorem Good.drops {k:Nat} {S:St} {D:Doc} (h:Good k S D) (hk:k<=70) (keys:List ByteArray) (_hl:keys.length<=30) :
 ∀ i≤ keys.length,RunOk (16 * k) (20000 * k+i) D (dropP keys) (dropTo (D.rev+1) S keys i).1 (dropTo (D.rev+1) S keys i).2 ∧
  ∀ key,keys[i]? = some key->(livesS (dropTo (D.rev+1) S keys i).1 key (D.rev+1)).2=true->DoOk 1000000 (dropTo (D.rev+1) S keys i).1 (dropE key (D.rev+1) (livesS (dropTo (D.rev+1) S keys i).1 key (D.rev+1)).1):=by
 have hm0:=h.cpl.m0;have hr1:=h.rev1;have htop:D.rev+1<=top:=by unfold top;omega
 -- a key that lives is dropped
 have step:∀ i key (q:St × List Ev),keys[i]? = some key->RunOk (16 * k) (20000 * k+i) D (dropP keys) q.1 q.2->(livesS q.1 key (D.rev+1)).2=true →
  DoOk 1000000 q.1 (dropE key (D.rev+1) (livesS q.1 key (D.rev+1)).1)/\RunOk (16 * k) (20000 * k+i+1) D (dropP keys) (doS q.1 (dropE key (D.rev+1) (livesS q.1 key (D.rev+1)).1)) (q.2++[dropE key (D.rev+1) (livesS q.1 key (D.rev+1)).1]):=fun i key q hx hq hlv=>by
  have hpt:=Doc.adds_parts D q.2;have hlives:=hq.cpl.lives key (D.rev+1) (by rw [hpt.1];omega)
  have hne:hasL ((D.adds q.2).at (D.rev+1)) key≠none:=fun e=>by
   rw [hlives,e] at hlv;cases hlv
  have hp:(livesS q.1 key (D.rev+1)).1=(hasL ((D.adds q.2).at (D.rev+1)) key).getD kv0:=by
   rw [hlives];cases hasL ((D.adds q.2).at (D.rev+1)) key <;> rfl
  have:=hq.event (N:=1000000) (dropE key (D.rev+1) (livesS q.1 key (D.rev+1)).1) (by omega) rfl htop hm0.2 hp (fun e he hke=>by
   have hke':e.kv.key=key:=hke;rcases hq.by1 e he with ⟨_,o,ho,ho1,_⟩ | ⟨_,_,hn⟩
   · obtain ⟨k',_,rfl⟩:=List.mem_map.1 ho
     cases ho1
   · rw [hke'] at hn;exact hne hn) (by omega)
   (.inr ⟨rfl,⟨⟨2,⟨key,ByteArray.empty,0,0,false,false,false⟩,ByteArray.empty,0⟩,List.mem_map.2 ⟨key,List.mem_of_getElem? hx,rfl⟩,rfl,zsl key⟩,hne⟩)
  rw [if_neg (show ¬ (dropE key (D.rev+1) (livesS q.1 key (D.rev+1)).1).kind=1 by show ¬ (2:Int)=1;decide)] at this;exact this
 have key:∀ i≤ keys.length,RunOk (16 * k) (20000 * k+i) D (dropP keys) (dropTo (D.rev+1) S keys i).1 (dropTo (D.rev+1) S keys i).2:=by
  intro i
  induction i with
  | zero=>intro _;exact h.begin.mono (Nat.le_refl _) (by omega) (by simp)
  | succ i ih =>
    intro hi;obtain ⟨x,hx⟩:∃ x,keys[i]? = some x:=⟨_,List.getElem?_eq_getElem (by omega)⟩;rw [zeu _ _ _ hx];have a:=ih (by omega);unfold dropR
    split
    · rename_i hlv
      exact (step i x _ hx a hlv).2
    exact a.mono (Nat.le_refl _) (by omega) fun _ h=>h
 exact fun i hi=>⟨key i hi,fun x hx hlv=>(step i x _ hx (key i hi) hlv).1⟩
def dropD (S:St) (D:Doc) (keys:List ByteArray):Doc:=D.adds (keys.foldl (dropR (D.rev+1)) (S,[])).2
theorem Good.drop {k:Nat} {S:St} {D:Doc} (h:Good k S D) (hk:k<=70) (keys:List ByteArray) (hl:keys.length<=30):Good (k+1) (dropS S keys) (dropD S D keys):=by
 obtain ⟨a,_⟩:=h.drops hk keys hl keys.length (Nat.le_refl _);have he:dropTo (D.rev+1) S keys keys.length=keys.foldl (dropR (D.rev+1)) (S,[]):=by unfold dropTo;rw [List.take_length]
 rw [he] at a;have hD:=Doc.adds_rev D (keys.foldl (dropR (D.rev+1)) (S,[])).2 _ a.mods;have hr:=h.rev;have hr1:=h.rev1;unfold dropS dropD;rw [hr];by_cases hE:(keys.foldl (dropR (D.rev+1)) (S,[])).2 = []
 · rw [if_pos hE]
   rw [if_pos hE] at hD;exact { cpl:=a.cpl,doc:=a.doc.mono (by omega),ok:=a.ok.mono (by omega),size:=by have:=a.size;omega,srt:=a.srt,more:=a.more.mono (by omega),rev:=by rw [a.srev,hD],rev1:=by rw [hD];omega }
 rw [if_neg hE]
 rw [if_neg hE] at hD;have hm0:=h.cpl.m0;exact { cpl:=a.cpl.setRev _,doc:=a.doc.mono (by omega),ok:=(a.ok.mono (by omega)).setRev _ (by unfold top;omega) (by unfold top;omega),size:=by have:=a.size;dsimp only;omega,srt:=a.srt,more:=fun i H hi=>a.more.mono (by omega) i H hi,rev:=hD.symm,rev1:=by rw [hD];omega }
theorem zhr (a:ByteArray):klt a ⟨#[]⟩=false:=by
 rw [Bool.eq_false_iff];intro h;have:=zct.1 h;exact absurd this (by simp)
theorem zfn (T:Pairs):rangeT T ⟨#[]⟩ ⟨#[]⟩=T:=by
 unfold rangeT;rw [List.filter_eq_self];intro q _;rw [zhr,show (⟨#[]⟩:ByteArray).toList.isEmpty=true from by rw [Lib.toList_data];rfl]
 rfl
def badB (S:St) (o:Opr):Bool:=o.kind == 3 && whenE S o.rg.rev != 0
theorem zod {S:St} {ops:List Opr} {i:Nat} {p:Opr} (hj:∀ j,j < i->∀ q,ops[j]? = some q->badB S q=false) (hp:ops[i]? = some p) (h3:badB S p=true):whenAll S ops=whenE S p.rg.rev:=by
 have hf:ops.find? (badB S)=some p:=by
  have hi:=(List.getElem?_eq_some_iff.1 hp).1
  have he:ops=ops.take i++p :: ops.drop (i+1):=by
   have:=List.take_append_drop i ops;rw [List.drop_eq_getElem_cons hi,(List.getElem?_eq_some_iff.1 hp).2] at this;exact this.symm
  rw [he,List.find?_append]
  have hn:(ops.take i).find? (badB S)=none:=List.find?_eq_none.2 fun q hq=>by
   obtain ⟨j,hq⟩:=List.mem_iff_getElem?.1 hq;have hjl:=(List.getElem?_eq_some_iff.1 hq).1;rw [List.length_take] at hjl;rw [List.getElem?_take_of_lt (by omega)] at hq;rw [hj j (by omega) q hq];simp
  rw [hn];simp [h3]
 unfold whenAll;have:(fun o:Opr=>o.kind == 3 && whenE S o.rg.rev != 0)=badB S:=rfl;rw [this,hf]
theorem zjv {S:St} {ops:List Opr} (hj:∀ j,j < ops.length->∀ q,ops[j]? = some q->badB S q=false):whenAll S ops=0:=by
 have hn:ops.find? (badB S)=none:=List.find?_eq_none.2 fun q hq=>by
  obtain ⟨j,hq⟩:=List.mem_iff_getElem?.1 hq;rw [hj j (List.getElem?_eq_some_iff.1 hq).1 q hq];simp
 unfold whenAll;have:(fun o:Opr=>o.kind == 3 && whenE S o.rg.rev != 0)=badB S:=rfl;rw [this,hn]
set_option maxHeartbeats 4000000 in
theorem zrl {TA:zan} {N:Nat} (hT:TreeOk TA N) (w:World) (s:Nat) (S:St) (F:Nat->Prop) (hS:zaj TA w s S F) (v:Value) (ops:List Opr) (hv:SlR w 10 opC v ops)
 (hl:ops.length<=1099511627) (hks:∀ o∈ops,o.rg.key.size<=1099511627776) (he:applyE S ops≠0) :
 Calls Try.prog 41 #[.pointer (some ⟨s,0,none⟩),v] w fun e w'=>e = .returned (.tuple #[.slice none 0 0,.slice none 0 0,.int .i64 (applyE S ops)])/\Fr No w w':=by
 have hch:=fun W hv=>zii W v ops hv hl hks;obtain ⟨va,vcap,rfl,hc1,hc2,hva⟩:=hv.shape;have HV:=H_ hv;have HVA:=H_ hva;have HS:=H_ hS;by_cases hc:checkE ops=0
 · have hap:applyE S ops=whenAll S ops:=by unfold applyE;rw [if_neg (by simpa using hc)]
   rw [hc] at hch;rw [hap] at he ⊢
   have HCH:=H_ hch;have HE:=H_ he;clear hv hva hS hch hc hap he hks;go_enter Try.func41,Try.ntmps41
   go_wp2_with (first
    | (go_at_call 20;refine (HCH.out _ (HV.out.alloc _)).mono ?_;rintro e w1 ⟨rfl,hf1⟩
       have hfA:Fr No w w1:=((Fr.refl No w).alloc _).trans0 hf1;have hbA:w1.heap[w.heap.size]? = some (.cells #[.pointer (some ⟨s,0,none⟩)] 44 (0,0)):=hf1.heap (zac _ _ _ rfl) id;have bA:w1.cell? ⟨w.heap.size,0,none⟩=some (.pointer (some ⟨s,0,none⟩)):=cellAt hbA 0 rfl))
   go_loopg [29] ops.length (fun g s29 wr=>∃ i:Nat,s29 = .int .i64 i/\i+g=ops.length/\Hid (Fr No w1 wr)/\Hid (∀ j,j < i->∀ q,ops[j]? = some q->badB S q=false))
   case atStart=>exact ⟨0,rfl,by simp,H_ (Fr.refl No w1),H_ (by simp)⟩
   case round =>
    obtain ⟨i,rfl,hi,HF,HJ⟩:=hrel;have hfr:Fr No w wr:=hfA.trans0 HF.out;have bR:=HF.out.cell0 bA;have lbR:=World.block_lt_of_cell? _ _ bR
    cases gk with
    | zero=>exact absurd (zjv fun j hj=>HJ.out j (by omega)) HE.out
    | succ g =>
      obtain ⟨gb,go,rfl⟩:=HVA.out (by omega);obtain ⟨p,hx⟩:∃ p,ops[i]? = some p:=⟨_,List.getElem?_eq_getElem (by omega)⟩;have hvr:=HV.out.fr0 hfr;have x0:=hvr.cell0 zad i hx rfl;have x1:=hvr.cell zad i 1 hx rfl;have x2:=hvr.cell zad i 2 hx rfl;have x3:=hvr.cell zad i 3 hx rfl;have x4:=hvr.cell zad i 4 hx rfl;have x5:=hvr.cell zad i 5 hx rfl;have x6:=hvr.cell zad i 6 hx rfl;have x7:=hvr.cell zad i 7 hx rfl;have x8:=hvr.cell zad i 8 hx rfl;have x9:=hvr.cell zad i 9 hx rfl;have hil:(i:Int) < (ops.length:Int):=(by omega)
      have hnx:∀ b,badB S p=b->(b=false->∀ j,j < i+1->∀ q,ops[j]? = some q->badB S q=false)/\(b=true->whenAll S ops=whenE S p.rg.rev):=fun b hb =>
       ⟨fun h j hj q hq=>by
         by_cases hji:j=i
         · subst hji;rw [hx] at hq;cases hq;rw [hb,h]
         exact HJ.out j (by omega) q hq,fun h=>zod HJ.out hx (by rw [hb,h])⟩
      have HNX:=H_ hnx;clear hx hvr hnx;obtain ⟨p1,⟨g1,g2,g3,g4,g5,g6,g7⟩,p2,p3⟩:=p;by_cases hk:p1=3
      · subst hk
        generalize hu:whenE S g3=u at *;have HU:=H_ hu;clear hu;by_cases hu0:u=0
        · subst hu0
          have HB:Hid (badB S ⟨3,⟨g1,g2,g3,g4,g5,g6,g7⟩,p2,p3⟩=false):=H_ (by unfold badB;dsimp only;rw [HU.out];rfl);go_wp2_with (go_at_call 65;refine (zfl _ s S F ((HS.out.fr0 hT hfr).fr0 hT ((Fr.refl No wr).alloc _)) g3).mono ?_;rintro e w' ⟨rfl,rfl⟩;rw [HU.out]);go_roundg g
          case rel=>exact ⟨i+1,by go_num,by omega,H_ (HF.out.alloc _),H_ ((HNX.out _ HB.out).1 rfl)⟩
          case measure=>omega
        have hu1:(u == 0)=false:=by simpa using hu0
        have HB:Hid (badB S ⟨3,⟨g1,g2,g3,g4,g5,g6,g7⟩,p2,p3⟩=true):=H_ (by unfold badB;dsimp only;rw [HU.out];simpa using hu0);go_wp2_with (go_at_call 65;refine (zfl _ s S F ((HS.out.fr0 hT hfr).fr0 hT ((Fr.refl No wr).alloc _)) g3).mono ?_;rintro e w' ⟨rfl,rfl⟩;rw [HU.out]);go_ret3;refine ⟨?_,hfr.alloc _⟩;have h1:=(HNX.out _ HB.out).2 rfl;rw [h1]
        rfl
      have hk':(p1 == 3)=false:=by simpa using hk
      have HB:Hid (badB S ⟨p1,⟨g1,g2,g3,g4,g5,g6,g7⟩,p2,p3⟩=false):=H_ (by unfold badB;dsimp only;rw [hk'];rfl);go_wp2;go_roundg g
      case rel=>exact ⟨i+1,by go_num,by omega,H_ (HF.out.alloc _),H_ ((HNX.out _ HB.out).1 rfl)⟩
      case measure=>omega
 have hap:applyE S ops=checkE ops:=by unfold applyE;rw [if_pos hc]
 rw [hap] at he ⊢
 have hc':(checkE ops == 0)=false:=(by simpa using hc);generalize checkE ops=u at *;have HCH:=H_ hch;clear hv hva hS hch hap hks;go_enter Try.func41,Try.ntmps41;go_wp2_with (go_at_call 20;refine (HCH.out _ (HV.out.alloc _)).mono ?_;rintro e w1 ⟨rfl,hf1⟩);go_ret3;exact ⟨rfl,((Fr.refl No w).alloc _).trans0 hf1⟩
def zff (S:St) (rev:Int):Int:=if S.rev < rev then 33 else if rev<=S.mark then 32 else 0
def kindN (n:Int):Int:=(n.tmod 8+8).tmod 8
end Go.Proofs.Ythljnnjpmdgkoaa