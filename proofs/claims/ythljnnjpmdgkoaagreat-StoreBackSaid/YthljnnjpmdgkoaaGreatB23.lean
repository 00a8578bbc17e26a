/- Own lemmas and contracts that the claim's proof needs, laid together. The conditions stand in each. -/
import Derived.Test.YthljnnjpmdgkoaaGreatB21
import Derived.Test.YthljnnjpmdgkoaaGreatB20
import Derived.Test.YthljnnjpmdgkoaaGreatB18
import Derived.Test.YthljnnjpmdgkoaaGreatB19
import Derived.Test.YthljnnjpmdgkoaaGreatB13
import Derived.Test.YthljnnjpmdgkoaaGreatB16
import Derived.Deep.DeepCutAuto
namespace Go.Proofs.YthljnnjpmdgkoaaGreat
open Go Go.Proofs Go.RowKit
structure Good (k:Nat) (S:St) (D:Doc):Prop where
 cpl:Cpl S D
 doc:DocOk (20000 * k) D
 ok:StOk (20000 * k) S
 size:S.T.length<=16 * k
 srt:Sorted S.T
 more:SMore (20000 * k) S
 rev:S.rev=D.rev
 rev1:D.rev<=k
theorem Good.mono {k m:Nat} {S:St} {D:Doc} (h:Good k S D) (hm:k<=m):Good m S D :=
 { h with doc:=h.doc.mono (by omega),ok:=h.ok.mono (by omega),size:=by have:=h.size;omega,more:=h.more.mono (by omega),rev1:=by have:=h.rev1;omega }
def newS:St:=⟨[],fun _=>none,0,0,0,[]⟩
def newD:Doc:=⟨0,0,[],[]⟩
theorem Good.new:Good 0 newS newD where
 cpl:={
  mark:=rfl
  events:=rfl
  inv:=⟨fun k _ h=>by simp [newS,getT] at h,fun k h=>by simp [newS,getT] at h,fun i H h=>by simp [newS] at h⟩
  ks:=List.Pairwise.nil
  m0:=⟨Int.le_refl 0,Int.le_refl 0⟩
  lives:=fun k r _=>rfl }
 doc:={
  es:=List.Pairwise.nil
  lo:=fun e he=>by simp [newD] at he
  full:=fun r a _ c=>by have c':r<=0:=c;omega
  uniq:=List.Pairwise.nil
  prev:=fun A e B h=>by simp [newD] at h
  kind:=fun e he=>by simp [newD] at he
  ver0:=fun e he=>by simp [newD] at he
  ver:=fun e he=>by simp [newD] at he }
 ok:={
  pos:=Int.le_refl 0
  next:=Int.le_refl 0
  id:=fun p hp=>by simp [newS] at hp
  ids:=fun i H h=>by simp [newS] at h
  hist:=fun i H h=>by simp [newS] at h
  rev0:=by show -top<=0;unfold top;omega
  rev1:=by show 0<=top;unfold top;omega
  mark0:=Int.le_refl 0
  ev:=Nat.le_refl 0 }
 size:=Nat.le_refl 0
 srt:=List.Pairwise.nil
 more:=fun i H h=>by simp [newS] at h
 rev:=rfl
 rev1:=Int.le_refl 0
theorem zcz {ops:List Opr} (h:checkE ops=0):ops.length<=16/\(∀ o∈ops,oneE o=0)/\∀ i o,ops[i]? = some o->Apart (ops.take i) o:=by
 unfold checkE at h
 split at h
 · cases h
 rename_i hl
 split at h
 · rename_i o ho
   have:=List.find?_some ho;rw [h] at this;simp at this
 rename_i hn
 split at h
 · cases h
 rename_i ht
 refine ⟨by omega,fun o ho=>by simpa using List.find?_eq_none.1 hn o ho,fun i o hi=>?_⟩
 have htw:∀ j p,ops[j]? = some p->p.kind=1->(∀ q∈ops.take j,clash p q=false)/\∀ q∈ops.drop (j+1),clash p q=false:=fun j p hj hp=>by
  have hjl:=(List.getElem?_eq_some_iff.1 hj).1;unfold twice at ht;rw [Bool.not_eq_true,List.any_eq_false] at ht;have h1:=ht j (List.mem_range.2 hjl);unfold zel at h1;rw [hj] at h1;simp only [hp,beq_self_eq_true,Bool.true_and,Bool.or_eq_true,not_or,Bool.not_eq_true,List.any_eq_false] at h1;exact ⟨fun q hq=>by simpa using h1.1 q hq,fun q hq=>by simpa using h1.2 q hq⟩
 refine ⟨fun ho p hp=>(htw i o hi ho).1 p hp,fun ho p hp hp1=>?_⟩;obtain ⟨j,hj⟩:=List.mem_iff_getElem?.1 hp
 have hji:j < i:=by
  have:=(List.getElem?_eq_some_iff.1 hj).1;simp at this;omega
 rw [List.getElem?_take,if_pos hji] at hj;refine (htw j p hj hp1).2 o (List.mem_iff_getElem?.2 ⟨i - (j+1),?_⟩);rw [List.getElem?_drop,show j+1+(i - (j+1))=i by omega];exact hi
theorem StepG.mono {N n m:Nat} {rev:Int} {r:Run} {o:Opr} (h:StepG N n rev r o) (hm:n<=m):StepG N m rev r o :=
 { h with st:=h.st.mono hm,del:=fun hk j x hx=>⟨(h.del hk j x hx).1.mono hm,(h.del hk j x hx).2⟩ }
theorem zhv (rev:Int) (r:Run) (ops:List Opr) {i:Nat} {o:Opr} (h:ops[i]? = some o):runR rev r (ops.take (i+1))=stepR rev (runR rev r (ops.take i)) o:=by
 unfold runR;rw [List.take_add_one,h,List.foldl_append]
 rfl
theorem zvo (rev:Int) (r:Run) (o:Opr):(stepR rev r o).A.length=r.A.length+1:=by
 unfold stepR
 split
 · simp
 split
 · simp
 split <;> simp
theorem Good.begin {k:Nat} {S:St} {D:Doc} (h:Good k S D):RunOk (16 * k) (20000 * k) D [] S [] where
 cpl:=h.cpl
 doc:=h.doc
 ok:=h.ok
 size:=h.size
 srt:=h.srt
 more:=h.more
 srev:=h.rev
 mods:=fun e he=>by simp at he
 old:=fun e he=>(h.doc.lo e he).2.2
 last:=fun k _ H hH=>.inl (h.cpl.inv.hist _ _ hH).1.2
 by1:=fun e he=>by simp at he
theorem Good.runs {k:Nat} {S:St} {D:Doc} (h:Good k S D) (hk:k<=70) {ops:List Opr} (hc:checkE ops=0) (hks:∀ o∈ops,o.rg.key.size<=1099511627776) :
 ∀ i≤ ops.length,(RunOk (16 * k+i) (20000 * k+i * (16 * k+17)) D (ops.take i) (runR (D.rev+1) ⟨S,[],[]⟩ (ops.take i)).S (runR (D.rev+1) ⟨S,[],[]⟩ (ops.take i)).E/\(runR (D.rev+1) ⟨S,[],[]⟩ (ops.take i)).A.length=i) ∧
  ∀ o,ops[i]? = some o->StepG 1000000 (20000 * k+20000) (D.rev+1) (runR (D.rev+1) ⟨S,[],[]⟩ (ops.take i)) o:=by
 obtain ⟨hl,_,hap⟩:=zcz hc;have hm0:=h.cpl.m0;have hr1:=h.rev1;have htop:D.rev+1<=top:=by unfold top;omega
 have key:∀ i≤ ops.length,RunOk (16 * k+i) (20000 * k+i * (16 * k+17)) D (ops.take i) (runR (D.rev+1) ⟨S,[],[]⟩ (ops.take i)).S (runR (D.rev+1) ⟨S,[],[]⟩ (ops.take i)).E/\(runR (D.rev+1) ⟨S,[],[]⟩ (ops.take i)).A.length=i:=by
  intro i
  induction i with
  | zero=>intro _;exact ⟨h.begin.mono (by omega) (by omega) fun _ h=>h,rfl⟩
  | succ i ih =>
    intro hi;obtain ⟨a,b⟩:=ih (by omega);obtain ⟨o,ho⟩:∃ o,ops[i]? = some o:=⟨_,List.getElem?_eq_getElem (by omega)⟩;have hi16:i<=15:=(by omega);have hmul:i * (16 * k+17)<=15 * (16 * k+17):=Nat.mul_le_mul_right _ hi16;have hs:=a.step (N:=1000000) o (by omega) htop hm0.2 (by omega) (hap i o ho) (by omega) (by omega) (hks o (List.mem_of_getElem? ho));rw [zhv _ _ _ ho];refine ⟨?_,by rw [zvo,b]⟩;have h2:=hs.2;have e1:(i+1) * (16 * k+17)=i * (16 * k+17)+(16 * k+17):=(by rw [Nat.succ_mul]);rw [List.take_add_one,ho];exact h2.mono (by omega) (by omega) fun _ h=>h
 intro i hi;refine ⟨key i hi,fun o ho=>?_⟩;obtain ⟨a,b⟩:=key i hi;have hil:=(List.getElem?_eq_some_iff.1 ho).1;have hmul:i * (16 * k+17)<=15 * (16 * k+17):=Nat.mul_le_mul_right _ (by omega);exact (a.step (N:=1000000) o (by omega) htop hm0.2 (by omega) (hap i o ho) (by omega) (by omega) (hks o (List.mem_of_getElem? ho))).1.mono (by omega)
theorem Cpl.setRev {S:St} {D:Doc} (h:Cpl S D) (r:Int):Cpl { S with rev:=r } D :=
 ⟨h.mark,h.events,⟨h.inv.inj,h.inv.has,h.inv.hist⟩,h.ks,h.m0,h.lives⟩
theorem znt (rev:Int) (L:List Kv):∀ q:St × List Kv × List Ev,(L.foldl (goneR rev) q).2.2=q.2.2++L.map fun x=>goneE x rev:=by
 induction L with
 | nil=>intro q;simp
 | cons x L ih =>
   intro q;rw [List.foldl_cons,ih];simp [goneR]
def applyD (S:St) (D:Doc) (ops:List Opr):Doc:=D.adds (runR (D.rev+1) ⟨S,[],[]⟩ ops).E
theorem Good.apply {k:Nat} {S:St} {D:Doc} (h:Good k S D) (hk:k<=70) {ops:List Opr} (hc:checkE ops=0) (hks:∀ o∈ops,o.rg.key.size<=1099511627776):Good (k+1) (applyS S ops) (applyD S D ops):=by
 have hl:=(zcz hc).1;obtain ⟨⟨a,b⟩,_⟩:=h.runs hk hc hks ops.length (Nat.le_refl _);rw [List.take_length] at a;have hmul:ops.length * (16 * k+17)<=16 * (16 * k+17):=Nat.mul_le_mul_right _ hl;have hD:=Doc.adds_rev D (runR (D.rev+1) ⟨S,[],[]⟩ ops).E _ a.mods;have hr:=h.rev;have hr1:=h.rev1;unfold applyS applyD;rw [hr];dsimp only;by_cases hE:(runR (D.rev+1) ⟨S,[],[]⟩ ops).E = []
 · rw [if_pos hE]
   rw [if_pos hE] at hD;exact { cpl:=a.cpl,doc:=a.doc.mono (by omega),ok:=a.ok.mono (by omega),size:=by have:=a.size;omega,srt:=a.srt,more:=a.more.mono (by omega),rev:=by rw [a.srev,hD],rev1:=by rw [hD];omega }
 rw [if_neg hE]
 rw [if_neg hE] at hD;have hm0:=h.cpl.m0;exact { cpl:=a.cpl.setRev _,doc:=a.doc.mono (by omega),ok:=(a.ok.mono (by omega)).setRev _ (by unfold top;omega) (by unfold top;omega),size:=by have:=a.size;dsimp only;omega,srt:=a.srt,more:=fun i H hi=>a.more.mono (by omega) i H hi,rev:=hD.symm,rev1:=by rw [hD];omega }
theorem Doc.adds_at_old (D:Doc) (E:List Ev) {r:Int} (hE:∀ e∈E,r < e.kv.mod):(D.adds E).at r=D.at r:=by
 obtain ⟨a,b,c⟩:=Doc.adds_parts D E
 unfold Doc.at;rw [a,b,c,List.filter_append];have:(E.filter fun e=>decide (D.mark < e.kv.mod) && decide (e.kv.mod<=r)) = []:=List.filter_eq_nil_iff.2 fun e he=>by have:=hE e he;simp;omega
 rw [this,List.append_nil]
def keepP (R:Int) (S:St) (p:ByteArray × Int):Bool:=match S.past p.2 with
 | some H=>!(compK R H.gens).isEmpty
 | none=>true
def compP (R:Int) (o:Option Hist):Option Hist:=match o with
 | some H=>if (compK R H.gens).isEmpty then none else some (compH R H)
 | none=>none
def compTo (R:Int) (S:St) (i:Nat):St where
 T:=(S.T.take i).filter (keepP R S)++S.T.drop i
 past:=fun j=>if j∈(S.T.take i).map (·.2) then compP R (S.past j) else S.past j
 next:=S.next
 rev:=S.rev
 mark:=R
 events:=S.events.filter (keptB R)
def compS (R:Int) (S:St):St:=compTo R S S.T.length
theorem zog (R:Int) (S:St):compTo R S 0 = { S with mark:=R,events:=S.events.filter (keptB R) }:=by
 unfold compTo;simp
theorem zoi {R:Int} {S:St} {i:Nat} {p:ByteArray × Int} {H:Hist} (hp:S.T[i]? = some p) (hH:S.past p.2=some H) (hk:compK R H.gens≠[]) :
 compTo R S (i+1) = { compTo R S i with past:=fun j=>if j=p.2 then some (compH R H) else (compTo R S i).past j }:=by
 have hi:=(List.getElem?_eq_some_iff.1 hp).1
 have hke:keepP R S p=true:=by
  unfold keepP;rw [hH];simpa using hk
 unfold compTo
 congr 1
 · rw [List.take_add_one,hp,List.filter_append,List.drop_eq_getElem_cons hi,(List.getElem?_eq_some_iff.1 hp).2]
   simp [hke]
 funext j
 rw [List.take_add_one,hp,List.map_append];dsimp only;by_cases hj:j=p.2
 · subst hj
   have hce:(compK R H.gens).isEmpty=false:=(by simpa using hk);simp [compP,hH,hk]
 simp [hj]
theorem zoj {R:Int} {S:St} {i:Nat} {p:ByteArray × Int} {H:Hist} (hs:Sorted S.T) (hp:S.T[i]? = some p) (hH:S.past p.2=some H) (hk:compK R H.gens = []) :
 compTo R S (i+1) = { compTo R S i with T:=delT (compTo R S i).T p.1,past:=fun j=>if j=p.2 then none else (compTo R S i).past j }:=by
 have hi:=(List.getElem?_eq_some_iff.1 hp).1
 have hke:keepP R S p=false:=by
  unfold keepP;rw [hH];simpa using hk
 have hdr:S.T.drop i=p :: S.T.drop (i+1):=by rw [List.drop_eq_getElem_cons hi,(List.getElem?_eq_some_iff.1 hp).2]
 have hsp:Sorted (S.T.take i++p :: S.T.drop (i+1)):=by rw [<-hdr,List.take_append_drop];exact hs
 obtain ⟨s1,s2,s3⟩:=List.pairwise_append.1 hsp;obtain ⟨s4,_⟩:=List.pairwise_cons.1 s2;unfold compTo
 congr 1
 · rw [hdr]
   unfold delT;rw [List.filter_append,List.filter_cons,List.take_add_one,hp,List.filter_append]
   have e1:((S.T.take i).filter (keepP R S)).filter (fun q=>!keq q.1 p.1)=(S.T.take i).filter (keepP R S):=by
    rw [List.filter_eq_self];intro q hq;have:=s3 q (List.mem_filter.1 hq).1 p List.mem_cons_self;rw [klt_ne this];rfl
   have e2:(S.T.drop (i+1)).filter (fun q=>!keq q.1 p.1)=S.T.drop (i+1):=by
    rw [List.filter_eq_self];intro q hq;have:=s4 q hq;rw [zcr,klt_ne this];rfl
   rw [e1,e2,if_neg (by rw [zap.2 rfl];simp)];simp [hke]
 funext j
 rw [List.take_add_one,hp,List.map_append];dsimp only;by_cases hj:j=p.2
 · subst hj
   simp [compP,hH,hk]
 simp [hj]
theorem zsy {M:Int} {S:St} (h:SInv M S) (hs:Sorted S.T):(S.T.map (·.2)).Nodup:=by
 unfold List.Nodup;rw [List.pairwise_map];refine List.Pairwise.imp_of_mem (fun {p q} hp hq hpq=>?_) hs;intro e;have h1:=zcb hs hp;have h2:=zcb hs hq;have:=h.inj p.1 q.1 (by rw [h1]) (by rw [h2]) (by rw [h1,h2];exact e);rw [this,zbd] at hpq;cases hpq
theorem zoh {R:Int} {S:St} (hnd:(S.T.map (·.2)).Nodup) {i:Nat} {p:ByteArray × Int} (hp:S.T[i]? = some p):(compTo R S i).past p.2=S.past p.2:=by
 have hi:=(List.getElem?_eq_some_iff.1 hp).1;unfold compTo;dsimp only;rw [if_neg];intro hm;obtain ⟨q,hq,e⟩:=List.mem_map.1 hm;obtain ⟨j,hj⟩:=List.mem_iff_getElem?.1 hq
 have hji:j < i:=by
  have:=(List.getElem?_eq_some_iff.1 hj).1;simp at this;omega
 rw [List.getElem?_take_of_lt hji] at hj;have h1:(S.T.map (·.2))[j]? = (S.T.map (·.2))[i]?:=by rw [List.getElem?_map,List.getElem?_map,hj,hp];simp [e]
 have:=(List.getElem?_inj (by simpa using (List.getElem?_eq_some_iff.1 hj).1) hnd).1 h1;omega
section
variable {TA:zar} {N:Nat} (hT:TreeOk TA N) {w w':World} {s t p:Nat} {ev:Value} {hp:Int->Option Nat} {FT:Nat->Prop} {FH:Int->Nat->Prop} {S:St}
include hT
theorem StoreR.dropHist (a:StoreR TA w s t p ev hp FT FH S) (id:Int) (hf:Fr (fun b=>b=p) w w') (hm:MapAt w' p fun i=>if i=id then none else (hp i).map fun h=>.pointer (some ⟨h,0,none⟩)) :
 StoreR TA w' s t p ev (fun i=>if i=id then none else hp i) FT (fun i b=>i≠id/\FH i b) { S with past:=fun i=>if i=id then none else S.past i } where
 obj:=a.obj.fr hf fun e=>a.map.apart a.obj e.symm
 tree:=hT.fr a.tree hf fun b hb e=>a.dp.1 (e ▸ hb)
 map:=by
  refine cast (congrArg (MapAt w' p) ?_) hm
  funext i
  by_cases hi:i=id <;> simp [hi]
 events:=a.events.fr hf fun b hb e=>a.dp.2.1 (e ▸ hb)
 hist i H hi:=by
  dsimp only at hi;by_cases hi':i=id
  · rw [if_pos hi'] at hi;cases hi
  rw [if_neg hi'] at hi
  obtain ⟨h2,h3,h4⟩:=a.hist i H hi;refine ⟨h2,by rw [if_neg hi'];exact h3,?_⟩;have h5:=h4.fr hf fun b hb e=>a.dp.2.2 i (e ▸ hb);have:(fun b=>i≠id/\FH i b)=FH i:=(by funext b;simp [hi']);rw [this];exact h5
 gone i hi:=by
  dsimp only at hi;by_cases hi':i=id
  · exact ⟨if_pos hi',fun b hb=>hb.1 hi'⟩
  rw [if_neg hi'] at hi
  exact ⟨by rw [if_neg hi'];exact (a.gone i hi).1,fun b hb=>(a.gone i hi).2 b hb.2⟩
 ds:=⟨a.ds.1,a.ds.2.1,fun i e=>a.ds.2.2 i e.2⟩
 dp:=⟨a.dp.1,a.dp.2.1,fun i e=>a.dp.2.2 i e.2⟩
 dt b hb:=⟨(a.dt b hb).1,fun i e=>(a.dt b hb).2 i e.2⟩
 de b hb i e:=a.de b hb i e.2
 dh i j b hi hj:=a.dh i j b hi.2 hj.2
end
set_option maxRecDepth 100000
def fewOp (o:Opr):Bool:=decide (o.rg.key.size<=3000) && decide (o.rg.end_.size<=3000) && decide (o.value.size<=3000)
def fewOps (l:List Opr):Bool:=decide (l.length<=30) && l.all fewOp
theorem zdq {α:Type} {l:List α} {p:α->Bool} {i:Nat} {x:α} (hx:l[i]? = some x):(l.take (i+1)).all p=((l.take i).all p && p x):=by
 rw [List.take_add_one,hx,List.all_append];simp
theorem zey {α:Type} {l:List α} {p:α->Bool} {i:Nat} {x:α} (hx:l[i]? = some x) (hp:p x=false):l.all p=false:=by
 rw [List.all_eq_false];exact ⟨x,List.mem_of_getElem? hx,by simp [hp]⟩
set_option maxHeartbeats 2000000 in
theorem zmo (w:World) (v:Value) (l:List Opr) (hv:SlR w 10 opC v l):Calls Tryz.prog 48 #[v] w fun e w'=>e = .returned (.bool (fewOps l))/\w=w':=by
 obtain ⟨a,cap,rfl,hc1,hc2,ha⟩:=hv.shape;have HV:=H_ hv;clear hv;have HA:=H_ ha;clear ha;by_cases h30:30 < l.length
 · have h30':(30:Int) < (l.length:Int):=by omega
   have:fewOps l=false:=(by unfold fewOps;simp;omega);rw [this];go_enter Tryz.func48,Tryz.ntmps48;go_wp2;go_ret;exact ⟨rfl,rfl⟩
 have h30':¬ (30:Int) < (l.length:Int):=by omega
 have hE:fewOps l=l.all fewOp:=(by unfold fewOps;simp;omega);have HE:=H_ hE;clear hE;go_enter Tryz.func48,Tryz.ntmps48;go_wp2
 go_loopg [3] l.length (fun g s3 wr=>∃ i:Nat,s3 = .int .i64 i/\i+g=l.length/\Hid ((l.take i).all fewOp=true)/\w=wr)
 case atStart=>exact ⟨0,rfl,by simp,H_ (by simp),rfl⟩
 case round =>
  obtain ⟨i,rfl,hi,HJ,rfl⟩:=hrel
  cases gk with
  | zero =>
    have hil:¬ (i:Int) < (l.length:Int):=(by omega);have hti:l.take i=l:=List.take_of_length_le (by omega);rw [hti] at HJ;go_wp2;go_ret;exact ⟨by rw [HE.out,HJ.out];rfl,rfl⟩
  | succ g =>
    obtain ⟨gb,go,rfl⟩:=HA.out (by omega);obtain ⟨p,hx⟩:∃ p,l[i]? = some p:=⟨_,List.getElem?_eq_getElem (by omega)⟩;have hvr:=HV.out;have x1:=hvr.cell zaf i 1 hx rfl;have x2:=hvr.cell zaf i 2 hx rfl;have x8:=hvr.cell zaf i 8 hx rfl;have hil:(i:Int) < (l.length:Int):=(by omega);have hnx:=zdq (p:=fewOp) hx;have hfa:=zey (p:=fewOp) hx;have HNX:=H_ hnx;have HFA:=H_ hfa;clear hx hvr hnx hfa;by_cases h1:3000 < p.rg.key.size
    · have h1':(3000:Int) < (p.rg.key.size:Int):=by omega
      have hf:fewOp p=false:=(by unfold fewOp;simp;omega);have HF:=H_ hf;clear hf;go_wp2;go_ret;exact ⟨by rw [HE.out,HFA.out HF.out];rfl,rfl⟩
    have h1':¬ (3000:Int) < (p.rg.key.size:Int):=by omega
    by_cases h2:3000 < p.rg.end_.size
    · have h2':(3000:Int) < (p.rg.end_.size:Int):=by omega
      have hf:fewOp p=false:=(by unfold fewOp;simp;omega);have HF:=H_ hf;clear hf;go_wp2;go_ret;exact ⟨by rw [HE.out,HFA.out HF.out];rfl,rfl⟩
    have h2':¬ (3000:Int) < (p.rg.end_.size:Int):=by omega
    by_cases h3:3000 < p.value.size
    · have h3':(3000:Int) < (p.value.size:Int):=by omega
      have hf:fewOp p=false:=(by unfold fewOp;simp;omega);have HF:=H_ hf;clear hf;go_wp2;go_ret;exact ⟨by rw [HE.out,HFA.out HF.out];rfl,rfl⟩
    have h3':¬ (3000:Int) < (p.value.size:Int):=by omega
    have hf:fewOp p=true:=(by unfold fewOp;simp;omega);have HF:=H_ hf;clear hf;go_wp2;go_roundg g
    case rel=>exact ⟨i+1,by go_num,by omega,H_ (by rw [HNX.out,HJ.out,HF.out];rfl),rfl⟩
    case measure=>omega
structure Cal where
 kind:Int
 ops:Value
 rg:Rg
 rev:Int
 upto:Int
 keys:Value
def calC (q:Cal × List Opr × List ByteArray):List Value:=.int .i64 q.1.kind :: q.1.ops :: (rgC q.1.rg++[.int .i64 q.1.rev,.int .i64 q.1.upto,q.1.keys])
theorem zam (q:Cal × List Opr × List ByteArray):(calC q).length=12:=rfl
def strC (s:ByteArray):List Value:=[.string s]
theorem zbs (s:ByteArray):(strC s).length=1:=rfl
structure CalR (w:World) (v:Value) (Z:List (Cal × List Opr × List ByteArray)):Prop where
 sl:SlR w 12 calC v Z
 ops:∀ (i:Nat) q,Z[i]? = some q->SlR w 10 opC q.1.ops q.2.1
 keys:∀ (i:Nat) q,Z[i]? = some q->SlR w 1 strC q.1.keys q.2.2
def fewKey (s:ByteArray):Bool:=decide (s.size<=3000)
def fewCal (q:Cal × List Opr × List ByteArray):Bool:=fewOps q.2.1 && decide (q.2.2.length<=30) && fewKey q.1.rg.key && fewKey q.1.rg.end_ && q.2.2.all fewKey
def zbi (Z:List (Cal × List Opr × List ByteArray)):Bool:=decide (Z.length<=30) && Z.all fewCal
set_option maxHeartbeats 4000000 in
theorem zge (w:World) (v:Value) (l:List (Cal × List Opr × List ByteArray)) (hv:CalR w v l):Calls Tryz.prog 15 #[v] w fun e w'=>e = .returned (.bool (zbi l))/\w=w':=by
 obtain ⟨hv,hops,hkeys⟩:=hv;obtain ⟨a,cap,rfl,hc1,hc2,ha⟩:=hv.shape;have HV:=H_ hv;clear hv;have HA:=H_ ha;clear ha;have HO:=H_ hops;clear hops;have HK:=H_ hkeys;clear hkeys;by_cases h30:30 < l.length
 · have h30':(30:Int) < (l.length:Int):=by omega
   have:zbi l=false:=(by unfold zbi;simp;omega);rw [this];go_enter Tryz.func15,Tryz.ntmps15;go_wp2;go_ret;exact ⟨rfl,rfl⟩
 have h30':¬ (30:Int) < (l.length:Int):=by omega
 have hE:zbi l=l.all fewCal:=(by unfold zbi;simp;omega);have HE:=H_ hE;clear hE;go_enter Tryz.func15,Tryz.ntmps15;go_wp2
 go_loopg [3] l.length (fun g s3 wr=>∃ i:Nat,s3 = .int .i64 i/\i+g=l.length/\Hid ((l.take i).all fewCal=true)/\w=wr)
 case atStart=>exact ⟨0,rfl,by simp,H_ (by simp),rfl⟩
 case round =>
  obtain ⟨i,rfl,hi,HJ,rfl⟩:=hrel
  cases gk with
  | zero =>
    have hil:¬ (i:Int) < (l.length:Int):=(by omega);have hti:l.take i=l:=List.take_of_length_le (by omega);rw [hti] at HJ;go_wp2;go_ret;exact ⟨by rw [HE.out,HJ.out];rfl,rfl⟩
  | succ g =>
    obtain ⟨gb,go,rfl⟩:=HA.out (by omega);obtain ⟨p,hx⟩:∃ p,l[i]? = some p:=⟨_,List.getElem?_eq_getElem (by omega)⟩;have hvr:=HV.out;have x1:=hvr.cell zam i 1 hx rfl;have x2:=hvr.cell zam i 2 hx rfl;have x3:=hvr.cell zam i 3 hx rfl;have x11:=hvr.cell zam i 11 hx rfl;have hil:(i:Int) < (l.length:Int):=(by omega);have hnx:=zdq (p:=fewCal) hx;have hfa:=zey (p:=fewCal) hx;have HNX:=H_ hnx;have HFA:=H_ hfa;have hops:=HO.out i p hx;have hkeys:=HK.out i p hx;have hfo:=zmo w p.1.ops p.2.1 hops;have hfc:fewCal p=(fewOps p.2.1 && decide (p.2.2.length<=30) && fewKey p.1.rg.key && fewKey p.1.rg.end_ && p.2.2.all fewKey):=rfl;clear hx hvr hnx hfa hops;obtain ⟨⟨p1,p2,⟨g1,g2,g3,g4,g5,g6,g7⟩,p3,p4,p5⟩,ops,keys⟩:=p;dsimp only at x1 x2 x3 x11 hfo hkeys hfc;obtain ⟨ka,kcap,rfl,hkc1,hkc2,hka⟩:=hkeys.shape
    generalize fewCal _=fc at *;generalize fewOps ops=fo at *;have HKS:=H_ hkeys;clear hkeys;have HKA:=H_ hka;clear hka;have HFO:=H_ hfo;clear hfo;have HFC:=H_ hfc;clear hfc;cases fo
    · have hf:fc=false:=by rw [HFC.out];rfl
      have HF:=H_ hf;clear hf;go_wp2_with (go_at_call 48;refine HFO.out.mono ?_;rintro e w' ⟨rfl,rfl⟩);go_ret;exact ⟨by rw [HE.out,HFA.out HF.out];rfl,rfl⟩
    by_cases h1:30 < keys.length
    · have h1':(30:Int) < (keys.length:Int):=by omega
      have hf:fc=false:=(by rw [HFC.out];simp;omega);have HF:=H_ hf;clear hf;go_wp2_with (go_at_call 48;refine HFO.out.mono ?_;rintro e w' ⟨rfl,rfl⟩);go_ret;exact ⟨by rw [HE.out,HFA.out HF.out];rfl,rfl⟩
    have h1':¬ (30:Int) < (keys.length:Int):=by omega
    by_cases h2:3000 < g1.size
    · have h2':(3000:Int) < (g1.size:Int):=by omega
      have hf:fc=false:=(by rw [HFC.out];simp [fewKey];omega);have HF:=H_ hf;clear hf;go_wp2_with (go_at_call 48;refine HFO.out.mono ?_;rintro e w' ⟨rfl,rfl⟩);go_ret;exact ⟨by rw [HE.out,HFA.out HF.out];rfl,rfl⟩
    have h2':¬ (3000:Int) < (g1.size:Int):=by omega
    by_cases h3:3000 < g2.size
    · have h3':(3000:Int) < (g2.size:Int):=by omega
      have hf:fc=false:=(by rw [HFC.out];simp [fewKey];omega);have HF:=H_ hf;clear hf;go_wp2_with (go_at_call 48;refine HFO.out.mono ?_;rintro e w' ⟨rfl,rfl⟩);go_ret;exact ⟨by rw [HE.out,HFA.out HF.out];rfl,rfl⟩
    have h3':¬ (3000:Int) < (g2.size:Int):=by omega
    have hf:fc=keys.all fewKey:=by
     rw [HFC.out];have a1:decide (keys.length<=30)=true:=(by simp;omega);have a2:fewKey g1=true:=(by unfold fewKey;simp;omega);have a3:fewKey g2=true:=(by unfold fewKey;simp;omega);rw [a1,a2,a3];rfl
    have HF:=H_ hf;clear hf;go_wp2_with (go_at_call 48;refine HFO.out.mono ?_;rintro e w' ⟨rfl,rfl⟩)
    go_loopg [4] keys.length (fun g' s4 wr=>∃ k:Nat,s4 = .int .i64 k/\k+g'=keys.length/\Hid ((keys.take k).all fewKey=true)/\w=wr)
    case atStart=>exact ⟨0,rfl,by simp,H_ (by simp),rfl⟩
    case round =>
     obtain ⟨k,rfl,hk,HJ2,rfl⟩:=hrel
     cases gk with
     | zero =>
       have hkl:¬ (k:Int) < (keys.length:Int):=(by omega);have hti:keys.take k=keys:=List.take_of_length_le (by omega);rw [hti] at HJ2;go_wp2;go_roundg g
       case rel=>exact ⟨i+1,by go_num,by omega,H_ (by rw [HNX.out,HJ.out,HF.out,HJ2.out];rfl),rfl⟩
       case measure=>omega
     | succ g' =>
       obtain ⟨kb,ko,rfl⟩:=HKA.out (by omega);obtain ⟨q,hx⟩:∃ q,keys[k]? = some q:=⟨_,List.getElem?_eq_getElem (by omega)⟩;have z0:=HKS.out.cell0 zbs k hx rfl;have z0':w.cell? ⟨kb,ko+k,none⟩=some (.string q):=(by simpa using z0);have hkl:(k:Int) < (keys.length:Int):=(by omega);have hnx:=zdq (p:=fewKey) hx;have hfa:=zey (p:=fewKey) hx;have HNX2:=H_ hnx;have HFA2:=H_ hfa;clear hx hnx hfa z0;by_cases h4:3000 < q.size
       · have h4':(3000:Int) < (q.size:Int):=by omega
         go_wp2;go_ret;exact ⟨by rw [HE.out,HFA.out (by rw [HF.out,HFA2.out (by unfold fewKey;simp;omega)])];rfl,rfl⟩
       have h4':¬ (3000:Int) < (q.size:Int):=by omega
       go_wp2;go_roundg g'
       case rel=>exact ⟨k+1,by go_num,by omega,H_ (by rw [HNX2.out,HJ2.out];unfold fewKey;simp;omega),rfl⟩
       case measure=>omega
def dropE (k:ByteArray) (rev:Int) (x:Kv):Ev:=⟨2,⟨k,ByteArray.empty,0,rev,0,0⟩,x⟩
def dropR (rev:Int) (q:St × List Ev) (k:ByteArray):St × List Ev :=
 if (livesS q.1 k rev).2 then (doS q.1 (dropE k rev (livesS q.1 k rev).1),q.2++[dropE k rev (livesS q.1 k rev).1]) else q
def dropTo (rev:Int) (S:St) (keys:List ByteArray) (i:Nat):St × List Ev:=(keys.take i).foldl (dropR rev) (S,[])
def dropS (S:St) (keys:List ByteArray):St :=
 if (keys.foldl (dropR (S.rev+1)) (S,[])).2 = [] then (keys.foldl (dropR (S.rev+1)) (S,[])).1 else { (keys.foldl (dropR (S.rev+1)) (S,[])).1 with rev:=S.rev+1 }
theorem zec (rev:Int) (S:St) (keys:List ByteArray) {i:Nat} {k:ByteArray} (h:keys[i]? = some k):dropTo rev S keys (i+1)=dropR rev (dropTo rev S keys i) k:=by
 unfold dropTo;rw [List.take_add_one,h,List.foldl_append]
 rfl
set_option maxHeartbeats 4000000 in
theorem zrk {TA:zar} {N:Nat} (hT:TreeOk TA N) {n:Nat} (hn:n<=1099511627) (w:World) (s:Nat) (S:St) (F:Nat->Prop) (hS:zak TA w s S F) (v:Value) (keys:List ByteArray) (hv:SlR w 1 strC v keys)
 (hvF:0 < keys.length->∀ b,v.ownBlock=some b->¬ F b) (hkl:keys.length<=1099511627) (hr0 : -top<=S.rev) (hr:S.rev < top)
 (hrun:∀ i k,keys[i]? = some k->StOk n (dropTo (S.rev+1) S keys i).1/\(dropTo (S.rev+1) S keys i).2.length<=1099511627 ∧
   ((livesS (dropTo (S.rev+1) S keys i).1 k (S.rev+1)).2=true->DoOk N (dropTo (S.rev+1) S keys i).1 (dropE k (S.rev+1) (livesS (dropTo (S.rev+1) S keys i).1 k (S.rev+1)).1))) :
 Calls Tryz.prog 57 #[.pointer (some ⟨s,0,none⟩),v] w fun e w'=>∃ ev,e = .returned (.tuple #[ev,.int .i64 0])/\∃ F',zak TA w' s (dropS S keys) F' ∧
  SlF w' 101 13 evC ev (keys.foldl (dropR (S.rev+1)) (S,[])).2/\Fr F w w'/\(∀ b,F' b->F b\/w.heap.size<=b)/\(∀ b,ev.ownBlock=some b->w.heap.size<=b/\¬ F' b):=by
 obtain ⟨va,vcap,rfl,hc1,hc2,hva⟩:=hv.shape
 have hc3:∀ W,Fr No w W->W.cell? ⟨s,3,none⟩=some (.int .i64 S.rev):=fun W hW=>by
  obtain ⟨t,p,ev,hp,FT,FH,a,hF⟩:=hS;exact hW.cell0 (a.obj.cell 3 rfl)
 have c3:=hc3 _ ((Fr.refl No w).alloc (Obj.cells #[.pointer (some ⟨s,0,none⟩)] 25));have c3':=hc3 _ (((Fr.refl No w).alloc (Obj.cells #[.pointer (some ⟨s,0,none⟩)] 25)).alloc (Obj.cells #[.int .i64 (S.rev+1)] 3));have lsw:s < w.heap.size:=World.block_lt_of_cell? _ _ (hc3 _ (Fr.refl No w));have hmf:∀ (fn:Fn) (first cap:Array Value) (w:World),(Instr.makeFunc fn first cap).run Tryz.prog w = .ok (.func fn first cap) w:=fun _ _ _ _=>rfl;have HV:=H_ hv;have HVA:=H_ hva;have HVF:=H_ hvF;have HS:=H_ hS;have HRUN:=H_ hrun;have HLS:=H_ (hS.lt hT);have hrt:(S.rev == 1099511627776)=false:=by rw [beq_eq_false_iff_ne];unfold top at hr;omega
 have hr2:S.rev < 1099511627776:=hr;have hr3 : -1099511627776<=S.rev:=hr0;have HAP:Hid (dropS S keys=if (keys.foldl (dropR (S.rev+1)) (S,[])).2 = [] then (keys.foldl (dropR (S.rev+1)) (S,[])).1 else { (keys.foldl (dropR (S.rev+1)) (S,[])).1 with rev:=S.rev+1 }):=H_ rfl;have HALL:Hid (dropTo (S.rev+1) S keys keys.length=keys.foldl (dropR (S.rev+1)) (S,[])):=H_ (by unfold dropTo;rw [List.take_length]);clear hv hva hvF hS hrun hc3;go_enter Tryz.func57,Tryz.ntmps57;go_wp2_with fail;have hb0:((w.alloc (Obj.cells #[.pointer (some ⟨s,0,none⟩)] 25)).alloc (Obj.cells #[.int .i64 (S.rev+1)] 3)).heap[w.heap.size]? = some (.cells #[.pointer (some ⟨s,0,none⟩)] 25 (0,0)):=zaj (zad _ _ _ rfl) _
 have hb1:((w.alloc (Obj.cells #[.pointer (some ⟨s,0,none⟩)] 25)).alloc (Obj.cells #[.int .i64 (S.rev+1)] 3)).heap[w.heap.size+1]? = some (.cells #[.int .i64 (S.rev+1)] 3 (0,0)):=zad _ _ _ (by simp);have hw1:Fr No w ((w.alloc (Obj.cells #[.pointer (some ⟨s,0,none⟩)] 25)).alloc (Obj.cells #[.int .i64 (S.rev+1)] 3)):=((Fr.refl No w).alloc _).alloc _;have hsz1:((w.alloc (Obj.cells #[.pointer (some ⟨s,0,none⟩)] 25)).alloc (Obj.cells #[.int .i64 (S.rev+1)] 3)).heap.size=w.heap.size+2:=by simp
 generalize (w.alloc (Obj.cells #[.pointer (some ⟨s,0,none⟩)] 25)).alloc (Obj.cells #[.int .i64 (S.rev+1)] 3)=W1 at *;have HB0:=H_ hb0;have HB1:=H_ hb1;have HW1:=H_ hw1;have HS1:=H_ (HS.out.fr0 hT hw1);clear hb0 hb1 c3 c3' hw1
 go_loopg [34,8] keys.length (fun g s34 s8 wr=>∃ (i:Nat) (out:Value) (F1:Nat->Prop),s34 = .int .i64 i/\s8=out/\i+g=keys.length/\Hid (zak TA wr s (dropTo (S.rev+1) S keys i).1 F1)/\Hid (SlF wr 101 13 evC out (dropTo (S.rev+1) S keys i).2)/\Hid (Fr F W1 wr) ∧
  Hid (∀ b,F1 b->F b\/W1.heap.size<=b)/\Hid (∀ b,out.ownBlock=some b->W1.heap.size<=b/\¬ F1 b))
 case atStart=>exact ⟨0,_,F,rfl,rfl,by simp,HS1,H_ (SlF.nil _ _ _ _),H_ (Fr.refl _ _),H_ (fun b h=>.inl h),H_ (fun b h=>by simp [Value.ownBlock] at h)⟩
 case round =>
  obtain ⟨i,out,F1,rfl,rfl,hi,HST,HOUT,HFR,HF1,HOF⟩:=hrel;have nb0:¬ F w.heap.size:=fun h=>by have:=HLS.out _ h;omega
  have nb1:¬ F (w.heap.size+1):=fun h=>by have:=HLS.out _ h;omega
  have hb0:=HFR.out.heap HB0.out nb0;have hb1:=HFR.out.heap HB1.out nb1;have lb0:=zac hb0;have lb1:=zac hb1;have q0:wr.cell? ⟨w.heap.size,0,none⟩=some (.pointer (some ⟨s,0,none⟩)):=cellAt hb0 0 rfl;have q1:wr.cell? ⟨w.heap.size+1,0,none⟩=some (.int .i64 (S.rev+1)):=cellAt hb1 0 rfl;clear hb0 hb1;obtain ⟨ea,ecap,rfl,he1,he2,he3⟩:=HOUT.out.shape;clear he3
  cases gk with
  | zero =>
    have hil:¬ (i:Int) < (keys.length:Int):=(by omega);have hie:i=keys.length:=(by omega);subst hie;rw [HALL.out] at HST HOUT he1 HOF;generalize hR:keys.foldl (dropR (S.rev+1)) (S,[])=r at *;obtain ⟨t1,p1,ev1,hp1,FT1,FH1,a1,hF1⟩:=HST.out;have c3:=a1.obj.cell 3 rfl;have f3:=a1.obj.free 3;have ls:=a1.obj.lt;have HA1:=H_ a1;have HF1':=H_ hF1;clear a1 hF1;have hfw:Fr F w wr:=(HW1.out.mono fun _ _ h=>h.elim).trans HFR.out fun _ _ h=>h;have HFW:=H_ hfw;clear hfw;by_cases hE:r.2.length=0
    · have hEz:¬ (0:Int) < (r.2.length:Int):=by omega
      have HEN:=H_ (List.eq_nil_of_length_eq_zero hE);clear hE;rw [HALL.out];go_wp2
      go_ret2
      refine ⟨.slice ea r.2.length ecap,rfl,F1,?_,?_,HFW.out,fun b hb=>?_,fun b hb=>?_⟩
      · rw [HAP.out,if_pos HEN.out];exact HST.out
      · exact HOUT.out
      · rcases HF1.out b hb with h | h
        · exact .inl h
        exact .inr (by omega)
      have:=HOF.out b hb
      exact ⟨by omega,this.2⟩
    have hEz:(0:Int) < (r.2.length:Int):=by omega
    have HEN:Hid (¬ r.2 = []):=H_ (fun h=>hE (by rw [h];rfl));have hF1s:F1 s:=(HF1'.out s).2 (.inl rfl);clear hE;rw [HALL.out];go_wp2
    go_ret2
    have hfs:Fr (fun b=>b=s) wr (wr.setCell ⟨s,3,none⟩ (.int .i64 (S.rev+1))):=(Fr.refl _ wr).setAt 3 _;have hA2:=HA1.out.setObj hT hfs r.1.next (S.rev+1) r.1.mark (HA1.out.obj.set 3 (.int .i64 (S.rev+1)));refine ⟨.slice ea r.2.length ecap,rfl,F1,?_,?_,?_,fun b hb=>?_,fun b hb=>?_⟩
    · rw [HAP.out,if_neg HEN.out];exact ⟨t1,p1,ev1,hp1,FT1,FH1,hA2,HF1'.out⟩
    · exact HOUT.out.fr hfs fun b hb e=>(HOF.out b hb).2 (by have e':b=s:=e;rw [e'];exact hF1s)
    · refine HFW.out.trans hfs fun b hb e=>?_
      have e':b=s:=e;subst e';rcases HF1.out b hF1s with h | h
      · exact h
      omega
    · rcases HF1.out b hb with h | h
      · exact .inl h
      exact .inr (by omega)
    have:=HOF.out b hb
    exact ⟨by omega,this.2⟩
  | succ g =>
    have hil:(i:Int) < (keys.length:Int):=(by omega);obtain ⟨gb,go,rfl⟩:=HVA.out (by omega);obtain ⟨k,hk⟩:∃ k,keys[i]? = some k:=⟨_,List.getElem?_eq_getElem (by omega)⟩;have hvr:=(HV.out.fr0 HW1.out).fr HFR.out (HVF.out (by omega));have x0':=hvr.cell0 zbs i hk rfl;have x0:wr.cell? ⟨gb,go+i,none⟩=some (.string k):=(by simpa using x0');obtain ⟨d1,d2,d3⟩:=HRUN.out i k hk;have hsu:=zec (S.rev+1) S keys hk;generalize dropTo (S.rev+1) S keys i=q at *;have hli:=fun W hW=>zfr hT hn W s q.1 F1 hW d1 k (S.rev+1);unfold dropR at hsu;obtain ⟨i0,hi0,hz0,hz1,hz2⟩:=info_parts info73;rcases hl:livesS q.1 k (S.rev+1) with ⟨⟨l1,l2,l3,l4,l5,l6⟩,lb⟩
    rw [hl] at hsu d3;simp only [hl,zce,kvV] at hli;have HLI:=H_ hli;have HSU:=H_ hsu;have HD1:=H_ d1;have HD3:=H_ d3;clear hk hvr x0' hli hsu d1 d3 hl;have hszr:=HFR.out.size;cases lb
    · go_wp2_with (go_at_call 66;refine (HLI.out _ HST.out).mono ?_;rintro e w2 ⟨rfl,hf2⟩)
      go_roundg g
      case rel =>
       have hsu:=HSU.out.trans (if_neg Bool.false_ne_true);have hf3:=hf2.alloc (Obj.cells #[.string l1,.string l2,.int .i64 l3,.int .i64 l4,.int .i64 l5,.int .i64 l6] 99);exact ⟨i+1,_,F1,by go_num,rfl,by omega,H_ (by rw [hsu];exact HST.out.fr0 hT hf3),H_ (by rw [hsu];exact HOUT.out.fr0 hf3),H_ (HFR.out.trans0 hf3),HF1,HOF⟩
      case measure=>omega
    have hdo:=fun W hW=>zkn hT hn W s q.1 F1 hW HD1.out (dropE k (S.rev+1) ⟨l1,l2,l3,l4,l5,l6⟩) (HD3.out rfl)
    have HDO:=H_ hdo;clear hdo
    go_wp2_with (first
     | (go_at_call 66;refine (HLI.out _ HST.out).mono ?_;rintro e w2 ⟨rfl,hf2⟩
        have q02:=hf2.cell0 q0;have q12:=hf2.cell0 q1;have lb02:=World.block_lt_of_cell? _ _ q02;have lb12:=World.block_lt_of_cell? _ _ q12;have hsz2:=hf2.size)
     | (go_at_call 68
        have hfa:Fr No wr ((w2.alloc (Obj.cells #[.string l1,.string l2,.int .i64 l3,.int .i64 l4,.int .i64 l5,.int .i64 l6] 99)).alloc (Obj.cells #[.int .i64 2,.string k,.string ByteArray.empty,.int .i64 0,.int .i64 (S.rev+1),.int .i64 0,.int .i64 0,.string l1,.string l2,.int .i64 l3,.int .i64 l4,.int .i64 l5,.int .i64 l6] 101)):=(hf2.alloc _).alloc _
        have hbe:((w2.alloc (Obj.cells #[.string l1,.string l2,.int .i64 l3,.int .i64 l4,.int .i64 l5,.int .i64 l6] 99)).alloc (Obj.cells #[.int .i64 2,.string k,.string ByteArray.empty,.int .i64 0,.int .i64 (S.rev+1),.int .i64 0,.int .i64 0,.string l1,.string l2,.int .i64 l3,.int .i64 l4,.int .i64 l5,.int .i64 l6] 101)).heap[w2.heap.size+1]? = some (.cells #[.int .i64 2,.string k,.string ByteArray.empty,.int .i64 0,.int .i64 (S.rev+1),.int .i64 0,.int .i64 0,.string l1,.string l2,.int .i64 l3,.int .i64 l4,.int .i64 l5,.int .i64 l6] 101 (0,0)):=zad _ _ _ (by simp);have hF1lt:=HST.out.lt hT;have nbe:¬ F1 (w2.heap.size+1):=fun h=>by have:=hF1lt _ h;omega
        refine (HDO.out _ (HST.out.fr0 hT hfa)).mono ?_;rintro e w3 ⟨⟨rv,rfl⟩,F2,hs3,hf3,hF2⟩;have hbe3:=hf3.heap hbe nbe;obtain ⟨k0,k1,k2,k3,k4,k5,k6,k7,k8,k9,k10,k11,k12⟩:=cells13 hbe3;have lbe:=zac hbe3;have hnew:=zay w3 (evC (dropE k (S.rev+1) ⟨l1,l2,l3,l4,l5,l6⟩)) 101 (0,0);have hou3:=(HOUT.out.fr0 hfa).fr hf3 fun b hb h=>(HOF.out b hb).2 h;have HOU3:=H_ hou3;have HS3:=H_ hs3;have HF3:=H_ hf3;have HF2:=H_ hF2;have HFA:=H_ hfa;have HLT:=H_ hF1lt;clear hou3 hs3 hf3 hF2 hfa hbe hbe3 nbe hF1lt)
     | (at_builtin;refine zas rfl _ _ 28 rfl 101 i0 _ 13 136 Tryz.underlying28 hi0 hz0 hz1 hz2 rfl (by decide) _ q.2 rfl (HOU3.out.alloc _) w3.heap.size 1 (dropE k (S.rev+1) ⟨l1,l2,l3,l4,l5,l6⟩) rfl hnew rfl ?c1 ?c2 ?c3 ?_))
    case c1=>intro u hu;simp [evC,kvC,dropE] at hu;rcases hu with rfl | rfl | rfl | rfl | rfl | rfl | rfl | rfl | rfl | rfl | rfl | rfl | rfl <;> rfl
    case c2=>unfold maxLen;omega
    case c3=>omega
    intro g7 o7 cap7 w4 hs4 hg4 hb4 hlt4;go_wp2;go_roundg g
    case rel =>
     have hsu:=HSU.out.trans (if_pos trivial);have hsz3:=HF3.out.size;have hszA:=HFA.out.size;have hf34:Fr (fun b=>(Value.slice ea q.2.length ecap).ownBlock=some b) w3 w4:=((Fr.refl _ w3).alloc _).grown hg4 fun k hk=>.inl hk
     have hg7:(Value.slice ea q.2.length ecap).ownBlock=some g7\/w3.heap.size<=g7:=by
      rcases hb4 with h | h
      · exact .inl h
      right
      have h':g7=w3.heap.size+1:=(by simpa using h);omega
     have hnF2:∀ b,(Value.slice ea q.2.length ecap).ownBlock=some b->¬ F2 b:=fun b hb h=>by
      have hbl:=HOUT.out.lt b hb;rcases HF2.out b h with h | h
      · exact (HOF.out b hb).2 h
      omega
     have hF2l:=HS3.out.lt hT;refine ⟨i+1,_,F2,by go_num,rfl,by omega,H_ (by rw [hsu];exact HS3.out.fr hT hf34 fun b hb h=>hnF2 b h hb),H_ (by rw [hsu];simpa using hs4),H_ ?_,H_ fun b hb=>?_,H_ fun b hb=>?_⟩
     · refine ((HFR.out.trans0 HFA.out).trans HF3.out fun b hb h=>?_).trans hf34 fun b hb h=>?_
       · rcases HF1.out b h with h | h
         · exact h
         omega
       have:=(HOF.out b h).1;omega
     · rcases HF2.out b hb with h | h
       · exact HF1.out b h
       exact .inr (by omega)
     obtain rfl:g7=b:=by simpa [Value.ownBlock] using hb
     rcases hg7 with h | h
     · exact ⟨(HOF.out g7 h).1,hnF2 g7 h⟩
     exact ⟨by omega,fun h'=>by have:=hF2l g7 h';omega⟩
    case measure=>omega
end Go.Proofs.YthljnnjpmdgkoaaGreat