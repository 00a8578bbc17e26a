/- Own lemmas and contracts that the claim's proof needs, laid together. The conditions stand in each. -/
import Derived.Test.YthljnnjpmdgkoaaN28
import Derived.Test.YthljnnjpmdgkoaaN29
import Derived.Test.YthljnnjpmdgkoaaN25
import Derived.Test.YthljnnjpmdgkoaaN14
import Derived.Test.YthljnnjpmdgkoaaN16
import Derived.Test.YthljnnjpmdgkoaaN15
import Derived.Test.YthljnnjpmdgkoaaN07
import Derived.Test.YthljnnjpmdgkoaaN10
import Derived.Maps.RangeRun
import Derived.StringKeys
import Derived.Maps.Keyed
namespace Go.Proofs.Ythljnnjpmdgkoaa
open Go Go.Proofs Go.RowKit
set_option maxRecDepth 100000
abbrev CalQ:=Cal × List Opr × List ByteArray
def doT (S:St) (q:CalQ):St :=
 if kindN q.1.kind=4 then S else if kindN q.1.kind=5 then (if zff S q.1.rev=0 then compS q.1.rev S else S) else if kindN q.1.kind=6 then S else if kindN q.1.kind=7 then dropS S q.2.2
 else if applyE S q.2.1=0 then applyS S q.2.1 else S
def doD (S:St) (D:Doc) (q:CalQ):Doc :=
 if kindN q.1.kind=4 then D else if kindN q.1.kind=5 then (if zff S q.1.rev=0 then D.cut q.1.rev else D) else if kindN q.1.kind=6 then D else if kindN q.1.kind=7 then dropD S D q.2.2
 else if applyE S q.2.1=0 then applyD S D q.2.1 else D
theorem zbp {S:St} {ops:List Opr} (h:applyE S ops=0):checkE ops=0/\whenAll S ops=0:=by
 unfold applyE at h
 split at h
 · rename_i hc;exact absurd h hc
 rename_i hc;exact ⟨by simpa using hc,h⟩
theorem zfe {S:St} {rev:Int} (h:zff S rev=0):rev<=S.rev/\S.mark < rev:=by
 unfold zff at h
 split at h
 · cases h
 split at h
 · cases h
 omega
theorem zdz {q:CalQ} (h:fewCal q=true):(∀ o∈q.2.1,o.rg.key.size<=3000/\o.rg.end_.size<=3000/\o.value.size<=3000)/\q.2.1.length<=30/\q.2.2.length<=30/\q.1.rg.key.size<=3000/\q.1.rg.end_.size<=3000:=by
 unfold fewCal fewKey at h;simp only [Bool.and_eq_true,decide_eq_true_eq] at h;obtain ⟨⟨⟨⟨h1,h2⟩,h3⟩,h4⟩,h5⟩:=h;unfold fewOps at h1;simp only [Bool.and_eq_true,decide_eq_true_eq,List.all_eq_true] at h1;refine ⟨fun o ho=>?_,h1.1,h2,h3,h4⟩;have:=h1.2 o ho;unfold fewOp at this;simp only [Bool.and_eq_true,decide_eq_true_eq] at this;omega
theorem Good.does {k:Nat} {S:St} {D:Doc} (h:Good k S D) (hk:k<=70) {q:CalQ} (hq:fewCal q=true):Good (k+1) (doT S q) (doD S D q):=by
 obtain ⟨f1,f2,f3,f4,f5⟩:=zdz hq;unfold doT doD;by_cases h4:kindN q.1.kind=4
 · rw [if_pos h4,if_pos h4];exact h.mono (by omega)
 rw [if_neg h4,if_neg h4]
 by_cases h5:kindN q.1.kind=5
 · rw [if_pos h5,if_pos h5]
   by_cases hc:zff S q.1.rev=0
   · rw [if_pos hc,if_pos hc]
     obtain ⟨c1,c2⟩:=zfe hc;rw [h.rev] at c1;rw [h.cpl.mark] at c2;exact (h.cut (by omega) c2 c1).mono (by omega)
   rw [if_neg hc,if_neg hc];exact h.mono (by omega)
 rw [if_neg h5,if_neg h5]
 by_cases h6:kindN q.1.kind=6
 · rw [if_pos h6,if_pos h6];exact h.mono (by omega)
 rw [if_neg h6,if_neg h6]
 by_cases h7:kindN q.1.kind=7
 · rw [if_pos h7,if_pos h7]
   exact h.drop hk q.2.2 f3
 rw [if_neg h7,if_neg h7]
 by_cases ha:applyE S q.2.1=0
 · rw [if_pos ha,if_pos ha]
   exact h.apply hk (zbp ha).1 fun o ho=>by have:=(f1 o ho).1;omega
 rw [if_neg ha,if_neg ha];exact h.mono (by omega)
theorem zln {TA:zan} (hT:TreeOk TA 1000000) {k:Nat} {S:St} {D:Doc} (h:Good k S D) (hk:k<=70) (w:World) (s:Nat) (F:Nat->Prop) (hS:zaj TA w s S F) (v:Value) (ops:List Opr) (hv:SlR w 10 opC v ops)
 (hvF:0 < ops.length->∀ b,v.ownBlock=some b->¬ F b) (hl:ops.length<=30) (hks:∀ o∈ops,o.rg.key.size<=3000) :
 Calls Try.prog 41 #[.pointer (some ⟨s,0,none⟩),v] w fun e w'=>∃ av ev,e = .returned (.tuple #[av,ev,.int .i64 (applyE S ops)])/\∃ F' Z,zaj TA w' s (if applyE S ops=0 then applyS S ops else S) F'/\AnsR w' av Z ∧
  Z.map (·.1)=(if applyE S ops=0 then (runR (S.rev+1) ⟨S,[],[]⟩ ops).A else [])/\SlF w' 73 13 evC ev (if applyE S ops=0 then (runR (S.rev+1) ⟨S,[],[]⟩ ops).E else [])/\Fr F w w'/\(∀ b,F' b->F b\/w.heap.size<=b):=by
 have hr:=h.rev;have hr1:=h.rev1;have hm0:=h.cpl.m0;by_cases he:applyE S ops=0
 · obtain ⟨e1,e2⟩:=zbp he
   simp only [if_pos he];rw [he];refine (zrm hT (n:=20000 * k+20000) (by omega) w s S F hS v ops hv hvF (by omega) (fun o ho=>by have:=hks o ho;omega) (by unfold top;omega) (by unfold top;omega) e1 e2 fun i o ho=>?_).mono ?_
   · have hil:=(List.getElem?_eq_some_iff.1 ho).1
     rw [hr];exact (h.runs hk e1 (fun o ho=>by have:=hks o ho;omega) i (by omega)).2 o ho
   rintro e w' ⟨av,ev,rfl,F',Z,a,b,c,d,f,g,_⟩
   exact ⟨av,ev,rfl,F',Z,a,b,c,d,f,g⟩
 simp only [if_neg he]
 refine (zrl hT w s S F hS v ops hv (by omega) (fun o ho=>by have:=hks o ho;omega) he).mono ?_;rintro e w' ⟨rfl,hf⟩;exact ⟨_,_,rfl,F,[],hS.fr0 hT hf,AnsR.nil _,rfl,SlF.nil _ _ _ _,hf.mono fun _ _ h=>h.elim,fun b h=>.inl h⟩
def donesT (l:List CalQ) (i:Nat):St × Doc:=(l.take i).foldl (fun p q=>(doT p.1 q,doD p.1 p.2 q)) (newS,newD)
theorem zcn (l:List CalQ) {i:Nat} {q:CalQ} (h:l[i]? = some q):donesT l (i+1)=(doT (donesT l i).1 q,doD (donesT l i).1 (donesT l i).2 q):=by
 unfold donesT;rw [List.take_add_one,h,List.foldl_append]
 rfl
theorem zav {l:List CalQ} (h:zbo l=true):l.length<=30/\∀ q∈l,fewCal q=true:=by
 unfold zbo at h;simpa [Bool.and_eq_true] using h
theorem zbf {l:List CalQ} (h:zbo l=true):∀ i≤ l.length,Good i (donesT l i).1 (donesT l i).2:=by
 obtain ⟨h1,h2⟩:=zav h;intro i
 induction i with
 | zero=>intro _;exact Good.new
 | succ i ih =>
   intro hi;obtain ⟨q,hq⟩:∃ q,l[i]? = some q:=⟨_,List.getElem?_eq_getElem (by omega)⟩;rw [zcn l hq];exact (ih (by omega)).does (by omega) (h2 q (List.mem_of_getElem? hq))
open Go Go.RowKit Go.WideElems Go.ChangeMaps Go.WideMaps
def MapS (w:World) (b:Nat) (f:ByteArray->Option Value):Prop :=
 ∃ es clock,w.heap[b]? = some (.map es clock)/\MapKept.Stamped es clock/\(∀ e∈es.toList,∃ n,e.key = .string n/\n.size<=maxLen/\f n=some e.val) ∧
  ∀ n v,f n=some v->∃ e∈es.toList,e.key = .string n/\e.val=v
theorem MapS.lt {w:World} {b:Nat} {f:ByteArray->Option Value} (h:MapS w b f):b < w.heap.size:=by
 obtain ⟨es,clock,hb,_⟩:=h;exact zab hb
theorem MapS.fr {w w':World} {b:Nat} {f:ByteArray->Option Value} {S:Nat->Prop} (h:MapS w b f) (hf:Fr S w w') (hn:¬ S b):MapS w' b f:=by
 have hlt:=h.lt;obtain ⟨es,clock,hb,h2⟩:=h;exact ⟨es,clock,by rw [hf.block b hlt hn];exact hb,h2⟩
theorem MapS.made (w:World):MapS (w.alloc (.map #[] 0)) w.heap.size fun _=>none :=
 ⟨#[],0,zac _ _ _ rfl,MapKept.stamped_empty 0,by simp,by simp⟩
section
variable {P:Program} {w:World} {b:Nat} {f:ByteArray->Option Value} {t k e:TypeId}
theorem zns (hk:P.underlying k=some .string) {es:List MapEntry} (h:∀ e∈es,∃ n,e.key = .string n/\n.size<=maxLen/\f n=some e.val):∀ e∈es,∃ l,keyOf P k e.key=some l:=by
 intro e he;obtain ⟨n,h1,h2,_⟩:=h e he;exact ⟨_,by rw [h1];exact keyOf_string_mk hk h2⟩
theorem MapS.look (h:MapS w b f) (ht:P.underlying t=some (.map k e)) (hk:P.underlying k=some .string) {n:ByteArray} (hn:n.size<=maxLen) {z:Value} (hz:(zeroValue e).run P w = .ok z w) :
 (Instr.lookup t (.map (some b)) (.string n) false).run P w = .ok ((f n).getD z) w:=by
 obtain ⟨es,clock,hb,hst,h1,h2⟩:=h;have K:=Maps.string_keyed hk;have hkey:=keyOf_string_mk hk hn;rcases K.find w hkey es.toList (zns hk h1) with ⟨g1,g2⟩ | ⟨j,e0,g1,g2,g3⟩
 · have:f n=none:=by
    cases hf:f n with
    | none=>rfl
    | some v =>
      obtain ⟨e1,he1,hek,_⟩:=h2 n v hf;exact absurd hek (g2 e1 he1)
   simp [Instr.lookup,run_underlying ht,MapKept.run_getObj_map hb,K.check w _ hkey,g1,hz,Result.andThen,this]
 obtain ⟨m,hm,_,hfm⟩:=h1 e0 (List.mem_of_getElem? g2)
 rw [g3] at hm;cases hm;simp [Instr.lookup,run_underlying ht,MapKept.run_getObj_map hb,K.check w _ hkey,g1,Result.andThen,hfm]
theorem MapS.store (h:MapS w b f) (ht:P.underlying t=some (.map k e)) (hk:P.underlying k=some .string) {n:ByteArray} (hn:n.size<=maxLen) (v:Value) :
 ∃ w',(Instr.mapUpdate t (.map (some b)) (.string n) v).run P w = .ok () w'/\MapS w' b (fun m=>if m=n then some v else f m)/\Fr (fun x=>x=b) w w'/\w'.heap.size=w.heap.size:=by
 obtain ⟨es,clock,hb,hst,h1,h2⟩:=h;have K:=Maps.string_keyed hk;have hkey:=keyOf_string_mk hk hn;have hfr:∀ o,Fr (fun x=>x=b) w (setBlock w b o):=fun o=>⟨rfl,rfl,rfl,by simp [setBlock],fun i _ hi=>heap_setBlock_other hb _ hi⟩;rcases K.find w hkey es.toList (zns hk h1) with ⟨g1,g2⟩ | ⟨j,e0,g1,g2,g3⟩
 · refine ⟨setBlock w b (.map (es.push ⟨.string n,v,clock⟩) (clock+1)),?_,⟨_,_,heap_setBlock_same hb _,MapKept.stamped_push hst g2,?_,?_⟩,hfr _,by simp [setBlock]⟩
   · simp [Instr.mapUpdate,run_underlying ht,MapKept.run_getObj_map hb,K.check w false hkey,g1,MapKept.run_setObj_map _ hb,Result.andThen,setBlock]
   · intro x hx
     simp only [Array.toList_push,List.mem_append,List.mem_singleton] at hx;rcases hx with hx | rfl
     · obtain ⟨m,e1,e2,e3⟩:=h1 x hx
       refine ⟨m,e1,e2,?_⟩;dsimp only;rw [if_neg (fun e=>g2 x hx (by rw [e1,e]))];exact e3
     exact ⟨n,rfl,hn,by simp⟩
   intro m u hu
   simp only [Array.toList_push,List.mem_append,List.mem_singleton];by_cases hmn:m=n
   · subst hmn
     simp at hu;subst hu;exact ⟨_,.inr rfl,rfl,rfl⟩
   dsimp only at hu
   rw [if_neg hmn] at hu;obtain ⟨x,hx,hx'⟩:=h2 m u hu;exact ⟨x,.inl hx,hx'⟩
 have hj:es[j]? = some e0:=by simpa using g2
 have hjl:j < es.size:=(Array.getElem?_eq_some_iff.1 hj).1;have hkeyf:∀ e',es[j]? = some e'->({ e' with key:=.string n,val:=v }:MapEntry).key=e'.key:=fun e' he'=>by rw [hj] at he';cases he';exact g3.symm
 have hnd:es.toList.Pairwise (fun x y=>x.key≠y.key):=((MapKept.stamped_iff _ _).1 hst).2.2
 have hother:∀ i x,es[i]? = some x->i≠j->x.key ≠ .string n:=by
  intro i x hx hij e1;have hil:=(Array.getElem?_eq_some_iff.1 hx).1;rw [List.pairwise_iff_getElem] at hnd;have ex:es[i] = x:=(Array.getElem?_eq_some_iff.1 hx).2;have e0':es[j] = e0:=(Array.getElem?_eq_some_iff.1 hj).2;rcases Nat.lt_or_gt_of_ne hij with h | h
  · exact hnd i j (by simpa using hil) (by simpa using hjl) h (by simp [ex,e0',e1,g3])
  exact hnd j i (by simpa using hjl) (by simpa using hil) h (by simp [ex,e0',e1,g3])
 refine ⟨setBlock w b (.map (es.modify j (fun e'=>{ e' with key:=.string n,val:=v })) clock),?_,
  ⟨_,_,heap_setBlock_same hb _,MapKept.stamped_modify hst _ _ (fun _ _=>rfl) (fun e' _ he'=>hkeyf e' he'),?_,?_⟩,hfr _,by simp [setBlock]⟩
 · simp [Instr.mapUpdate,run_underlying ht,MapKept.run_getObj_map hb,K.check w false hkey,g1,hj,g3,K.stays w hkey,MapKept.run_setObj_map _ hb,Result.andThen,setBlock]
 · intro x hx
   obtain ⟨i,hi⟩:=List.getElem?_of_mem hx;have hi':(es.modify j (fun e'=>{ e' with key:=.string n,val:=v }))[i]? = some x:=(by rw [Array.getElem?_toList] at hi;exact hi);rw [Array.getElem?_modify] at hi';by_cases hji:j=i
   · rw [if_pos hji] at hi'
     obtain ⟨y,hy,rfl⟩:=Option.map_eq_some_iff.1 hi';exact ⟨n,rfl,hn,by simp⟩
   rw [if_neg hji] at hi'
   obtain ⟨m,e1,e2,e3⟩:=h1 x (List.mem_of_getElem? (by simpa using hi'));refine ⟨m,e1,e2,?_⟩;dsimp only;rw [if_neg (fun e=>hother i x hi' (fun e'=>hji e'.symm) (by rw [e1,e]))];exact e3
 intro m u hu
 by_cases hmn:m=n
 · subst hmn
   simp at hu;subst hu;refine ⟨{ e0 with key:=.string m,val:=v },?_,rfl,rfl⟩;refine List.mem_of_getElem? (i:=j) ?_;have:(es.modify j (fun e'=>{ e' with key:=.string m,val:=v }))[j]? = some { e0 with key:=.string m,val:=v }:=(by rw [Array.getElem?_modify,if_pos rfl,hj];rfl);rw [Array.getElem?_toList];exact this
 dsimp only at hu
 rw [if_neg hmn] at hu;obtain ⟨x,hx,hx1,hx2⟩:=h2 m u hu;obtain ⟨i,hi⟩:=List.getElem?_of_mem hx;have hi':es[i]? = some x:=(by simpa using hi)
 have hij:j≠i:=by
  rintro rfl;rw [hj] at hi';cases hi';rw [g3] at hx1;cases hx1;exact hmn rfl
 refine ⟨x,List.mem_of_getElem? (i:=i) ?_,hx1,hx2⟩;have:(es.modify j (fun e'=>{ e' with key:=.string n,val:=v }))[i]? = some x:=(by rw [Array.getElem?_modify,if_neg hij];exact hi');rw [Array.getElem?_toList];exact this
end
theorem zjd {P:Program} {w:World} {ops:Array Oper} {rest:List Oper} {o:Oper} {a:Act} {Q:Exit->Act->World->Prop} (hg:o.guard=none) (m x v:Operand) (t:TypeId) (hop:o.op=Op.mapUpdate t m x v)
 (k e:TypeId) (ht:P.underlying t=some (.map k e)) (hk:P.underlying k=some .string) (b:Nat) (f:ByteArray->Option Value) (hm:a.eval m = .map (some b)) (h:MapS w b f) (n:ByteArray) (hx:a.eval x = .string n)
 (hn:n.size<=maxLen) (u:Value) (hv:a.eval v=u)
 (hK:∀ w',MapS w' b (fun m=>if m=n then some u else f m)->Fr (fun x=>x=b) w w'->w'.heap.size=w.heap.size->wpList P ops Q rest (a.put o.dst undef) w'):wpList P ops Q (o :: rest) a w:=by
 refine wpList_plain hg fun K' hK'=>?_;obtain ⟨w',hrun,r1,r2,r3⟩:=h.store ht hk hn u;unfold Oper.wp;simp [execOp,hop,hm,hx,hv,hrun,Result.andThen];exact hK' _ _ (hK w' r1 r2 r3)
structure KeysOk (D:Doc):Prop where
 kvs:∀ k∈D.kvs,keyE k.key=0
 evs:∀ e∈D.events,keyE e.kv.key=0
theorem KeysOk.at {D:Doc} (h:KeysOk D) (hs:KSorted D.kvs) {r:Int} {y:Kv} (hy:y∈D.at r):keyE y.key=0:=by
 rcases Doc.mem_at hs hy with h1 | ⟨e,h1,_,rfl⟩
 · exact h.kvs y h1
 exact h.evs e h1
theorem KeysOk.cut {D:Doc} (h:KeysOk D) (hs:KSorted D.kvs) (R:Int):KeysOk (D.cut R) :=
 ⟨fun _k hk=>h.at hs hk,fun e he=>h.evs e (List.mem_filter.1 he).1⟩
theorem KeysOk.adds {D:Doc} (h:KeysOk D) {E:List Ev} (hE:∀ e∈E,keyE e.kv.key=0):KeysOk (D.adds E):=by
 obtain ⟨a,b,c⟩:=Doc.adds_parts D E;refine ⟨by rw [b];exact h.kvs,fun e he=>?_⟩;rw [c] at he;rcases List.mem_append.1 he with he | he
 · exact h.evs e he
 exact hE e he
theorem zsc {o:Opr} (h:oneE o=0) (hk:o.kind=1):keyE o.rg.key=0:=by
 unfold oneE at h;rw [if_neg (by rw [hk];decide),if_neg (by rw [hk];decide),if_pos hk] at h
 split at h
 · rename_i hn;exact absurd h hn
 rename_i hn;exact Classical.not_not.1 hn
theorem RunOk.ks {c n:Nat} {D:Doc} {P:List Opr} {S:St} {E:List Ev} (h:RunOk c n D P S E):KSorted D.kvs:=by
 have:=h.cpl.ks
 rwa [(Doc.adds_parts D E).2.1] at this
theorem zqu {c n:Nat} {D:Doc} {P:List Opr} {r:Run} (h:RunOk c n D P r.S r.E) (hD:KeysOk D) (hmk:D.mark<=D.rev) (o:Opr) (ho:oneE o=0) (hE:∀ e∈r.E,keyE e.kv.key=0) :
 ∀ e∈(stepR (D.rev+1) r o).E,keyE e.kv.key=0:=by
 have hks:=h.ks;unfold stepR;by_cases h1:o.kind=1
 · rw [if_pos h1]
   intro e he;rcases List.mem_append.1 he with he | he
   · exact hE e he
   rw [List.mem_singleton.1 he]
   exact zsc ho h1
 rw [if_neg h1]
 by_cases h2:o.kind=2
 · rw [if_pos h2]
   intro e he;dsimp only at he;rw [zmj] at he;rcases List.mem_append.1 he with he | he
   · exact hE e he
   obtain ⟨x,hx,rfl⟩:=List.mem_map.1 he
   rw [h.between hmk] at hx;exact KeysOk.at (y:=x) (hD.adds hE) (by rw [(Doc.adds_parts D r.E).2.1];exact hks) (List.mem_filter.1 hx).1
 rw [if_neg h2]
 split <;> exact hE
theorem Good.keys_does {k:Nat} {S:St} {D:Doc} (h:Good k S D) (hk:k<=70) {q:CalQ} (hq:fewCal q=true) (hD:KeysOk D):KeysOk (doD S D q):=by
 obtain ⟨f1,f2,f3,f4,f5⟩:=zdz hq;have hm0:=h.cpl.m0;unfold doD;by_cases h4:kindN q.1.kind=4
 · rw [if_pos h4];exact hD
 rw [if_neg h4]
 by_cases h5:kindN q.1.kind=5
 · rw [if_pos h5]
   split
   · exact hD.cut h.cpl.ks _
   exact hD
 rw [if_neg h5]
 by_cases h6:kindN q.1.kind=6
 · rw [if_pos h6];exact hD
 rw [if_neg h6]
 by_cases h7:kindN q.1.kind=7
 · rw [if_pos h7]
   refine hD.adds ?_
   have key:∀ i≤ q.2.2.length,∀ e∈(dropTo (D.rev+1) S q.2.2 i).2,keyE e.kv.key=0:=by
    intro i
    induction i with
    | zero=>intro _ e he;simp [dropTo] at he
    | succ i ih =>
      intro hi;obtain ⟨x,hx⟩:∃ x,q.2.2[i]? = some x:=⟨_,List.getElem?_eq_getElem (by omega)⟩;obtain ⟨a,_⟩:=h.drops hk q.2.2 f3 i (by omega);have ih':=ih (by omega);rw [zeu _ _ _ hx];unfold dropR
      split
      · rename_i hlv
        intro e he;rcases List.mem_append.1 he with he | he
        · exact ih' e he
        rw [List.mem_singleton.1 he]
        show keyE x=0
        have hl:=a.cpl.lives x (D.rev+1) (by rw [(Doc.adds_parts D _).1];omega)
        cases hh:hasL ((D.adds (dropTo (D.rev+1) S q.2.2 i).2).at (D.rev+1)) x with
        | none=>rw [hl,hh] at hlv;cases hlv
        | some y =>
          have hks:KSorted (D.adds (dropTo (D.rev+1) S q.2.2 i).2).kvs:=(by rw [(Doc.adds_parts D _).2.1];exact h.cpl.ks);obtain ⟨y1,y2⟩:=(zbd (Doc.at_sorted hks _) x y).1 hh;rw [<-y2];exact (hD.adds ih').at hks y1
      exact ih'
   have:=key q.2.2.length (Nat.le_refl _);have he:dropTo (D.rev+1) S q.2.2 q.2.2.length=q.2.2.foldl (dropR (D.rev+1)) (S,[]):=(by unfold dropTo;rw [List.take_length]);rw [he] at this;exact this
 rw [if_neg h7]
 by_cases ha:applyE S q.2.1=0
 · rw [if_pos ha]
   refine hD.adds ?_;obtain ⟨_,hone,_⟩:=zcp (zbp ha).1
   have key:∀ i≤ q.2.1.length,∀ e∈(runR (D.rev+1) ⟨S,[],[]⟩ (q.2.1.take i)).E,keyE e.kv.key=0:=by
    intro i
    induction i with
    | zero=>intro _ e he;simp [runR] at he
    | succ i ih =>
      intro hi;obtain ⟨o,ho⟩:∃ o,q.2.1[i]? = some o:=⟨_,List.getElem?_eq_getElem (by omega)⟩;obtain ⟨⟨a,_⟩,_⟩:=h.runs hk (zbp ha).1 (fun o ho=>by have:=(f1 o ho).1;omega) i (by omega);rw [zhd _ _ _ ho];exact zqu a hD hm0.2 o (hone o (List.mem_of_getElem? ho)) (ih (by omega))
   have:=key q.2.1.length (Nat.le_refl _);rw [List.take_length] at this;exact this
 rw [if_neg ha];exact hD
theorem zcz {l:List CalQ} (h:zbo l=true):∀ i≤ l.length,KeysOk (donesT l i).2:=by
 obtain ⟨h1,h2⟩:=zav h;have hg:=zbf h;intro i
 induction i with
 | zero=>intro _;exact ⟨fun k hk=>by simp [donesT,newD] at hk,fun e he=>by simp [donesT,newD] at he⟩
 | succ i ih =>
   intro hi;obtain ⟨q,hq⟩:∃ q,l[i]? = some q:=⟨_,List.getElem?_eq_getElem (by omega)⟩;rw [zcn l hq];exact (hg i (by omega)).keys_does (by omega) (h2 q (List.mem_of_getElem? hq)) (ih (by omega))
theorem zdw {k:ByteArray} (h:keyE k=0):inB k ⟨#[1]⟩ ⟨#[0]⟩=true/\k.size<=64:=by
 have hk:¬ (runes k < 1\/0<=firstIdx k 0)/\¬ 64 < k.size:=by
  unfold keyE at h
  split at h
  · cases h
  rename_i h1
  split at h
  · cases h
  rename_i h2;exact ⟨h1,h2⟩
 refine ⟨?_,by omega⟩
 have hz:k.data.toList.any (· == 0)=false:=by
  rw [<-Go.firstIdx_nonneg];simp only [decide_eq_false_iff_not];exact fun h=>hk.1 (.inr h)
 have hr:¬ runes k < 1:=fun h=>hk.1 (.inl h)
 have hlt:klt k ⟨#[1]⟩=false:=by
  rw [Bool.eq_false_iff];intro hlt;have h1:=zct.1 hlt
  cases hl:k.data.toList with
  | nil =>
    refine hr ?_
    have:k.size=0:=by
     have:=congrArg List.length hl;simpa using this
    unfold runes;rw [this]
    show (0:Int) < 1
    decide
  | cons a t =>
    rw [hl] at h1 hz;simp only [List.any_cons,Bool.or_eq_false_iff,beq_eq_false_iff_ne] at hz;have h2:a :: t < [1]:=h1;rw [List.cons_lt_cons_iff] at h2;rcases h2 with h2 | ⟨_,h2⟩
    · refine hz.1 ?_
      rw [UInt8.lt_iff_toNat_lt] at h2
      have h3:a.toNat=0:=by
       have:(1:UInt8).toNat=1:=rfl;omega
      exact UInt8.toNat_inj.1 h3
    exact absurd h2 (List.not_lt_nil _)
 unfold inB;rw [if_neg (by rw [Lib.toList_data];simp),if_pos (by rw [Lib.toList_data];rfl)];have:Op.bytesLess k.toList (⟨#[1]⟩:ByteArray).toList=klt k ⟨#[1]⟩:=rfl;rw [this,hlt]
 rfl
theorem zkf {k:Nat} {S:St} {D:Doc} (h:Good k S D):zah S S.T S.mark=D.kvs:=by
 have hm:=h.cpl.mark;have h1:=h.cpl.between h.srt ⟨#[]⟩ ⟨#[]⟩ (r:=D.mark) (Int.le_refl _);rw [zfn] at h1;rw [hm,h1]
 have h2:(D.at D.mark).filter (fun y=>rgB ⟨#[]⟩ ⟨#[]⟩ y.key)=D.at D.mark:=by
  rw [List.filter_eq_self];intro y _;unfold rgB;rw [zhr];simp [Lib.toList_data]
 rw [h2]
 unfold Doc.at;have:(D.events.filter fun e=>decide (D.mark < e.kv.mod) && decide (e.kv.mod<=D.mark)) = []:=List.filter_eq_nil_iff.2 fun e _=>by simp <;> omega
 rw [this]
 rfl
def revAt (D:Doc) (i:Nat):Int:=if i=0 then max D.mark 1 - 1 else match D.events[i - 1]? with
 | some p=>p.kv.mod
 | none=>0
def foldTo (D:Doc) (i:Nat):List Kv:=((D.events.take i).filter fun y=>decide (D.mark < y.kv.mod)).foldl doneL D.kvs
theorem zbz {l:List Ev} (h:ESorted l) {i j:Nat} {a b:Ev} (hi:l[i]? = some a) (hj:l[j]? = some b) (hij:i<=j):a.kv.mod<=b.kv.mod:=by
 obtain ⟨i1,i2⟩:=List.getElem?_eq_some_iff.1 hi;obtain ⟨j1,j2⟩:=List.getElem?_eq_some_iff.1 hj;rcases Nat.lt_or_eq_of_le hij with e | e
 · have:=List.pairwise_iff_getElem.1 h i j i1 j1 e
   rw [i2,j2] at this;exact this
 subst e
 rw [i2] at j2;rw [j2];exact Int.le_refl _
theorem DocOk.chain {n:Nat} {D:Doc} (h:DocOk n D) (hm0:0<=D.mark) {i:Nat} {e:Ev} (he:D.events[i]? = some e):e.kv.mod=revAt D i\/e.kv.mod=revAt D i+1:=by
 have hlo:=h.lo e (List.mem_of_getElem? he);unfold revAt;by_cases hi:i=0
 · rw [if_pos hi]
   subst hi
   right
   have hge:max D.mark 1<=e.kv.mod:=(by omega);rcases Int.lt_or_le (max D.mark 1) e.kv.mod with hlt | hle
   · exfalso
     obtain ⟨y,hy,hy2⟩:=h.full (max D.mark 1) (by omega) (by omega) (by omega);obtain ⟨j,hj⟩:=List.mem_iff_getElem?.1 hy;have:=zbz h.es he hj (Nat.zero_le _);omega
   omega
 rw [if_neg hi]
 have hil:=(List.getElem?_eq_some_iff.1 he).1;obtain ⟨p,hp⟩:∃ p,D.events[i - 1]? = some p:=⟨_,List.getElem?_eq_getElem (by omega)⟩;rw [hp];dsimp only;have hplo:=h.lo p (List.mem_of_getElem? hp);have hpe:=zbz h.es hp he (by omega);rcases Int.lt_or_le (p.kv.mod+1) e.kv.mod with hlt | hle
 · exfalso
   obtain ⟨y,hy,hy2⟩:=h.full (p.kv.mod+1) (by omega) (by omega) (by omega);obtain ⟨j,hj⟩:=List.mem_iff_getElem?.1 hy;rcases Nat.lt_or_ge j i with e1 | e1
   · have:=zbz h.es hj hp (by omega);omega
   have:=zbz h.es he hj e1;omega
 omega
theorem zci {D:Doc} {i:Nat} {e:Ev} (he:D.events[i]? = some e):revAt D (i+1)=e.kv.mod:=by
 unfold revAt;rw [if_neg (by omega),Nat.add_sub_cancel,he]
theorem DocOk.revAt_last {n:Nat} {D:Doc} (h:DocOk n D) (hm0:0<=D.mark) (hm1:D.mark<=D.rev):revAt D D.events.length=D.rev:=by
 rcases Nat.eq_zero_or_pos D.events.length with h0 | h0
 · have hr:D.rev=0:=by
    rcases Int.lt_or_le D.rev 1 with h1 | h1
    · omega
    obtain ⟨y,hy,_⟩:=h.full D.rev h1 hm1 (Int.le_refl _)
    rw [List.eq_nil_of_length_eq_zero h0] at hy;cases hy
   unfold revAt;rw [if_pos h0];omega
 obtain ⟨e,he⟩:∃ e,D.events[D.events.length - 1]? = some e:=⟨_,List.getElem?_eq_getElem (by omega)⟩
 have h1:=zci he;rw [Nat.sub_add_cancel (by omega)] at h1;rw [h1];have hlo:=h.lo e (List.mem_of_getElem? he);obtain ⟨y,hy,hy2⟩:=h.full D.rev (by omega) hm1 (Int.le_refl _);obtain ⟨j,hj⟩:=List.mem_iff_getElem?.1 hy;have hjl:=(List.getElem?_eq_some_iff.1 hj).1;have:=zbz h.es hj he (by omega);omega
theorem zmm {D:Doc} {i:Nat} {e:Ev} (he:D.events[i]? = some e) (hm:¬ D.mark < e.kv.mod):foldTo D (i+1)=foldTo D i:=by
 unfold foldTo;rw [List.take_add_one,he,List.filter_append];simp [hm]
theorem DocOk.prev_at {n:Nat} {D:Doc} (h:DocOk n D) {i:Nat} {e:Ev} (he:D.events[i]? = some e) (hm:D.mark < e.kv.mod):e.prev=(hasL (foldTo D i) e.kv.key).getD kv0:=by
 obtain ⟨hi,hv⟩:=List.getElem?_eq_some_iff.1 he;refine h.prev (D.events.take i) e (D.events.drop (i+1)) ?_ hm;have:=List.take_append_drop i D.events;rw [List.drop_eq_getElem_cons hi,hv] at this;exact this.symm
theorem DocOk.uniq_at {n:Nat} {D:Doc} (h:DocOk n D) {i j:Nat} {a b:Ev} (hi:D.events[i]? = some a) (hj:D.events[j]? = some b) (hij:i < j) (he:a.kv.mod=b.kv.mod):a.kv.key≠b.kv.key:=by
 obtain ⟨i1,i2⟩:=List.getElem?_eq_some_iff.1 hi;obtain ⟨j1,j2⟩:=List.getElem?_eq_some_iff.1 hj;have:=List.pairwise_iff_getElem.1 h.uniq i j i1 j1 hij;rw [i2,j2] at this;exact this he
end Go.Proofs.Ythljnnjpmdgkoaa