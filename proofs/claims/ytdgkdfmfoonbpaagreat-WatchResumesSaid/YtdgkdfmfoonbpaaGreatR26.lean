/- Own lemmas. -/
import Derived.Test.YtdgkdfmfoonbpaaGreatR22
import Derived.Test.YtdgkdfmfoonbpaaGreatR23
import Derived.Test.YtdgkdfmfoonbpaaGreatR24
import Derived.Test.YtdgkdfmfoonbpaaGreatR25
import Derived.Test.YtdgkdfmfoonbpaaGreatR17
import Derived.Test.YtdgkdfmfoonbpaaGreatR18
import Derived.Test.YtdgkdfmfoonbpaaGreatR09
import Derived.Test.YtdgkdfmfoonbpaaGreatR16
import Derived.Test.YtdgkdfmfoonbpaaGreatR00
namespace Go.Proofs.YtdgkdfmfoonbpaaGreat
open Go Go.Proofs Go.RowKit
set_option maxRecDepth 100000
abbrev CalQ:=Cal×List Opr×List ByteArray
def doE (S:St) (q:CalQ):Int :=
 if kindN q.1.kind=4 then rangeE S q.1.rg else if kindN q.1.kind=5 then zbg S q.1.rev else if kindN q.1.kind=6 then zez S q.1.rev q.1.upto else if kindN q.1.kind=7 then 0 else applyE S q.2.1
def doT (S:St) (q:CalQ):St :=
 if kindN q.1.kind=4 then S else if kindN q.1.kind=5 then (if zbg S q.1.rev=0 then compS q.1.rev S else S) else if kindN q.1.kind=6 then S else if kindN q.1.kind=7 then dropS S q.2.2
 else if applyE S q.2.1=0 then applyS S q.2.1 else S
def doD (S:St) (D:Doc) (q:CalQ):Doc :=
 if kindN q.1.kind=4 then D else if kindN q.1.kind=5 then (if zbg S q.1.rev=0 then D.cut q.1.rev else D) else if kindN q.1.kind=6 then D else if kindN q.1.kind=7 then dropD S D q.2.2
 else if applyE S q.2.1=0 then applyD S D q.2.1 else D
theorem zbu {S:St} {ops:List Opr} (h:applyE S ops=0):checkE ops=0/\zcz S ops=0:=by
 unfold applyE at h
 split at h
 · rename_i hc;exact absurd h hc
 rename_i hc;exact ⟨by simpa using hc,h⟩
theorem zei {S:St} {rev:Int} (h:zbg S rev=0):rev<=S.rev/\S.mark<rev:=by
 unfold zbg at h
 split at h
 · cases h
 split at h
 · cases h
 omega
theorem zgd {q:CalQ} (h:fewCal q=true):(∀ o∈q.2.1,o.rg.key.size<=3000/\o.rg.end_.size<=3000/\o.value.size<=3000)/\q.2.1.length<=30/\q.2.2.length<=30/\q.1.rg.key.size<=3000/\q.1.rg.end_.size<=3000:=by
 unfold fewCal fewKey at h;simp only [Bool.and_eq_true,decide_eq_true_eq] at h;obtain ⟨⟨⟨⟨a,b⟩,c⟩,d⟩,e⟩:=h;unfold fewOps at a;simp only [Bool.and_eq_true,decide_eq_true_eq,List.all_eq_true] at a;refine ⟨fun o ho=>?_,a.1,b,c,d⟩;have:=a.2 o ho;unfold fewOp at this;simp only [Bool.and_eq_true,decide_eq_true_eq] at this;omega
theorem Good.does {k:Nat} {S:St} {D:Doc} (h:Good k S D) (hk:k<=200) {q:CalQ} (hq:fewCal q=true):Good (k+1) (doT S q) (doD S D q):=by
 obtain ⟨c,e,d,f,g⟩:=zgd hq;unfold doT doD;by_cases h4:kindN q.1.kind=4
 · rw [if_pos h4,if_pos h4];exact h.mono (by omega)
 rw [if_neg h4,if_neg h4]
 by_cases h5:kindN q.1.kind=5
 · rw [if_pos h5,if_pos h5]
   by_cases hc:zbg S q.1.rev=0
   · rw [if_pos hc,if_pos hc]
     obtain ⟨a,b⟩:=zei hc;rw [h.rev] at a;rw [h.cpl.mark] at b;exact (h.cut (by omega) b a).mono (by omega)
   rw [if_neg hc,if_neg hc];exact h.mono (by omega)
 rw [if_neg h5,if_neg h5]
 by_cases h6:kindN q.1.kind=6
 · rw [if_pos h6,if_pos h6];exact h.mono (by omega)
 rw [if_neg h6,if_neg h6]
 by_cases h7:kindN q.1.kind=7
 · rw [if_pos h7,if_pos h7]
   exact h.drop hk q.2.2 d
 rw [if_neg h7,if_neg h7]
 by_cases ha:applyE S q.2.1=0
 · rw [if_pos ha,if_pos ha]
   exact h.apply hk (zbu ha).1 fun o ho=>by have:=(c o ho).1;omega
 rw [if_neg ha,if_neg ha];exact h.mono (by omega)
theorem Good.compG {k:Nat} {S:St} {D:Doc} (h:Good k S D) (hk:k<=20000) {R:Int} (h1:S.mark<R) (h2:R<=S.rev):CompGk S R:=by
 have d:=h.cpl.m0;have f:=h.rev;rw [h.cpl.mark] at h1;rw [f] at h2;refine ⟨by omega,by rw [h.cpl.mark];exact h1,h.events_pos (by omega),zsz h.cpl.inv h.srt,h.srt,fun p hp H hH=>?_⟩;have e:=(h.ok.hist _ _ hH).1;have c:=h.more _ _ hH;refine ⟨(e.comp c (by omega) R).fits (by omega),?_⟩;obtain ⟨l,a,b⟩:=c.fin;exact ⟨l,by omega,b⟩
theorem zoj {TA:zai} (hT:TreeOk TA 1000000) {k:Nat} {S:St} {D:Doc} (h:Good k S D) (hk:k<=200) (w:World) (s:Nat) (F:Nat->Prop) (hS:zal TA w s S F) (v:Value) (keys:List ByteArray) (hv:SlR w 1 strC v keys)
 (hvF:0<keys.length->∀ b,v.ownBlock=some b->¬ F b) (hl:keys.length<=30) :
 Calls Tryz.prog 55 #[.pointer (some ⟨s,0,none⟩),v] w fun e w'=>∃ ev,e=.returned (.tuple #[ev,.int .i64 0])/\∃ F',zal TA w' s (dropS S keys) F' ∧
  SlF w' 72 13 evC ev (keys.foldl (dropR (S.rev+1)) (S,[])).2/\Fr F w w'/\(∀ b,F' b->F b\/w.heap.size<=b)/\(∀ b,ev.ownBlock=some b->w.heap.size<=b/\¬ F' b):=by
 have g:=h.rev;have j:=h.rev1;have f:=h.cpl.m0;refine zrh hT (n:=52000 * k+30) (by omega) w s S F hS v keys hv hvF (by omega) (by unfold top;omega) (by unfold top;omega) fun i x hx=>?_;have d:=(List.getElem?_eq_some_iff.1 hx).1;obtain ⟨a,b⟩:=h.drops hk keys hl i (by omega);rw [g];refine ⟨a.ok.mono (by omega),?_,b x hx⟩;have c:=a.ok.ev;rw [a.cpl.events,(Doc.adds_parts D _).2.2,List.length_append] at c;omega
theorem zhe {TA:zai} (hT:TreeOk TA 1000000) {k:Nat} {S:St} {D:Doc} (h:Good k S D) (hk:k<=200) (w:World) (s:Nat) (F:Nat->Prop) (hS:zal TA w s S F) (v:Value) (ops:List Opr) (hv:SlR w 10 opC v ops)
 (hvF:0<ops.length->∀ b,v.ownBlock=some b->¬ F b) (hl:ops.length<=30) (hks:∀ o∈ops,o.rg.key.size<=3000) :
 Calls Tryz.prog 56 #[.pointer (some ⟨s,0,none⟩),v] w fun e w'=>∃ av ev,e=.returned (.tuple #[av,ev,.int .i64 (applyE S ops)])/\∃ F' Z,zal TA w' s (if applyE S ops=0 then applyS S ops else S) F'/\AnsR w' av Z ∧
  Z.map (·.1)=(if applyE S ops=0 then (runR (S.rev+1) ⟨S,[],[]⟩ ops).A else [])/\SlF w' 72 13 evC ev (if applyE S ops=0 then (runR (S.rev+1) ⟨S,[],[]⟩ ops).E else [])/\Fr F w w'/\(∀ b,F' b->F b\/w.heap.size<=b):=by
 have t:=h.rev;have u:=h.rev1;have r:=h.cpl.m0;by_cases he:applyE S ops=0
 · obtain ⟨j,m⟩:=zbu he
   simp only [if_pos he];rw [he];refine (ztn hT (n:=52000 * k+52000) (by omega) w s S F hS v ops hv hvF (by omega) (fun o ho=>by have:=hks o ho;omega) (by unfold top;omega) (by unfold top;omega) j m fun i o ho=>?_).mono ?_
   · have q:=(List.getElem?_eq_some_iff.1 ho).1
     rw [t];exact (h.runs hk j (fun o ho=>by have:=hks o ho;omega) i (by omega)).2 o ho
   rintro e w' ⟨av,ev,rfl,F',Z,a,b,c,d,f,g,_⟩
   exact ⟨av,ev,rfl,F',Z,a,b,c,d,f,g⟩
 simp only [if_neg he]
 refine (ztm hT w s S F hS v ops hv (by omega) (fun o ho=>by have:=hks o ho;omega) he).mono ?_;rintro e w' ⟨rfl,l⟩;exact ⟨_,_,rfl,F,[],hS.fr0 hT l,AnsR.nil _,rfl,SlF.nil _ _ _ _,l.mono fun _ _ h=>h.elim,fun b h=>.inl h⟩
theorem zjg {TA:zai} (hT:TreeOk TA 1000000) (hTD:TreeDl TA) {k:Nat} {S:St} {D:Doc} (h:Good k S D) (hk:k<=200) (w:World) (s:Nat) (F:Nat->Prop) (hS:zal TA w s S F) (rev:Int) :
 Calls Tryz.prog 54 #[.pointer (some ⟨s,0,none⟩),.int .i64 rev] w fun e w'=>e=.returned (.int .i64 (zbg S rev))/\∃ F',zal TA w' s (if zbg S rev=0 then compS rev S else S) F'/\Fr F w w'/\(∀ b,F' b->F b\/w.heap.size<=b):=by
 by_cases he:zbg S rev=0
 · obtain ⟨c,d⟩:=zei he
   rw [if_pos he,he];exact zjh hT hTD (n:=52000 * k) (by omega) w s S F hS h.ok (by have:=h.size;omega) rev (h.compG (by omega) d c)
 rw [if_neg he]
 refine (zok w s S F hS rev he).mono ?_;rintro e w' ⟨rfl,a⟩;exact ⟨rfl,F,hS.fr0 hT a,a.mono fun _ _ h=>h.elim,fun b h=>.inl h⟩
theorem zmq {TA:zai} (hT:TreeOk TA 1000000) {k:Nat} {S:St} {D:Doc} (h:Good k S D) (hk:k<=200) (w:World) (s:Nat) (F:Nat->Prop) (hS:zal TA w s S F) (g:Rg) (hks:g.key.size<=3000) :
 Calls Tryz.prog 53 #[.pointer (some ⟨s,0,none⟩),rgV g] w fun e w'=>∃ v,e=.returned (.tuple #[v,.int .i64 (if rangeE S g=0 then ((allL S g S.rev).length:Int) else 0),.bool (decide (rangeE S g=0)&&moreB S g S.rev),.int .i64 (rangeE S g)]) ∧
  SlF w' 70 6 kvC v (if rangeE S g=0 then getL S g S.rev else [])/\Fr No w w'/\(∀ b,v.ownBlock=some b->w.heap.size<=b):=by
 by_cases he:rangeE S g=0
 · simp only [he,decide_true,Bool.true_and]
   exact zjf hT (n:=52000 * k) (by omega) w s S F hS h.ok (by have:=h.size;omega) g (by omega) he
 simp only [he,decide_false,Bool.false_and]
 refine (ztt hT w s S F hS g (by omega) he).mono ?_;rintro e w' ⟨rfl,a⟩;exact ⟨_,rfl,SlF.nil _ _ _ _,a,fun b hb=>by simp [Value.ownBlock] at hb⟩
set_option maxHeartbeats 8000000 in
theorem zvr {TA:zai} (hT:TreeOk TA 1000000) (hTD:TreeDl TA) {k:Nat} {S:St} {D:Doc} (h:Good k S D) (hk:k<=200) (w:World) (s:Nat) (F:Nat->Prop) (hS:zal TA w s S F) (q:CalQ) (hq:fewCal q=true)
 (ha:SlR w 10 opC q.1.ops q.2.1) (hb:SlR w 1 strC q.1.keys q.2.2) (haF:0<q.2.1.length->∀ b,q.1.ops.ownBlock=some b->¬ F b) (hbF:0<q.2.2.length->∀ b,q.1.keys.ownBlock=some b->¬ F b) :
 Calls Tryz.prog 27 #[.pointer (some ⟨s,0,none⟩),.agg (calC q).toArray] w fun e w'=>e=.returned (.int .i64 (doE S q))/\∃ F',zal TA w' s (doT S q) F'/\Fr F w w'/\(∀ b,F' b->F b\/w.heap.size<=b):=by
 obtain ⟨f1,f2,f3,f4,f5⟩:=zgd hq;have a3:=fun W=>zrf W q;have aF:=zea q.1.kind;have T:=fun W (h1:Fr No w W)=>zmq hT h hk W s F (hS.fr0 hT h1) q.1.rg f4;have Y:=fun W (h1:Fr No w W)=>zjg hT hTD h hk W s F (hS.fr0 hT h1) q.1.rev;have X:=fun W (h1:Fr No w W)=>zcy hT W s S F (hS.fr0 hT h1) (by have:=h.ok.ev;omega) (fun h1=>h.events_pos (by rw [<-h.rev];exact h1)) q.1.rev q.1.upto;have V:=fun W (h1:Fr No w W)=>zoj hT h hk W s F (hS.fr0 hT h1) q.1.keys q.2.2 (hb.fr0 h1) hbF f3;have U:=fun W (h1:Fr No w W)=>zhe hT h hk W s F (hS.fr0 hT h1) q.1.ops q.2.1 (ha.fr0 h1) haF f2 fun o ho=>(f1 o ho).1;obtain ⟨R,g,ao,_,_,_⟩:=ha.shape;obtain ⟨Q,d,an,_,_,_⟩:=hb.shape;have a2:=fun W (h1:Fr No w W)=>hS.fr0 hT h1;unfold doE doT;clear ha hb haF hbF hq f1 f2 f3 f4 f5 h hk hS hTD
 obtain ⟨⟨p1,p2,⟨y,z,B,C,G,H,I⟩,J,N,p5⟩,i,f⟩:=q;dsimp only at *;subst ao an;unfold calC rgC rgV at *;dsimp only at *;generalize kindN p1=M at *;generalize rangeE S _=O at *;generalize zbg S _=am at *;generalize zez S _ _=al at *;generalize applyE S _=P at *;generalize (if O=0 then ((allL S ⟨y,z,B,C,G,H,I⟩ S.rev).length:Int) else 0)=aI at *;generalize (decide (O=0)&&moreB S ⟨y,z,B,C,G,H,I⟩ S.rev)=az at *;generalize (if O=0 then getL S ⟨y,z,B,C,G,H,I⟩ S.rev else [])=aG at *;generalize (if am=0 then compS J S else S)=aK at *;generalize (if al=0 then S.events.filter (insB J N) else [])=aH at *;generalize (if P=0 then applyS S i else S)=aJ at *;generalize (if P=0 then (runR (S.rev+1) ⟨S,[],[]⟩ i).A else [])=ay at *
 generalize (if P=0 then (runR (S.rev+1) ⟨S,[],[]⟩ i).E else [])=aq at *;have m:=H_ a3;have ag:=H_ T;have ak:=H_ Y;have aj:=H_ X;have ai:=H_ V;have ah:=H_ U;have a1:=H_ a2;clear a3 T Y X V U a2;have r:Fr No w (w.alloc (Obj.cells #[.int .i64 p1,.slice R i.length g,.string y,.string z,.int .i64 B,.int .i64 C,.bool G,.bool H,.bool I,.int .i64 J,.int .i64 N,.slice Q f.length d] 27)):=(Fr.refl No w).alloc _;have n:=zae w (Obj.cells #[.int .i64 p1,.slice R i.length g,.string y,.string z,.int .i64 B,.int .i64 C,.bool G,.bool H,.bool I,.int .i64 J,.int .i64 N,.slice Q f.length d] 27) _ rfl;by_cases h4:M=4
 · subst h4
   rw [if_pos rfl,if_pos rfl];go_enter Tryz.func27,Tryz.ntmps27
   go_wp2_with (first
   | (go_at_call 52;refine (m.out _).mono ?_;rintro e w1 ⟨rfl,l⟩
      have c:=r.trans0 l;have a:=l.heap n (fun h=>h);have x1:w1.cell? ⟨w.heap.size,1,none⟩=some (.slice R i.length g):=cellAt a 1 rfl;have x2:w1.cell? ⟨w.heap.size,2,none⟩=some (.string y):=cellAt a 2 rfl;have x3:w1.cell? ⟨w.heap.size,3,none⟩=some (.string z):=cellAt a 3 rfl;have x4:w1.cell? ⟨w.heap.size,4,none⟩=some (.int .i64 B):=cellAt a 4 rfl;have x5:w1.cell? ⟨w.heap.size,5,none⟩=some (.int .i64 C):=cellAt a 5 rfl;have x6:w1.cell? ⟨w.heap.size,6,none⟩=some (.bool G):=cellAt a 6 rfl;have x7:w1.cell? ⟨w.heap.size,7,none⟩=some (.bool H):=cellAt a 7 rfl;have x8:w1.cell? ⟨w.heap.size,8,none⟩=some (.bool I):=cellAt a 8 rfl;have x9:w1.cell? ⟨w.heap.size,9,none⟩=some (.int .i64 J):=cellAt a 9 rfl
      have K:w1.cell? ⟨w.heap.size,10,none⟩=some (.int .i64 N):=cellAt a 10 rfl;have L:w1.cell? ⟨w.heap.size,11,none⟩=some (.slice Q f.length d):=cellAt a 11 rfl;have lx:=zac a)
   | (go_at_call 53;refine (ag.out _ c).mono ?_;rintro e w2 ⟨v,rfl,_,j,_⟩))
   go_ret;have t:=c.trans0 j;exact ⟨rfl,F,a1.out _ t,t.mono fun _ _ h=>h.elim,fun b h=>.inl h⟩
 have aB:(M==4)=false:=by simpa using h4
 rw [if_neg h4,if_neg h4];by_cases h5:M=5
 · subst h5
   rw [if_pos rfl,if_pos rfl];go_enter Tryz.func27,Tryz.ntmps27
   go_wp2_with (first
   | (go_at_call 52;refine (m.out _).mono ?_;rintro e w1 ⟨rfl,l⟩
      have c:=r.trans0 l;have a:=l.heap n (fun h=>h);have x1:w1.cell? ⟨w.heap.size,1,none⟩=some (.slice R i.length g):=cellAt a 1 rfl;have x2:w1.cell? ⟨w.heap.size,2,none⟩=some (.string y):=cellAt a 2 rfl;have x3:w1.cell? ⟨w.heap.size,3,none⟩=some (.string z):=cellAt a 3 rfl;have x4:w1.cell? ⟨w.heap.size,4,none⟩=some (.int .i64 B):=cellAt a 4 rfl;have x5:w1.cell? ⟨w.heap.size,5,none⟩=some (.int .i64 C):=cellAt a 5 rfl;have x6:w1.cell? ⟨w.heap.size,6,none⟩=some (.bool G):=cellAt a 6 rfl;have x7:w1.cell? ⟨w.heap.size,7,none⟩=some (.bool H):=cellAt a 7 rfl;have x8:w1.cell? ⟨w.heap.size,8,none⟩=some (.bool I):=cellAt a 8 rfl;have x9:w1.cell? ⟨w.heap.size,9,none⟩=some (.int .i64 J):=cellAt a 9 rfl
      have K:w1.cell? ⟨w.heap.size,10,none⟩=some (.int .i64 N):=cellAt a 10 rfl;have L:w1.cell? ⟨w.heap.size,11,none⟩=some (.slice Q f.length d):=cellAt a 11 rfl;have lx:=zac a)
   | (go_at_call 54;refine (ak.out _ c).mono ?_;rintro e w2 ⟨rfl,F2,x,j,u⟩))
   go_ret;refine ⟨rfl,F2,x,(c.mono fun _ _ h=>h.elim).trans j fun _ _ h=>h,fun b hb=>?_⟩;have:=c.size;rcases u b hb with h | h
   · exact .inl h
   exact .inr (by omega)
 have aC:(M==5)=false:=by simpa using h5
 rw [if_neg h5,if_neg h5];by_cases h6:M=6
 · subst h6
   rw [if_pos rfl,if_pos rfl];go_enter Tryz.func27,Tryz.ntmps27
   go_wp2_with (first
   | (go_at_call 52;refine (m.out _).mono ?_;rintro e w1 ⟨rfl,l⟩
      have c:=r.trans0 l;have a:=l.heap n (fun h=>h);have x1:w1.cell? ⟨w.heap.size,1,none⟩=some (.slice R i.length g):=cellAt a 1 rfl;have x2:w1.cell? ⟨w.heap.size,2,none⟩=some (.string y):=cellAt a 2 rfl;have x3:w1.cell? ⟨w.heap.size,3,none⟩=some (.string z):=cellAt a 3 rfl;have x4:w1.cell? ⟨w.heap.size,4,none⟩=some (.int .i64 B):=cellAt a 4 rfl;have x5:w1.cell? ⟨w.heap.size,5,none⟩=some (.int .i64 C):=cellAt a 5 rfl;have x6:w1.cell? ⟨w.heap.size,6,none⟩=some (.bool G):=cellAt a 6 rfl;have x7:w1.cell? ⟨w.heap.size,7,none⟩=some (.bool H):=cellAt a 7 rfl;have x8:w1.cell? ⟨w.heap.size,8,none⟩=some (.bool I):=cellAt a 8 rfl;have x9:w1.cell? ⟨w.heap.size,9,none⟩=some (.int .i64 J):=cellAt a 9 rfl
      have K:w1.cell? ⟨w.heap.size,10,none⟩=some (.int .i64 N):=cellAt a 10 rfl;have L:w1.cell? ⟨w.heap.size,11,none⟩=some (.slice Q f.length d):=cellAt a 11 rfl;have lx:=zac a)
   | (go_at_call 42;refine (aj.out _ c).mono ?_;rintro e w2 ⟨v,rfl,_,j,_⟩))
   go_ret;have t:=c.trans0 j;exact ⟨rfl,F,a1.out _ t,t.mono fun _ _ h=>h.elim,fun b h=>.inl h⟩
 have aD:(M==6)=false:=by simpa using h6
 rw [if_neg h6,if_neg h6];by_cases h7:M=7
 · subst h7
   rw [if_pos rfl,if_pos rfl];go_enter Tryz.func27,Tryz.ntmps27
   go_wp2_with (first
   | (go_at_call 52;refine (m.out _).mono ?_;rintro e w1 ⟨rfl,l⟩
      have c:=r.trans0 l;have a:=l.heap n (fun h=>h);have x1:w1.cell? ⟨w.heap.size,1,none⟩=some (.slice R i.length g):=cellAt a 1 rfl;have x2:w1.cell? ⟨w.heap.size,2,none⟩=some (.string y):=cellAt a 2 rfl;have x3:w1.cell? ⟨w.heap.size,3,none⟩=some (.string z):=cellAt a 3 rfl;have x4:w1.cell? ⟨w.heap.size,4,none⟩=some (.int .i64 B):=cellAt a 4 rfl;have x5:w1.cell? ⟨w.heap.size,5,none⟩=some (.int .i64 C):=cellAt a 5 rfl;have x6:w1.cell? ⟨w.heap.size,6,none⟩=some (.bool G):=cellAt a 6 rfl;have x7:w1.cell? ⟨w.heap.size,7,none⟩=some (.bool H):=cellAt a 7 rfl;have x8:w1.cell? ⟨w.heap.size,8,none⟩=some (.bool I):=cellAt a 8 rfl;have x9:w1.cell? ⟨w.heap.size,9,none⟩=some (.int .i64 J):=cellAt a 9 rfl
      have K:w1.cell? ⟨w.heap.size,10,none⟩=some (.int .i64 N):=cellAt a 10 rfl;have L:w1.cell? ⟨w.heap.size,11,none⟩=some (.slice Q f.length d):=cellAt a 11 rfl;have lx:=zac a)
   | (go_at_call 55;refine (ai.out _ c).mono ?_;rintro e w2 ⟨v,rfl,F2,x,_,j,u,_⟩))
   go_ret;refine ⟨rfl,F2,x,(c.mono fun _ _ h=>h.elim).trans j fun _ _ h=>h,fun b hb=>?_⟩;have:=c.size;rcases u b hb with h | h
   · exact .inl h
   exact .inr (by omega)
 have aE:(M==7)=false:=by simpa using h7
 rw [if_neg h7,if_neg h7];go_enter Tryz.func27,Tryz.ntmps27
 go_wp2_with (first
 | (go_at_call 52;refine (m.out _).mono ?_;rintro e w1 ⟨rfl,l⟩
    have c:=r.trans0 l;have a:=l.heap n (fun h=>h);have x1:w1.cell? ⟨w.heap.size,1,none⟩=some (.slice R i.length g):=cellAt a 1 rfl;have x2:w1.cell? ⟨w.heap.size,2,none⟩=some (.string y):=cellAt a 2 rfl;have x3:w1.cell? ⟨w.heap.size,3,none⟩=some (.string z):=cellAt a 3 rfl;have x4:w1.cell? ⟨w.heap.size,4,none⟩=some (.int .i64 B):=cellAt a 4 rfl;have x5:w1.cell? ⟨w.heap.size,5,none⟩=some (.int .i64 C):=cellAt a 5 rfl;have x6:w1.cell? ⟨w.heap.size,6,none⟩=some (.bool G):=cellAt a 6 rfl;have x7:w1.cell? ⟨w.heap.size,7,none⟩=some (.bool H):=cellAt a 7 rfl;have x8:w1.cell? ⟨w.heap.size,8,none⟩=some (.bool I):=cellAt a 8 rfl;have x9:w1.cell? ⟨w.heap.size,9,none⟩=some (.int .i64 J):=cellAt a 9 rfl
    have K:w1.cell? ⟨w.heap.size,10,none⟩=some (.int .i64 N):=cellAt a 10 rfl;have L:w1.cell? ⟨w.heap.size,11,none⟩=some (.slice Q f.length d):=cellAt a 11 rfl;have lx:=zac a)
 | (go_at_call 56;refine (ah.out _ c).mono ?_;rintro e w2 ⟨av,ev,rfl,F2,Z,x,_,_,_,j,u⟩))
 go_ret;refine ⟨rfl,F2,x,(c.mono fun _ _ h=>h.elim).trans j fun _ _ h=>h,fun b hb=>?_⟩;have:=c.size;rcases u b hb with h | h
 · exact .inl h
 exact .inr (by omega)
def rg0 (key:ByteArray):Rg:=⟨key,ByteArray.empty,0,0,false,false,false⟩
def bA:ByteArray:=⟨#[97]⟩
def b1:ByteArray:=⟨#[49]⟩
def b2:ByteArray:=⟨#[50]⟩
def putO (k v:ByteArray):Opr:=⟨1,rg0 k,v,0⟩
def zax (D:Doc) (a b:Int):Int:=if a<1\/b<a then 1 else if D.rev<b then 33 else if a<D.mark then 32 else 0
def zis (D:Doc) (rev:Int):Int:=if D.rev<rev then 33 else if rev<=D.mark then 32 else 0
theorem Good.eventsDoc {k:Nat} {S:St} {D:Doc} (h:Good k S D) (a b:Int):zez S a b=zax D a b/\S.events=D.events:=by
 refine ⟨?_,h.cpl.events⟩;unfold zez zax;rw [h.rev,h.cpl.mark]
theorem Good.compactDoc {k:Nat} {S:St} {D:Doc} (h:Good k S D) (rev:Int):zbg S rev=zis D rev:=by
 unfold zbg zis;rw [h.rev,h.cpl.mark]
structure Wt where
 key:ByteArray
 end_:ByteArray
 frm:Int
 np:Bool
 nd:Bool
 prev:Bool
def wantB (t:Wt) (x:Ev):Bool:=!(decide (x.kv.mod<t.frm) || !inB x.kv.key t.key t.end_||(decide (x.kind=1)&&t.np)||(decide (x.kind=2)&&t.nd))
def handE (t:Wt) (x:Ev):Ev:=if t.prev then x else ⟨x.kind,x.kv,kv0⟩
def wantsW (t:Wt) (l:List Ev):List Ev:=(l.filter (wantB t)).map (handE t)
theorem zay (t:Wt) (a b:List Ev):wantsW t (a++b)=wantsW t a++wantsW t b:=by
 unfold wantsW;rw [List.filter_append,List.map_append]
theorem zmt (t:Wt) {l:List Ev} {i:Nat} {x:Ev} (h:l[i]?=some x):wantsW t (l.take (i+1))=if wantB t x then wantsW t (l.take i)++[handE t x] else wantsW t (l.take i):=by
 rw [List.take_add_one,h,zay];unfold wantsW;cases hw:wantB t x <;> simp [hw]
theorem zcd (t:Wt) (l:List Ev):(wantsW t l).length<=l.length:=by
 unfold wantsW;rw [List.length_map];exact List.length_filter_le _ _
structure Sm where
 w:Wt
 buf:List Ev
 place:Int
structure Hb where
 fed:Int
 last:Int
 L:List (Int×Sm)
def getH (L:List (Int×Sm)) (i:Int):Option Sm:=(L.find? fun p=>p.1==i).map (·.2)
def setH (L:List (Int×Sm)) (i:Int) (s:Sm):List (Int×Sm):=L.map fun p=>if p.1=i then (i,s) else p
def delH (L:List (Int×Sm)) (i:Int):List (Int×Sm):=L.filter fun p=>decide (p.1≠i)
structure HbOk (h:Hb):Prop where
 up:h.L.Pairwise fun a b=>a.1<b.1
 ids:∀ p∈h.L,1<=p.1/\p.1<=h.last
 last:0<=h.last
theorem zfi {L:List (Int×Sm)} (h:L.Pairwise fun a b=>a.1<b.1) {i:Int} {s:Sm}:getH L i=some s↔(i,s)∈L:=by
 unfold getH
 induction L with
 | nil=>simp
 | cons p L ih =>
   obtain ⟨d,f⟩:=List.pairwise_cons.1 h;rw [List.find?_cons,List.mem_cons];by_cases e:p.1=i
   · have:(p.1==i)=true:=by simpa using e
     rw [this];simp only [Option.map_some,Option.some.injEq]
     constructor
     · rintro rfl
       exact .inl (by rw [<-e])
     rintro (c | c)
     · rw [<-c]
     have:=d _ c
     dsimp only at this;omega
   have:(p.1==i)=false:=by simpa using e
   rw [this];dsimp only;rw [ih f]
   constructor
   · exact .inr
   rintro (c | c)
   · exact absurd (by rw [<-c]) e
   exact c
theorem zor (L:List (Int×Sm)) (i:Int) (s:Sm):(setH L i s).map (·.1)=L.map (·.1):=by
 unfold setH;rw [List.map_map];refine List.map_congr_left fun p _=>?_
 show (if p.1=i then (i,s) else p).1=p.1
 split
 · rename_i h;exact h.symm
 rfl
theorem zch {L:List (Int×Sm)}:(L.Pairwise fun a b=>a.1<b.1)↔(L.map (·.1)).Pairwise (· < ·):=by rw [List.pairwise_map]
theorem HbOk.set {h:Hb} (hk:HbOk h) (i:Int) (s:Sm) (f:Int):HbOk ⟨f,h.last,setH h.L i s⟩ where
 up:=by
  rw [zch,zor,<-zch];exact hk.up
 ids:=fun p hp=>by
  have:p.1∈(setH h.L i s).map (·.1):=List.mem_map.2 ⟨p,hp,rfl⟩;rw [zor] at this;obtain ⟨q,hq,e⟩:=List.mem_map.1 this;rw [<-e];exact hk.ids q hq
 last:=hk.last
theorem HbOk.del {h:Hb} (hk:HbOk h) (i:Int):HbOk ⟨h.fed,h.last,delH h.L i⟩ where
 up:=hk.up.sublist List.filter_sublist
 ids:=fun p hp=>hk.ids p (List.mem_filter.1 hp).1
 last:=hk.last
theorem HbOk.none {h:Hb} (hk:HbOk h) {i:Int} (hi:h.last<i\/i<1):getH h.L i=none:=by
 cases hg:getH h.L i with
 | none=>rfl
 | some s =>
   have:=hk.ids _ ((zfi hk.up).1 hg);dsimp only at this;omega
def openE (t:Wt):Int:=if askE ⟨t.key,t.end_,0,0,false,false,false⟩≠0 then askE ⟨t.key,t.end_,0,0,false,false,false⟩ else if t.frm<0 then 1 else 0
def openS (h:Hb) (t:Wt):Sm:=⟨t,[],if 1<=t.frm/\t.frm<=h.fed then t.frm else h.fed+1⟩
def openH (h:Hb) (t:Wt):Hb:=⟨h.fed,h.last+1,h.L++[(h.last+1,openS h t)]⟩
theorem HbOk.open {h:Hb} (hk:HbOk h) (t:Wt):HbOk (openH h t) where
 up:=by
  unfold openH;rw [List.pairwise_append];refine ⟨hk.up,by simp,fun a ha b hb=>?_⟩;rw [List.mem_singleton.1 hb];have:=(hk.ids a ha).2;dsimp only;omega
 ids:=fun p hp=>by
  have hl:=hk.last;unfold openH at hp ⊢
  dsimp only at hp ⊢
  rcases List.mem_append.1 hp with h1 | h1
  · have:=hk.ids p h1
    omega
  rw [List.mem_singleton.1 h1]
  dsimp only;omega
 last:=by
  have:=hk.last;unfold openH;dsimp only;omega
def evsAt (D:Doc) (r:Int):List Ev:=if zax D r r=0 then D.events.filter fun e=>decide (e.kv.mod=r) else []
def lookS (D:Doc) (r:Int) (s:Sm):Sm :=
 if s.place=r/\zax D r r=0/\s.buf.length+(wantsW s.w (evsAt D r)).length<=64 then ⟨s.w,s.buf++wantsW s.w (evsAt D r),s.place+1⟩ else s
def feed1 (D:Doc) (h:Hb):Hb:=⟨h.fed+1,h.last,h.L.map fun p=>(p.1,lookS D (h.fed+1) p.2)⟩
def feedN (D:Doc):Nat->Hb->Hb
 | 0,h=>h
 | n+1,h=>feedN D n (feed1 D h)
def feedH (D:Doc) (h:Hb):Hb:=feedN D (D.rev-h.fed).toNat h
def catchN (D:Doc) (fed:Int) (t:Wt):Nat->Bool->Int->List Ev->Int×List Ev
 | 0,_,p,out=>(p,out)
 | n+1,first,p,out =>
   if p<=fed then
    if zax D p p≠0\/(first=false/\64<out.length+(wantsW t (evsAt D p)).length) then (p,out)
    else catchN D fed t n false (p+1) (out++wantsW t (evsAt D p))
   else (p,out)
def catchH (D:Doc) (fed:Int) (s:Sm):Int×List Ev:=catchN D fed s.w (fed-s.place+1).toNat true s.place []
structure Bat where
 evs:List Ev
 rev:Int
 cancel:Bool
def takeE (h:Hb) (i:Int):Int:=if getH h.L i=none then 36 else 0
def takeB (D:Doc) (h:Hb) (i:Int):Bat :=
 match getH h.L i with
 | none=>⟨[],0,false⟩
 | some s=>if 0<s.buf.length then ⟨s.buf,s.place-1,false⟩ else if s.place<=h.fed/\s.place<D.mark then ⟨[],D.mark,true⟩ else ⟨(catchH D h.fed s).2,(catchH D h.fed s).1-1,false⟩
def takeH (D:Doc) (h:Hb) (i:Int):Hb :=
 match getH h.L i with
 | none=>h
 | some s=>if 0<s.buf.length then ⟨h.fed,h.last,setH h.L i ⟨s.w,[],s.place⟩⟩ else if s.place<=h.fed/\s.place<D.mark then ⟨h.fed,h.last,delH h.L i⟩ else ⟨h.fed,h.last,setH h.L i ⟨s.w,[],(catchH D h.fed s).1⟩⟩
theorem zeb {L:List (Int×Sm)} {id:Int} {s0 s:Sm} (h0:getH L id=some s0) (i:Int):getH (setH L id s) i=if i=id then some s else getH L i:=by
 unfold getH setH at *
 induction L with
 | nil=>simp at h0
 | cons p L ih =>
   rw [List.map_cons,List.find?_cons];rw [List.find?_cons] at h0;by_cases e:p.1=id
   · rw [if_pos e]
     by_cases ei:i=id
     · have a:((id,s).1==i)=true:=by simp [ei]
       rw [a,if_pos ei]
       rfl
     have a:((id,s).1==i)=false:=by simp;exact fun h=>ei h.symm
     have b:(p.1==i)=false:=by rw [e];simp;exact fun h=>ei h.symm
     rw [a,if_neg ei,List.find?_cons,b];dsimp only;clear ih h0 a b
     induction L with
     | nil=>rfl
     | cons q L ih =>
       rw [List.map_cons,List.find?_cons,List.find?_cons];by_cases eq:q.1=id
       · rw [if_pos eq]
         have a:((id,s).1==i)=false:=by simp;exact fun h=>ei h.symm
         have b:(q.1==i)=false:=by rw [eq];simp;exact fun h=>ei h.symm
         rw [a,b];exact ih
       rw [if_neg eq]
       cases q.1==i with
       | true=>rfl
       | false=>exact ih
   rw [if_neg e]
   have a:(p.1==id)=false:=(by simpa using e);rw [a] at h0;dsimp only at h0;have b:=ih h0
   cases h3:p.1==i with
   | true =>
     have:i≠id:=by
      rintro rfl;rw [a] at h3;cases h3
     rw [if_neg this,List.find?_cons,h3]
   | false =>
     dsimp only;rw [b,List.find?_cons,h3]
theorem zhl (L:List (Int×Sm)) (id i:Int):getH (delH L id) i=if i=id then none else getH L i:=by
 unfold getH delH
 induction L with
 | nil=>simp
 | cons p L ih =>
   rw [List.filter_cons,List.find?_cons];by_cases e:p.1=id
   · rw [if_neg (by simpa using e),ih]
     by_cases ei:i=id
     · rw [if_pos ei,if_pos ei]
     have a:(p.1==i)=false:=by rw [e];simp;exact fun h=>ei h.symm
     rw [if_neg ei,if_neg ei,a]
   rw [if_pos (by simpa using e),List.find?_cons]
   cases h3:p.1==i with
   | true =>
     have b:p.1=i:=(by simpa using h3);rw [if_neg (by rw [<-b];exact e)]
   | false =>
     dsimp only;exact ih
theorem zga {L:List (Int×Sm)} {id:Int} {s:Sm} (h0:getH L id=none) (i:Int):getH (L++[(id,s)]) i=if i=id then some s else getH L i:=by
 unfold getH at *;rw [List.find?_append];by_cases e:i=id
 · subst e
   rw [Option.map_eq_none_iff] at h0;rw [if_pos rfl,h0];simp
 rw [if_neg e]
 have:([(id,s)]:List (Int×Sm)).find? (fun p=>p.1==i)=none:=by
  rw [List.find?_cons];have a:((id,s).1==i)=false:=by simp;exact fun h=>e h.symm
  rw [a]
  rfl
 rw [this,Option.or_none]
def smC (t:Wt) (bv:Value) (p:Int):List Value:=[.string t.key,.string t.end_,.int .i64 t.frm,.bool t.np,.bool t.nd,.bool t.prev,bv,.int .i64 p]
structure SmR (w:World) (b:Nat) (bv:Value) (s:Sm):Prop where
 obj:Has w b (smC s.w bv s.place)
 buf:SlF w 72 13 evC bv s.buf
 d:bv.ownBlock≠some b
def SmAt (w:World) (b:Nat) (s:Sm) (F:Nat->Prop):Prop:=∃ bv,SmR w b bv s/\∀ x,F x↔x=b\/bv.ownBlock=some x
theorem SmAt.lt {w:World} {b:Nat} {s:Sm} {F:Nat->Prop} (a:SmAt w b s F):∀ x,F x->x<w.heap.size:=by
 obtain ⟨bv,a,hF⟩:=a;intro x c;rcases (hF x).1 c with rfl | h
 · exact a.obj.lt
 exact a.buf.lt x h
theorem SmR.fr {w w':World} {b:Nat} {bv:Value} {s:Sm} {X:Nat->Prop} (a:SmR w b bv s) (hf:Fr X w w') (h1:¬ X b) (h2:∀ x,bv.ownBlock=some x->¬ X x):SmR w' b bv s :=
 ⟨a.obj.fr hf h1,a.buf.fr hf h2,a.d⟩
theorem SmAt.fr {w w':World} {b:Nat} {s:Sm} {F X:Nat->Prop} (a:SmAt w b s F) (hf:Fr X w w') (hn:∀ x,F x->¬ X x):SmAt w' b s F:=by
 obtain ⟨bv,a,hF⟩:=a;exact ⟨bv,a.fr hf (hn _ ((hF _).2 (.inl rfl))) fun x hx=>hn x ((hF x).2 (.inr hx)),hF⟩
structure HubR (w:World) (h st m:Nat) (hp:Int->Option Nat) (FL:Int->Nat->Prop) (H:Hb):Prop where
 obj:Has w h [.pointer (some ⟨st,0,none⟩),.int .i64 H.fed,.int .i64 H.last,.map (some m)]
 map:MapAt w m fun i=>(hp i).map fun b=>.pointer (some ⟨b,0,none⟩)
 sm:∀ i s,getH H.L i=some s->∃ b,hp i=some b/\SmAt w b s (FL i)
 gone:∀ i,getH H.L i=none->hp i=none/\∀ b,¬ FL i b
 dh:∀ i,¬ FL i h
 dm:∀ i,¬ FL i m
 dl:∀ i j b,FL i b->FL j b->i=j
 ok:HbOk H
def hubF (h m:Nat) (FL:Int->Nat->Prop) (b:Nat):Prop:=b=h\/b=m\/∃ i,FL i b
def HubAt (w:World) (h st:Nat) (H:Hb) (F:Nat->Prop):Prop:=∃ m hp FL,HubR w h st m hp FL H/\∀ b,F b↔hubF h m FL b
section
variable {w w':World} {h st m:Nat} {hp:Int->Option Nat} {FL:Int->Nat->Prop} {H:Hb}
theorem HubR.fl (a:HubR w h st m hp FL H) {i:Int} {b:Nat} (hb:FL i b):∃ s p,getH H.L i=some s/\hp i=some p/\SmAt w p s (FL i):=by
 cases hl:getH H.L i with
 | none=>exact absurd hb ((a.gone i hl).2 b)
 | some s =>
   obtain ⟨p,c,d⟩:=a.sm i s hl;exact ⟨s,p,rfl,c,d⟩
theorem HubR.lt (a:HubR w h st m hp FL H):∀ b,hubF h m FL b->b<w.heap.size:=by
 rintro b (rfl | rfl | ⟨i,e⟩)
 · exact a.obj.lt
 · exact a.map.lt
 obtain ⟨s,p,_,_,h⟩:=a.fl e
 exact h.lt b e
theorem HubR.fr {X:Nat->Prop} (a:HubR w h st m hp FL H) (hf:Fr X w w') (hn:∀ b,hubF h m FL b->¬ X b):HubR w' h st m hp FL H where
 obj:=a.obj.fr hf (hn _ (.inl rfl))
 map:=a.map.fr hf (hn _ (.inr (.inl rfl)))
 sm i s hi:=by
  obtain ⟨b,h1,h2⟩:=a.sm i s hi;exact ⟨b,h1,h2.fr hf fun b hb=>hn b (.inr (.inr ⟨i,hb⟩))⟩
 gone:=a.gone
 dh:=a.dh
 dm:=a.dm
 dl:=a.dl
 ok:=a.ok
theorem HubAt.fr {F X:Nat->Prop} (a:HubAt w h st H F) (hf:Fr X w w') (hn:∀ b,F b->¬ X b):HubAt w' h st H F:=by
 obtain ⟨m,d,c,a,hF⟩:=a;exact ⟨m,d,c,a.fr hf (fun b hb=>hn b ((hF b).2 hb)),hF⟩
theorem HubAt.fr0 {F:Nat->Prop} (a:HubAt w h st H F) (hf:Fr No w w'):HubAt w' h st H F:=a.fr hf fun _ _ s=>s
theorem HubAt.lt {F:Nat->Prop} (a:HubAt w h st H F):∀ b,F b->b<w.heap.size:=by
 obtain ⟨m,d,c,a,hF⟩:=a;exact fun b hb=>a.lt b ((hF b).1 hb)
theorem HubR.setObj (a:HubR w h st m hp FL H) {f l:Int} (hf:Fr (fun b=>b=h) w w') (ho:Has w' h [.pointer (some ⟨st,0,none⟩),.int .i64 f,.int .i64 l,.map (some m)]) (hk:HbOk ⟨f,l,H.L⟩):HubR w' h st m hp FL ⟨f,l,H.L⟩ where
 obj:=ho
 map:=a.map.fr hf fun e=>a.map.apart a.obj e
 sm i s hi:=by
  obtain ⟨b,h1,h2⟩:=a.sm i s hi;exact ⟨b,h1,h2.fr hf fun b hb e=>a.dh i (e▸hb)⟩
 gone:=a.gone
 dh:=a.dh
 dm:=a.dm
 dl:=a.dl
 ok:=hk
theorem HubR.setSm (a:HubR w h st m hp FL H) {id:Int} {p:Nat} {s0 s:Sm} {F':Nat->Prop} (hl:getH H.L id=some s0) (hid:hp id=some p) (hf:Fr (FL id) w w') (hh:SmAt w' p s F') (hn:∀ b,F' b->FL id b\/w.heap.size<=b) :
 HubR w' h st m hp (fun i=>if i=id then F' else FL i) ⟨H.fed,H.last,setH H.L id s⟩ where
 obj:=a.obj.fr hf (a.dh id)
 map:=a.map.fr hf (a.dm id)
 sm i s' hi:=by
  dsimp only at hi;rw [zeb hl] at hi;by_cases e:i=id
  · subst e
    rw [if_pos rfl] at hi;cases hi
    exact ⟨p,hid,by rw [if_pos rfl];exact hh⟩
  rw [if_neg e] at hi
  obtain ⟨b,c,d⟩:=a.sm i s' hi;exact ⟨b,c,by rw [if_neg e];exact d.fr hf fun b hb hb'=>e (a.dl i id b hb hb')⟩
 gone i hi:=by
  dsimp only at hi;rw [zeb hl] at hi;by_cases e:i=id
  · rw [if_pos e] at hi;cases hi
  rw [if_neg e] at hi
  exact ⟨(a.gone i hi).1,by rw [if_neg e];exact (a.gone i hi).2⟩
 dh i e:=by
  by_cases hi':i=id
  · rw [if_pos hi'] at e
    rcases hn _ e with h | h
    · exact a.dh _ h
    have:=a.obj.lt;omega
  rw [if_neg hi'] at e;exact a.dh i e
 dm i e:=by
  by_cases hi':i=id
  · rw [if_pos hi'] at e
    rcases hn _ e with h | h
    · exact a.dm _ h
    have:=a.map.lt;omega
  rw [if_neg hi'] at e;exact a.dm i e
 dl i j b hi hj:=by
  have key:∀ k,FL k b->w.heap.size<=b->False:=fun k hk hb=>by
   have:=a.lt b (.inr (.inr ⟨k,hk⟩));omega
  by_cases ei:i=id
  · by_cases ej:j=id
    · rw [ei,ej]
    try dsimp only at hi hj
    rw [if_pos ei] at hi;rw [if_neg ej] at hj;rcases hn _ hi with h | h
    · rw [ei];exact (a.dl j id b hj h).symm
    exact (key j hj h).elim
  by_cases ej:j=id
  · try dsimp only at hi hj
    rw [if_neg ei] at hi;rw [if_pos ej] at hj;rcases hn _ hj with h | h
    · rw [ej];exact a.dl i id b hi h
    exact (key i hi h).elim
  try dsimp only at hi hj
  rw [if_neg ei] at hi;rw [if_neg ej] at hj;exact a.dl i j b hi hj
 ok:=a.ok.set id s H.fed
theorem HubR.addSm (a:HubR w h st m hp FL H) {id:Int} {p:Nat} {s:Sm} (hid:getH H.L id=none) (hb:s.buf = []) (hf:Fr (fun b=>b=m) w w') (hp':∀ b,hubF h m FL b->b≠p) (ho:Has w' p (smC s.w (.slice none 0 0) s.place))
 (hm:MapAt w' m fun i=>if i=id then some (.pointer (some ⟨p,0,none⟩)) else (hp i).map fun h=>.pointer (some ⟨h,0,none⟩)) (hk:HbOk ⟨H.fed,H.last,H.L++[(id,s)]⟩) :
 HubR w' h st m (fun i=>if i=id then some p else hp i) (fun i=>if i=id then (fun b=>b=p) else FL i) ⟨H.fed,H.last,H.L++[(id,s)]⟩ where
 obj:=a.obj.fr hf fun e=>a.map.apart a.obj e.symm
 map:=by
  refine cast (congrArg (MapAt w' m) (funext fun i=>?_)) hm;by_cases e:i=id
  · simp only [if_pos e,Option.map_some]
  simp only [if_neg e]
 sm i s' hi:=by
  dsimp only at hi;rw [zga hid] at hi;by_cases e:i=id
  · rw [if_pos e] at hi
    cases hi
    refine ⟨p,by rw [if_pos e],.slice none 0 0,⟨ho,by rw [hb];exact SlF.nil _ _ _ _,by simp [Value.ownBlock]⟩,fun x=>?_⟩;rw [if_pos e];simp [Value.ownBlock]
  rw [if_neg e] at hi
  obtain ⟨b,c,d⟩:=a.sm i s' hi;exact ⟨b,by rw [if_neg e];exact c,by rw [if_neg e];exact d.fr hf fun b hb e'=>a.dm i (e'▸hb)⟩
 gone i hi:=by
  dsimp only at hi;rw [zga hid] at hi;by_cases e:i=id
  · rw [if_pos e] at hi;cases hi
  rw [if_neg e] at hi
  exact ⟨by rw [if_neg e];exact (a.gone i hi).1,by rw [if_neg e];exact (a.gone i hi).2⟩
 dh i e:=by
  by_cases hi':i=id
  · rw [if_pos hi'] at e
    exact hp' h (.inl rfl) e
  rw [if_neg hi'] at e;exact a.dh i e
 dm i e:=by
  by_cases hi':i=id
  · rw [if_pos hi'] at e
    exact hp' m (.inr (.inl rfl)) e
  rw [if_neg hi'] at e;exact a.dm i e
 dl i j b hi hj:=by
  by_cases ei:i=id
  · by_cases ej:j=id
    · rw [ei,ej]
    try dsimp only at hi hj
    rw [if_pos ei] at hi;rw [if_neg ej] at hj;exact absurd hi (hp' b (.inr (.inr ⟨j,hj⟩)))
  by_cases ej:j=id
  · try dsimp only at hi hj
    rw [if_neg ei] at hi;rw [if_pos ej] at hj;exact absurd hj (hp' b (.inr (.inr ⟨i,hi⟩)))
  try dsimp only at hi hj
  rw [if_neg ei] at hi;rw [if_neg ej] at hj;exact a.dl i j b hi hj
 ok:=hk
theorem HubR.delSm (a:HubR w h st m hp FL H) (id:Int) (hf:Fr (fun b=>b=m) w w') (hm:MapAt w' m fun i=>if i=id then none else (hp i).map fun h=>.pointer (some ⟨h,0,none⟩)) :
 HubR w' h st m (fun i=>if i=id then none else hp i) (fun i b=>i≠id/\FL i b) ⟨H.fed,H.last,delH H.L id⟩ where
 obj:=a.obj.fr hf fun e=>a.map.apart a.obj e.symm
 map:=by
  refine cast (congrArg (MapAt w' m) (funext fun i=>?_)) hm;by_cases e:i=id
  · simp only [if_pos e,Option.map_none]
  simp only [if_neg e]
 sm i s' hi:=by
  dsimp only at hi;rw [zhl] at hi;by_cases e:i=id
  · rw [if_pos e] at hi;cases hi
  rw [if_neg e] at hi
  obtain ⟨b,c,d⟩:=a.sm i s' hi;have hF:(fun b=>i≠id/\FL i b)=FL i:=funext fun b=>propext ⟨fun x=>x.2,fun x=>⟨e,x⟩⟩;exact ⟨b,by rw [if_neg e];exact c,by rw [hF];exact d.fr hf fun b hb e'=>a.dm i (e'▸hb)⟩
 gone i hi:=by
  dsimp only at hi;rw [zhl] at hi;by_cases e:i=id
  · exact ⟨by rw [if_pos e],fun b hb=>hb.1 e⟩
  rw [if_neg e] at hi
  exact ⟨by rw [if_neg e];exact (a.gone i hi).1,fun b hb=>(a.gone i hi).2 b hb.2⟩
 dh i e:=a.dh i e.2
 dm i e:=a.dm i e.2
 dl i j b hi hj:=a.dl i j b hi.2 hj.2
 ok:=a.ok.del id
end
theorem zero98 (w:World):(zeroValue 98).run Tryz.prog w=.ok (.pointer none) w:=by kernel_rfl
theorem ztw {TA:zai} (w:World) (st:Nat) (S:St) (F:Nat->Prop) (hS:zal TA w st S F) :
 Calls Tryz.prog 11 #[.pointer (some ⟨st,0,none⟩)] w fun e w'=>∃ h,e=.returned (.tuple #[.pointer (some ⟨h,0,none⟩),.int .i64 0])/\∃ FH,HubAt w' h st ⟨S.rev,0,[]⟩ FH/\Fr No w w'/\∀ b,FH b->w.heap.size<=b:=by
 have f:∀ w,(Instr.makeMap 94 none).run Tryz.prog w=.ok (.map (some w.heap.size)) (w.alloc (.map #[] 0)):=fun w=>run_makeMap 94 w;have a:=zdc w st S F hS;have c:=H_ a;clear a hS;go_enter Tryz.func11,Tryz.ntmps11;go_wp2_with (go_at_call 40;(with_reducible refine c.out.mono ?_);rintro e w1 ⟨rfl,rfl⟩)
 go_ret2
 have d:MapAt (w.alloc (.map #[] 0)) w.heap.size fun _=>none:=MapAt.made w;refine ⟨_,rfl,_,⟨w.heap.size,fun _=>none,fun _ _=>False,⟨⟨_,zae _ _ _ (by simp)⟩,d.alloc _,fun i s h=>by simp [getH] at h,fun i _=>⟨rfl,fun _ h=>h⟩,fun _ h=>h,fun _ h=>h,fun _ _ _ h=>h.elim,⟨List.Pairwise.nil,fun p hp=>by simp at hp,Int.le_refl 0⟩⟩,fun b=>Iff.rfl⟩,((Fr.refl No w).alloc _).alloc _,fun b hb=>?_⟩;rcases hb with rfl | rfl | ⟨_,h⟩
 · simp
 · exact Nat.le_refl _
 exact h.elim
theorem ztx {w:World} {h st:Nat} {H:Hb} {F:Nat->Prop} (hH:HubAt w h st H F):Calls Tryz.prog 16 #[.pointer (some ⟨h,0,none⟩)] w fun e w'=>e=.returned (.int .i64 H.fed)/\w=w':=by
 obtain ⟨m,d,b,a,hF⟩:=hH;have c:=a.obj.cell 1 rfl;have f:=a.obj.lt;clear a hF;go_enter Tryz.func16,Tryz.ntmps16;go_wp2;go_ret;exact ⟨rfl,rfl⟩
theorem HubR.look {w:World} {h st m:Nat} {hp:Int->Option Nat} {FL:Int->Nat->Prop} {H:Hb} (a:HubR w h st m hp FL H) (i:Int):(((hp i).map fun b=>Value.pointer (some ⟨b,0,none⟩)).getD (.pointer none)=.pointer none↔getH H.L i=none):=by
 cases hl:getH H.L i with
 | none=>simp [(a.gone i hl).1]
 | some s =>
   obtain ⟨b,c,_⟩:=a.sm i s hl;simp [c]
def closeH (H:Hb) (i:Int):Hb:=if getH H.L i=none then H else ⟨H.fed,H.last,delH H.L i⟩
theorem zol {w:World} {h st:Nat} {H:Hb} {F:Nat->Prop} (hH:HubAt w h st H F) (i:Int) (hi:(Lit.int .i64 i).wf=true):Calls Tryz.prog 15 #[.pointer (some ⟨h,0,none⟩),.int .i64 i] w fun e w'=>e=.returned (.int .i64 (takeE H i))/\∃ F',HubAt w' h st (closeH H i) F'/\Fr F w w'/\∀ b,F' b->F b:=by
 have d:=hH;obtain ⟨m,z,y,a,hF⟩:=hH;have B:=a.obj.cell 3 rfl;have C:=a.obj.lt;have n:=H_ a.map;have x:=H_ a;have c:=a.look i;unfold takeE closeH
 cases hl:getH H.L i with
 | none =>
   have l:=c.2 hl;have r:=H_ l;clear a l c hF x;go_enter Tryz.func15,Tryz.ntmps15;go_wp2_with (at_lookup;refine zbf rfl _ _ 94 rfl 3 98 Tryz.underlying94 Tryz.underlying3 m _ rfl n.out i rfl hi _ (zero98 _) _ r.out ?_);go_ret;exact ⟨rfl,F,d,Fr.refl _ _,fun _ h=>h⟩
 | some s =>
   obtain ⟨p,u,v⟩:=a.sm i s hl;have l:((z i).map fun b=>Value.pointer (some ⟨b,0,none⟩)).getD (.pointer none)=.pointer (some ⟨p,0,none⟩):=(by rw [u];rfl);have r:=H_ l;have g:∀ b,b=m->F b:=fun b e=>(hF b).2 (.inr (.inl e))
   have k:∀ b,hubF h m (fun j b=>j≠i/\y j b) b->F b:=fun b hb=>(hF b).2 (by
    rcases hb with h | h | ⟨j,h⟩
    · exact .inl h
    · exact .inr (.inl h)
    exact .inr (.inr ⟨j,h.2⟩))
   have o:=H_ g;have q:=H_ k;clear a l c v d hF g k;go_enter Tryz.func15,Tryz.ntmps15
   go_wp2_with (first
    | (at_lookup;refine zbf rfl _ _ 94 rfl 3 98 Tryz.underlying94 Tryz.underlying3 m _ rfl n.out i rfl hi _ (zero98 _) _ r.out ?_)
    | (refine zhq rfl _ _ 94 3 rfl 98 Tryz.underlying94 Tryz.underlying3 m _ rfl n.out i rfl hi ?_;intro D t f A))
   go_ret;exact ⟨by simp,_,⟨m,_,_,x.out.delSm i f t,fun b=>Iff.rfl⟩,f.mono fun b _ e=>o.out b e,q.out⟩
theorem zgm {α:Type} {f:α->List Value} {P:Program} {w:World} {ops:Array Oper} {rest:List Oper} {o:Oper} {a:Act} {Q:Exit->Act->World->Prop} (hgd:o.guard=none) (s x:Operand) (t:TypeId)
 (ho:o.op=.call { callee:=.builtin .append,args:=#[s,x],argTypes:=#[t,t] })
 (e:TypeId) (i:TypeInfo) (z:Value) (sz bytes:Nat) (ht:P.underlying t=some (.slice e)) (hi:P.info? e=some i) (hz:i.zero=some z) (hsize:i.size=sz) (hby:i.bytes=bytes) (hzs:z.cells.size=sz) (hsz:0<sz)
 (v:Value) (L:List α) (hs:a.eval s=v) (hown:SlF w e sz f v L) (w0:World) (hnb:∀ k,v.ownBlock=some k->w0.heap.size<=k) (hfr:Fr No w0 w)
 (b c:Nat) (y:α) (hx:a.eval x=.slice (some ⟨b,0,none⟩) 1 c) (hnews:∀ j u,(f y)[j]?=some u->w.cell? ((⟨b,0,none⟩:Addr).add j)=some u) (hl:(f y).length=sz) (h1:∀ u∈f y,u.oneCell'=true)
 (h63:L.length+1<=maxLen) (hbytes:(L.length+1) * bytes<=140737488355328)
 (h:∀ g o' cap w',SlF w' e sz f (.slice (some ⟨g,o',none⟩) (L.length+1) cap) (L++[y])->w0.heap.size<=g->Fr No w0 w'->g<w'.heap.size →
   wpList P ops Q rest (a.put o.dst (.slice (some ⟨g,o',none⟩) (L.length+1) cap)) w'):wpList P ops Q (o :: rest) a w:=by
 refine zao hgd s x t ho e i z sz bytes ht hi hz hsize hby hzs hsz v L hs hown b c y hx hnews hl h1 h63 hbytes ?_;intro g o' cap w' d l m n;refine h g o' cap w' d ?_ (hfr.grown l fun k hk=>.inr (hnb k hk)) n;rcases m with e | e
 · exact hnb _ e
 rw [e];exact hfr.size
end Go.Proofs.YtdgkdfmfoonbpaaGreat