/- Own lemmas. -/
import Derived.Test.YthljnnjpmdgkoaaGreatI24
import Derived.Test.YthljnnjpmdgkoaaGreatI25
import Derived.Test.YthljnnjpmdgkoaaGreatI26
import Derived.Test.YthljnnjpmdgkoaaGreatI27
import Derived.Test.YthljnnjpmdgkoaaGreatI09
import Derived.StringKeys
import Derived.Maps.Keyed
namespace Go.Proofs.YthljnnjpmdgkoaaGreat
open Go Go.Proofs Go.RowKit
set_option maxRecDepth 100000
abbrev CalQ:=Cal×List Opr×List ByteArray
def doE (S:St) (q:CalQ):Int :=
 if kindN q.1.kind=4 then rangeE S q.1.rg else if kindN q.1.kind=5 then zbu S q.1.rev else if kindN q.1.kind=6 then zga S q.1.rev q.1.upto else if kindN q.1.kind=7 then 0 else applyE S q.2.1
def doT (S:St) (q:CalQ):St :=
 if kindN q.1.kind=4 then S else if kindN q.1.kind=5 then (if zbu S q.1.rev=0 then compS q.1.rev S else S) else if kindN q.1.kind=6 then S else if kindN q.1.kind=7 then dropS S q.2.2
 else if applyE S q.2.1=0 then applyS S q.2.1 else S
def doD (S:St) (D:Doc) (q:CalQ):Doc :=
 if kindN q.1.kind=4 then D else if kindN q.1.kind=5 then (if zbu S q.1.rev=0 then D.cut q.1.rev else D) else if kindN q.1.kind=6 then D else if kindN q.1.kind=7 then dropD S D q.2.2
 else if applyE S q.2.1=0 then applyD S D q.2.1 else D
theorem zbv {S:St} {ops:List Opr} (h:applyE S ops=0):checkE ops=0/\whenAll S ops=0:=by
 unfold applyE at h
 split at h
 · rename_i hc;exact absurd h hc
 rename_i hc;exact ⟨by simpa using hc,h⟩
theorem zfj {S:St} {rev:Int} (h:zbu S rev=0):rev<=S.rev/\S.mark<rev:=by
 unfold zbu at h
 split at h
 · cases h
 split at h
 · cases h
 omega
theorem zdh {q:CalQ} (h:fewCal q=true):(∀ o∈q.2.1,o.rg.key.size<=3000/\o.rg.end_.size<=3000/\o.value.size<=3000)/\q.2.1.length<=30/\q.2.2.length<=30/\q.1.rg.key.size<=3000/\q.1.rg.end_.size<=3000:=by
 unfold fewCal fewKey at h;simp only [Bool.and_eq_true,decide_eq_true_eq] at h;obtain ⟨⟨⟨⟨a,b⟩,c⟩,d⟩,e⟩:=h;unfold fewOps at a;simp only [Bool.and_eq_true,decide_eq_true_eq,List.all_eq_true] at a;refine ⟨fun o ho=>?_,a.1,b,c,d⟩;have:=a.2 o ho;unfold fewOp at this;simp only [Bool.and_eq_true,decide_eq_true_eq] at this;omega
theorem Good.does {k:Nat} {S:St} {D:Doc} (h:Good k S D) (hk:k<=70) {q:CalQ} (hq:fewCal q=true):Good (k+1) (doT S q) (doD S D q):=by
 obtain ⟨c,e,d,f,g⟩:=zdh hq;unfold doT doD;by_cases h4:kindN q.1.kind=4
 · rw [if_pos h4,if_pos h4];exact h.mono (by omega)
 rw [if_neg h4,if_neg h4]
 by_cases h5:kindN q.1.kind=5
 · rw [if_pos h5,if_pos h5]
   by_cases hc:zbu S q.1.rev=0
   · rw [if_pos hc,if_pos hc]
     obtain ⟨a,b⟩:=zfj hc;rw [h.rev] at a;rw [h.cpl.mark] at b;exact (h.cut (by omega) b a).mono (by omega)
   rw [if_neg hc,if_neg hc];exact h.mono (by omega)
 rw [if_neg h5,if_neg h5]
 by_cases h6:kindN q.1.kind=6
 · rw [if_pos h6,if_pos h6];exact h.mono (by omega)
 rw [if_neg h6,if_neg h6]
 by_cases h7:kindN q.1.kind=7
 · rw [if_pos h7,if_pos h7]
   exact h.drop hk q.2.2 d
 rw [if_neg h7,if_neg h7]
 by_cases ha:applyE S q.2.1=0
 · rw [if_pos ha,if_pos ha]
   exact h.apply hk (zbv ha).1 fun o ho=>by have:=(c o ho).1;omega
 rw [if_neg ha,if_neg ha];exact h.mono (by omega)
theorem Good.compG {k:Nat} {S:St} {D:Doc} (h:Good k S D) (hk:k<=50000) {R:Int} (h1:S.mark<R) (h2:R<=S.rev):CompGk S R:=by
 have d:=h.cpl.m0;have f:=h.rev;rw [h.cpl.mark] at h1;rw [f] at h2;refine ⟨by omega,by rw [h.cpl.mark];exact h1,h.events_pos (by omega),zxf h.cpl.inv h.srt,h.srt,fun p hp H hH=>?_⟩;have e:=(h.ok.hist _ _ hH).1;have c:=h.more _ _ hH;refine ⟨(e.comp c (by omega) R).fits (by omega),?_⟩;obtain ⟨l,a,b⟩:=c.fin;exact ⟨l,by omega,b⟩
theorem zsg {TA:zao} (hT:TreeOk TA 1000000) {k:Nat} {S:St} {D:Doc} (h:Good k S D) (hk:k<=70) (w:World) (s:Nat) (F:Nat->Prop) (hS:zaj TA w s S F) (v:Value) (keys:List ByteArray) (hv:SlR w 1 strC v keys)
 (hvF:0<keys.length->∀ b,v.ownBlock=some b->¬ F b) (hl:keys.length<=30) :
 Calls Tryz.prog 57 #[.pointer (some ⟨s,0,none⟩),v] w fun e w'=>∃ ev,e=.returned (.tuple #[ev,.int .i64 0])/\∃ F',zaj TA w' s (dropS S keys) F' ∧
  SlF w' 101 13 evC ev (keys.foldl (dropR (S.rev+1)) (S,[])).2/\Fr F w w'/\(∀ b,F' b->F b\/w.heap.size<=b)/\(∀ b,ev.ownBlock=some b->w.heap.size<=b/\¬ F' b):=by
 have g:=h.rev;have j:=h.rev1;have f:=h.cpl.m0;refine zvm hT (n:=20000 * k+30) (by omega) w s S F hS v keys hv hvF (by omega) (by unfold top;omega) (by unfold top;omega) fun i x hx=>?_;have d:=(List.getElem?_eq_some_iff.1 hx).1;obtain ⟨a,b⟩:=h.drops hk keys hl i (by omega);rw [g];refine ⟨a.ok.mono (by omega),?_,b x hx⟩;have c:=a.ok.ev;rw [a.cpl.events,(Doc.adds_parts D _).2.2,List.length_append] at c;omega
theorem ziy {TA:zao} (hT:TreeOk TA 1000000) {k:Nat} {S:St} {D:Doc} (h:Good k S D) (hk:k<=70) (w:World) (s:Nat) (F:Nat->Prop) (hS:zaj TA w s S F) (v:Value) (ops:List Opr) (hv:SlR w 10 opC v ops)
 (hvF:0<ops.length->∀ b,v.ownBlock=some b->¬ F b) (hl:ops.length<=30) (hks:∀ o∈ops,o.rg.key.size<=3000) :
 Calls Tryz.prog 37 #[.pointer (some ⟨s,0,none⟩),v] w fun e w'=>∃ av ev,e=.returned (.tuple #[av,ev,.int .i64 (applyE S ops)])/\∃ F' Z,zaj TA w' s (if applyE S ops=0 then applyS S ops else S) F'/\AnsR w' av Z ∧
  Z.map (·.1)=(if applyE S ops=0 then (runR (S.rev+1) ⟨S,[],[]⟩ ops).A else [])/\SlF w' 101 13 evC ev (if applyE S ops=0 then (runR (S.rev+1) ⟨S,[],[]⟩ ops).E else [])/\Fr F w w'/\(∀ b,F' b->F b\/w.heap.size<=b):=by
 have r:=h.rev;have t:=h.rev1;have q:=h.cpl.m0;by_cases he:applyE S ops=0
 · obtain ⟨j,m⟩:=zbv he
   simp only [if_pos he];rw [he];refine (zyb hT (n:=20000 * k+20000) (by omega) w s S F hS v ops hv hvF (by omega) (fun o ho=>by have:=hks o ho;omega) (by unfold top;omega) (by unfold top;omega) j m fun i o ho=>?_).mono ?_
   · have p:=(List.getElem?_eq_some_iff.1 ho).1
     rw [r];exact (h.runs hk j (fun o ho=>by have:=hks o ho;omega) i (by omega)).2 o ho
   rintro e w' ⟨av,ev,rfl,F',Z,a,b,c,d,f,g,_⟩
   exact ⟨av,ev,rfl,F',Z,a,b,c,d,f,g⟩
 simp only [if_neg he]
 refine (zya hT w s S F hS v ops hv (by omega) (fun o ho=>by have:=hks o ho;omega) he).mono ?_;rintro e w' ⟨rfl,l⟩;exact ⟨_,_,rfl,F,[],hS.fr0 hT l,AnsR.nil _,rfl,SlF.nil _ _ _ _,l.mono fun _ _ h=>h.elim,fun b h=>.inl h⟩
theorem zme {TA:zao} (hT:TreeOk TA 1000000) (hTD:TreeDl TA) {k:Nat} {S:St} {D:Doc} (h:Good k S D) (hk:k<=70) (w:World) (s:Nat) (F:Nat->Prop) (hS:zaj TA w s S F) (rev:Int) :
 Calls Tryz.prog 50 #[.pointer (some ⟨s,0,none⟩),.int .i64 rev] w fun e w'=>e=.returned (.int .i64 (zbu S rev))/\∃ F',zaj TA w' s (if zbu S rev=0 then compS rev S else S) F'/\Fr F w w'/\(∀ b,F' b->F b\/w.heap.size<=b):=by
 by_cases he:zbu S rev=0
 · obtain ⟨c,d⟩:=zfj he
   rw [if_pos he,he];exact zmf hT hTD (n:=20000 * k) (by omega) w s S F hS h.ok (by have:=h.size;omega) rev (h.compG (by omega) d c)
 rw [if_neg he]
 refine (zsh w s S F hS rev he).mono ?_;rintro e w' ⟨rfl,a⟩;exact ⟨rfl,F,hS.fr0 hT a,a.mono fun _ _ h=>h.elim,fun b h=>.inl h⟩
theorem ziw {TA:zao} (hT:TreeOk TA 1000000) {k:Nat} {S:St} {D:Doc} (h:Good k S D) (hk:k<=70) (w:World) (s:Nat) (F:Nat->Prop) (hS:zaj TA w s S F) (g:Rg) (hks:g.key.size<=3000) :
 Calls Tryz.prog 46 #[.pointer (some ⟨s,0,none⟩),rgV g] w fun e w'=>∃ v,e=.returned (.tuple #[v,.int .i64 (if rangeE S g=0 then ((allL S g S.rev).length:Int) else 0),.bool (decide (rangeE S g=0)&&moreB S g S.rev),.int .i64 (rangeE S g)]) ∧
  SlF w' 99 6 kvC v (if rangeE S g=0 then getL S g S.rev else [])/\Fr No w w'/\(∀ b,v.ownBlock=some b->w.heap.size<=b):=by
 by_cases he:rangeE S g=0
 · simp only [he,decide_true,Bool.true_and]
   exact zmd hT (n:=20000 * k) (by omega) w s S F hS h.ok (by have:=h.size;omega) g (by omega) he
 simp only [he,decide_false,Bool.false_and]
 refine (zyf hT w s S F hS g (by omega) he).mono ?_;rintro e w' ⟨rfl,a⟩;exact ⟨_,rfl,SlF.nil _ _ _ _,a,fun b hb=>by simp [Value.ownBlock] at hb⟩
set_option maxHeartbeats 8000000 in
theorem zoe {TA:zao} (hT:TreeOk TA 1000000) (hTD:TreeDl TA) {k:Nat} {S:St} {D:Doc} (h:Good k S D) (hk:k<=70) (w:World) (s:Nat) (F:Nat->Prop) (hS:zaj TA w s S F) (q:CalQ) (hq:fewCal q=true)
 (ha:SlR w 10 opC q.1.ops q.2.1) (hb:SlR w 1 strC q.1.keys q.2.2) (haF:0<q.2.1.length->∀ b,q.1.ops.ownBlock=some b->¬ F b) (hbF:0<q.2.2.length->∀ b,q.1.keys.ownBlock=some b->¬ F b) :
 Calls Tryz.prog 27 #[.pointer (some ⟨s,0,none⟩),.agg (calC q).toArray] w fun e w'=>e=.returned (.int .i64 (doE S q))/\∃ F',zaj TA w' s (doT S q) F'/\Fr F w w'/\(∀ b,F' b->F b\/w.heap.size<=b):=by
 obtain ⟨f1,f2,f3,f4,f5⟩:=zdh hq;have a1:=fun W=>zvl W q;have aD:=zrb q.1.kind;have Q:=fun W (h1:Fr No w W)=>ziw hT h hk W s F (hS.fr0 hT h1) q.1.rg f4;have V:=fun W (h1:Fr No w W)=>zme hT hTD h hk W s F (hS.fr0 hT h1) q.1.rev;have U:=fun W (h1:Fr No w W)=>zix hT W s S F (hS.fr0 hT h1) (by have:=h.ok.ev;omega) (fun h1=>h.events_pos (by rw [<-h.rev];exact h1)) q.1.rev q.1.upto;have T:=fun W (h1:Fr No w W)=>zsg hT h hk W s F (hS.fr0 hT h1) q.1.keys q.2.2 (hb.fr0 h1) hbF f3;have R:=fun W (h1:Fr No w W)=>ziy hT h hk W s F (hS.fr0 hT h1) q.1.ops q.2.1 (ha.fr0 h1) haF f2 fun o ho=>(f1 o ho).1;obtain ⟨P,g,am,_,_,_⟩:=ha.shape;obtain ⟨O,d,al,_,_,_⟩:=hb.shape;have a0:=fun W (h1:Fr No w W)=>hS.fr0 hT h1;unfold doE doT;clear ha hb haF hbF hq f1 f2 f3 f4 f5 h hk hS hTD
 obtain ⟨⟨p1,p2,⟨u,x,y,z,B,C,G⟩,H,L,p5⟩,ops,f⟩:=q;dsimp only at *;subst am al;unfold calC rgC rgV at *;dsimp only at *;generalize kindN p1=K at *;generalize rangeE S _=M at *;generalize zbu S _=ak at *;generalize zga S _ _=aj at *;generalize applyE S _=N at *;generalize (if M=0 then ((allL S ⟨u,x,y,z,B,C,G⟩ S.rev).length:Int) else 0)=aG at *;generalize (decide (M=0)&&moreB S ⟨u,x,y,z,B,C,G⟩ S.rev)=ax at *;generalize (if M=0 then getL S ⟨u,x,y,z,B,C,G⟩ S.rev else [])=aE at *;generalize (if ak=0 then compS H S else S)=aI at *;generalize (if aj=0 then S.events.filter (insB H L) else [])=aF at *;generalize (if N=0 then applyS S ops else S)=aH at *;generalize (if N=0 then (runR (S.rev+1) ⟨S,[],[]⟩ ops).A else [])=aw at *
 generalize (if N=0 then (runR (S.rev+1) ⟨S,[],[]⟩ ops).E else [])=ao at *;have l:=H_ a1;have ae:=H_ Q;have ai:=H_ V;have ah:=H_ U;have ag:=H_ T;have af:=H_ R;have Y:=H_ a0;clear a1 Q V U T R a0;have n:Fr No w (w.alloc (Obj.cells #[.int .i64 p1,.slice P ops.length g,.string u,.string x,.int .i64 y,.int .i64 z,.bool B,.bool C,.bool G,.int .i64 H,.int .i64 L,.slice O f.length d] 38)):=(Fr.refl No w).alloc _;have m:=zad w (Obj.cells #[.int .i64 p1,.slice P ops.length g,.string u,.string x,.int .i64 y,.int .i64 z,.bool B,.bool C,.bool G,.int .i64 H,.int .i64 L,.slice O f.length d] 38) _ rfl;by_cases h4:K=4
 · subst h4
   rw [if_pos rfl,if_pos rfl];go_enter Tryz.func27,Tryz.ntmps27
   go_wp2_with (first
   | (go_at_call 52;refine (l.out _).mono ?_;rintro e w1 ⟨rfl,j⟩
      have c:=n.trans0 j;have a:=j.heap m (fun h=>h);have x1:w1.cell? ⟨w.heap.size,1,none⟩=some (.slice P ops.length g):=cellAt a 1 rfl;have x2:w1.cell? ⟨w.heap.size,2,none⟩=some (.string u):=cellAt a 2 rfl;have x3:w1.cell? ⟨w.heap.size,3,none⟩=some (.string x):=cellAt a 3 rfl;have x4:w1.cell? ⟨w.heap.size,4,none⟩=some (.int .i64 y):=cellAt a 4 rfl;have x5:w1.cell? ⟨w.heap.size,5,none⟩=some (.int .i64 z):=cellAt a 5 rfl;have x6:w1.cell? ⟨w.heap.size,6,none⟩=some (.bool B):=cellAt a 6 rfl;have x7:w1.cell? ⟨w.heap.size,7,none⟩=some (.bool C):=cellAt a 7 rfl;have x8:w1.cell? ⟨w.heap.size,8,none⟩=some (.bool G):=cellAt a 8 rfl;have x9:w1.cell? ⟨w.heap.size,9,none⟩=some (.int .i64 H):=cellAt a 9 rfl
      have I:w1.cell? ⟨w.heap.size,10,none⟩=some (.int .i64 L):=cellAt a 10 rfl;have J:w1.cell? ⟨w.heap.size,11,none⟩=some (.slice O f.length d):=cellAt a 11 rfl;have lx:=zab a)
   | (go_at_call 46;refine (ae.out _ c).mono ?_;rintro e w2 ⟨v,rfl,_,i,_⟩))
   go_ret;have p:=c.trans0 i;exact ⟨rfl,F,Y.out _ p,p.mono fun _ _ h=>h.elim,fun b h=>.inl h⟩
 have az:(K==4)=false:=by simpa using h4
 rw [if_neg h4,if_neg h4];by_cases h5:K=5
 · subst h5
   rw [if_pos rfl,if_pos rfl];go_enter Tryz.func27,Tryz.ntmps27
   go_wp2_with (first
   | (go_at_call 52;refine (l.out _).mono ?_;rintro e w1 ⟨rfl,j⟩
      have c:=n.trans0 j;have a:=j.heap m (fun h=>h);have x1:w1.cell? ⟨w.heap.size,1,none⟩=some (.slice P ops.length g):=cellAt a 1 rfl;have x2:w1.cell? ⟨w.heap.size,2,none⟩=some (.string u):=cellAt a 2 rfl;have x3:w1.cell? ⟨w.heap.size,3,none⟩=some (.string x):=cellAt a 3 rfl;have x4:w1.cell? ⟨w.heap.size,4,none⟩=some (.int .i64 y):=cellAt a 4 rfl;have x5:w1.cell? ⟨w.heap.size,5,none⟩=some (.int .i64 z):=cellAt a 5 rfl;have x6:w1.cell? ⟨w.heap.size,6,none⟩=some (.bool B):=cellAt a 6 rfl;have x7:w1.cell? ⟨w.heap.size,7,none⟩=some (.bool C):=cellAt a 7 rfl;have x8:w1.cell? ⟨w.heap.size,8,none⟩=some (.bool G):=cellAt a 8 rfl;have x9:w1.cell? ⟨w.heap.size,9,none⟩=some (.int .i64 H):=cellAt a 9 rfl
      have I:w1.cell? ⟨w.heap.size,10,none⟩=some (.int .i64 L):=cellAt a 10 rfl;have J:w1.cell? ⟨w.heap.size,11,none⟩=some (.slice O f.length d):=cellAt a 11 rfl;have lx:=zab a)
   | (go_at_call 50;refine (ai.out _ c).mono ?_;rintro e w2 ⟨rfl,X,t,i,r⟩))
   go_ret;refine ⟨rfl,X,t,(c.mono fun _ _ h=>h.elim).trans i fun _ _ h=>h,fun b hb=>?_⟩;have:=c.size;rcases r b hb with h | h
   · exact .inl h
   exact .inr (by omega)
 have aA:(K==5)=false:=by simpa using h5
 rw [if_neg h5,if_neg h5];by_cases h6:K=6
 · subst h6
   rw [if_pos rfl,if_pos rfl];go_enter Tryz.func27,Tryz.ntmps27
   go_wp2_with (first
   | (go_at_call 52;refine (l.out _).mono ?_;rintro e w1 ⟨rfl,j⟩
      have c:=n.trans0 j;have a:=j.heap m (fun h=>h);have x1:w1.cell? ⟨w.heap.size,1,none⟩=some (.slice P ops.length g):=cellAt a 1 rfl;have x2:w1.cell? ⟨w.heap.size,2,none⟩=some (.string u):=cellAt a 2 rfl;have x3:w1.cell? ⟨w.heap.size,3,none⟩=some (.string x):=cellAt a 3 rfl;have x4:w1.cell? ⟨w.heap.size,4,none⟩=some (.int .i64 y):=cellAt a 4 rfl;have x5:w1.cell? ⟨w.heap.size,5,none⟩=some (.int .i64 z):=cellAt a 5 rfl;have x6:w1.cell? ⟨w.heap.size,6,none⟩=some (.bool B):=cellAt a 6 rfl;have x7:w1.cell? ⟨w.heap.size,7,none⟩=some (.bool C):=cellAt a 7 rfl;have x8:w1.cell? ⟨w.heap.size,8,none⟩=some (.bool G):=cellAt a 8 rfl;have x9:w1.cell? ⟨w.heap.size,9,none⟩=some (.int .i64 H):=cellAt a 9 rfl
      have I:w1.cell? ⟨w.heap.size,10,none⟩=some (.int .i64 L):=cellAt a 10 rfl;have J:w1.cell? ⟨w.heap.size,11,none⟩=some (.slice O f.length d):=cellAt a 11 rfl;have lx:=zab a)
   | (go_at_call 47;refine (ah.out _ c).mono ?_;rintro e w2 ⟨v,rfl,_,i,_⟩))
   go_ret;have p:=c.trans0 i;exact ⟨rfl,F,Y.out _ p,p.mono fun _ _ h=>h.elim,fun b h=>.inl h⟩
 have aB:(K==6)=false:=by simpa using h6
 rw [if_neg h6,if_neg h6];by_cases h7:K=7
 · subst h7
   rw [if_pos rfl,if_pos rfl];go_enter Tryz.func27,Tryz.ntmps27
   go_wp2_with (first
   | (go_at_call 52;refine (l.out _).mono ?_;rintro e w1 ⟨rfl,j⟩
      have c:=n.trans0 j;have a:=j.heap m (fun h=>h);have x1:w1.cell? ⟨w.heap.size,1,none⟩=some (.slice P ops.length g):=cellAt a 1 rfl;have x2:w1.cell? ⟨w.heap.size,2,none⟩=some (.string u):=cellAt a 2 rfl;have x3:w1.cell? ⟨w.heap.size,3,none⟩=some (.string x):=cellAt a 3 rfl;have x4:w1.cell? ⟨w.heap.size,4,none⟩=some (.int .i64 y):=cellAt a 4 rfl;have x5:w1.cell? ⟨w.heap.size,5,none⟩=some (.int .i64 z):=cellAt a 5 rfl;have x6:w1.cell? ⟨w.heap.size,6,none⟩=some (.bool B):=cellAt a 6 rfl;have x7:w1.cell? ⟨w.heap.size,7,none⟩=some (.bool C):=cellAt a 7 rfl;have x8:w1.cell? ⟨w.heap.size,8,none⟩=some (.bool G):=cellAt a 8 rfl;have x9:w1.cell? ⟨w.heap.size,9,none⟩=some (.int .i64 H):=cellAt a 9 rfl
      have I:w1.cell? ⟨w.heap.size,10,none⟩=some (.int .i64 L):=cellAt a 10 rfl;have J:w1.cell? ⟨w.heap.size,11,none⟩=some (.slice O f.length d):=cellAt a 11 rfl;have lx:=zab a)
   | (go_at_call 57;refine (ag.out _ c).mono ?_;rintro e w2 ⟨v,rfl,X,t,_,i,r,_⟩))
   go_ret;refine ⟨rfl,X,t,(c.mono fun _ _ h=>h.elim).trans i fun _ _ h=>h,fun b hb=>?_⟩;have:=c.size;rcases r b hb with h | h
   · exact .inl h
   exact .inr (by omega)
 have aC:(K==7)=false:=by simpa using h7
 rw [if_neg h7,if_neg h7];go_enter Tryz.func27,Tryz.ntmps27
 go_wp2_with (first
 | (go_at_call 52;refine (l.out _).mono ?_;rintro e w1 ⟨rfl,j⟩
    have c:=n.trans0 j;have a:=j.heap m (fun h=>h);have x1:w1.cell? ⟨w.heap.size,1,none⟩=some (.slice P ops.length g):=cellAt a 1 rfl;have x2:w1.cell? ⟨w.heap.size,2,none⟩=some (.string u):=cellAt a 2 rfl;have x3:w1.cell? ⟨w.heap.size,3,none⟩=some (.string x):=cellAt a 3 rfl;have x4:w1.cell? ⟨w.heap.size,4,none⟩=some (.int .i64 y):=cellAt a 4 rfl;have x5:w1.cell? ⟨w.heap.size,5,none⟩=some (.int .i64 z):=cellAt a 5 rfl;have x6:w1.cell? ⟨w.heap.size,6,none⟩=some (.bool B):=cellAt a 6 rfl;have x7:w1.cell? ⟨w.heap.size,7,none⟩=some (.bool C):=cellAt a 7 rfl;have x8:w1.cell? ⟨w.heap.size,8,none⟩=some (.bool G):=cellAt a 8 rfl;have x9:w1.cell? ⟨w.heap.size,9,none⟩=some (.int .i64 H):=cellAt a 9 rfl
    have I:w1.cell? ⟨w.heap.size,10,none⟩=some (.int .i64 L):=cellAt a 10 rfl;have J:w1.cell? ⟨w.heap.size,11,none⟩=some (.slice O f.length d):=cellAt a 11 rfl;have lx:=zab a)
 | (go_at_call 37;refine (af.out _ c).mono ?_;rintro e w2 ⟨av,ev,rfl,X,Z,t,_,_,_,i,r⟩))
 go_ret;refine ⟨rfl,X,t,(c.mono fun _ _ h=>h.elim).trans i fun _ _ h=>h,fun b hb=>?_⟩;have:=c.size;rcases r b hb with h | h
 · exact .inl h
 exact .inr (by omega)
def donesT (l:List CalQ) (i:Nat):St×Doc:=(l.take i).foldl (fun p q=>(doT p.1 q,doD p.1 p.2 q)) (newS,newD)
theorem zcq (l:List CalQ) {i:Nat} {q:CalQ} (h:l[i]?=some q):donesT l (i+1)=(doT (donesT l i).1 q,doD (donesT l i).1 (donesT l i).2 q):=by
 unfold donesT;rw [List.take_add_one,h,List.foldl_append]
 rfl
theorem zar {l:List CalQ} (h:zba l=true):l.length<=30/\∀ q∈l,fewCal q=true:=by
 unfold zba at h;simpa [Bool.and_eq_true] using h
theorem zbe {l:List CalQ} (h:zba l=true):∀ i≤ l.length,Good i (donesT l i).1 (donesT l i).2:=by
 obtain ⟨c,b⟩:=zar h;intro i
 induction i with
 | zero=>intro _;exact Good.new
 | succ i ih =>
   intro d;obtain ⟨q,a⟩:∃ q,l[i]?=some q:=⟨_,List.getElem?_eq_getElem (by omega)⟩;rw [zcq l a];exact (ih (by omega)).does (by omega) (b q (List.mem_of_getElem? a))
theorem SlR.lt {α:Type} {f:α->List Value} {w:World} {sz:Nat} {v:Value} {L:List α} (h:SlR w sz f v L) (hf:∀ x,(f x).length=sz) (hsz:0<sz) (hp:0<L.length):∀ b,v.ownBlock=some b->b<w.heap.size:=by
 intro b e;obtain ⟨a,cap,rfl,k,l,c⟩:=h;obtain ⟨g,o,rfl,d⟩:=c hp;obtain rfl:g=b:=by simpa [Value.ownBlock] using e
 have j:L[0]?=some L[0]:=List.getElem?_eq_getElem hp;have i:0<(f L[0]).length:=by rw [hf];exact hsz
 exact World.block_lt_of_cell? _ _ (d 0 _ j 0 _ (List.getElem?_eq_getElem i))
open Go Go.RowKit Go.WideElems Go.ChangeMaps Go.WideMaps
def MapS (w:World) (b:Nat) (f:ByteArray->Option Value):Prop :=
 ∃ es clock,w.heap[b]?=some (.map es clock)/\MapKept.Stamped es clock/\(∀ e∈es.toList,∃ n,e.key=.string n/\n.size<=maxLen/\f n=some e.val) ∧
  ∀ n v,f n=some v->∃ e∈es.toList,e.key=.string n/\e.val=v
theorem MapS.lt {w:World} {b:Nat} {f:ByteArray->Option Value} (h:MapS w b f):b<w.heap.size:=by
 obtain ⟨d,a,c,_⟩:=h;exact zab c
theorem MapS.fr {w w':World} {b:Nat} {f:ByteArray->Option Value} {S:Nat->Prop} (h:MapS w b f) (hf:Fr S w w') (hn:¬ S b):MapS w' b f:=by
 have c:=h.lt;obtain ⟨d,a,g,e⟩:=h;exact ⟨d,a,by rw [hf.block b c hn];exact g,e⟩
theorem MapS.made (w:World):MapS (w.alloc (.map #[] 0)) w.heap.size fun _=>none :=
 ⟨#[],0,zad _ _ _ rfl,MapKept.stamped_empty 0,by simp,by simp⟩
section
variable {P:Program} {w:World} {b:Nat} {f:ByteArray->Option Value} {t k e:TypeId}
theorem zti (hk:P.underlying k=some .string) {es:List MapEntry} (h:∀ e∈es,∃ n,e.key=.string n/\n.size<=maxLen/\f n=some e.val):∀ e∈es,∃ l,keyOf P k e.key=some l:=by
 intro e c;obtain ⟨n,a,b,_⟩:=h e c;exact ⟨_,by rw [a];exact keyOf_string_mk hk b⟩
theorem MapS.look (h:MapS w b f) (ht:P.underlying t=some (.map k e)) (hk:P.underlying k=some .string) {n:ByteArray} (hn:n.size<=maxLen) {z:Value} (hz:(zeroValue e).run P w=.ok z w) :
 (Instr.lookup t (.map (some b)) (.string n) false).run P w=.ok ((f n).getD z) w:=by
 obtain ⟨x,c,q,B,p,A⟩:=h;have K:=Maps.string_keyed hk;have a:=keyOf_string_mk hk hn;rcases K.find w a x.toList (zti hk p) with ⟨d,g⟩ | ⟨j,s,d,g,y⟩
 · have:f n=none:=by
    cases hf:f n with
    | none=>rfl
    | some v =>
      obtain ⟨u,i,l,_⟩:=A n v hf;exact absurd l (g u i)
   simp [Instr.lookup,run_underlying ht,MapKept.run_getObj_map q,K.check w _ a,d,hz,Result.andThen,this]
 obtain ⟨m,r,_,o⟩:=p s (List.mem_of_getElem? g)
 rw [y] at r;cases r;simp [Instr.lookup,run_underlying ht,MapKept.run_getObj_map q,K.check w _ a,d,Result.andThen,o]
theorem MapS.store (h:MapS w b f) (ht:P.underlying t=some (.map k e)) (hk:P.underlying k=some .string) {n:ByteArray} (hn:n.size<=maxLen) (v:Value) :
 ∃ w',(Instr.mapUpdate t (.map (some b)) (.string n) v).run P w=.ok () w'/\MapS w' b (fun m=>if m=n then some v else f m)/\Fr (fun x=>x=b) w w'/\w'.heap.size=w.heap.size:=by
 obtain ⟨d,c,s,C,S,W⟩:=h;have K:=Maps.string_keyed hk;have g:=keyOf_string_mk hk hn;have I:∀ o,Fr (fun x=>x=b) w (setBlock w b o):=fun o=>⟨rfl,rfl,rfl,by simp [setBlock],fun i _ E=>heap_setBlock_other s _ E⟩;rcases K.find w g d.toList (zti hk S) with ⟨R,N⟩ | ⟨j,M,R,N,H⟩
 · refine ⟨setBlock w b (.map (d.push ⟨.string n,v,c⟩) (c+1)),?_,⟨_,_,heap_setBlock_same s _,MapKept.stamped_push C N,?_,?_⟩,I _,by simp [setBlock]⟩
   · simp [Instr.mapUpdate,run_underlying ht,MapKept.run_getObj_map s,K.check w false g,R,MapKept.run_setObj_map _ s,Result.andThen,setBlock]
   · intro x l
     simp only [Array.toList_push,List.mem_append,List.mem_singleton] at l;rcases l with l | rfl
     · obtain ⟨m,r,O,Q⟩:=S x l
       refine ⟨m,r,O,?_⟩;dsimp only;rw [if_neg (fun e=>N x l (by rw [r,e]))];exact Q
     exact ⟨n,rfl,hn,by simp⟩
   intro m u p
   simp only [Array.toList_push,List.mem_append,List.mem_singleton];by_cases hmn:m=n
   · subst hmn
     simp at p;subst p;exact ⟨_,.inr rfl,rfl,rfl⟩
   dsimp only at p
   rw [if_neg hmn] at p;obtain ⟨x,l,T⟩:=W m u p;exact ⟨x,.inl l,T⟩
 have F:d[j]?=some M:=by simpa using N
 have L:j<d.size:=(Array.getElem?_eq_some_iff.1 F).1;have A:∀ e',d[j]?=some e'->({ e' with key:=.string n,val:=v }:MapEntry).key=e'.key:=fun e' he'=>by rw [F] at he';cases he';exact H.symm
 have B:d.toList.Pairwise (fun x y=>x.key≠y.key):=((MapKept.stamped_iff _ _).1 C).2.2
 have q:∀ i x,d[i]?=some x->i≠j->x.key ≠ .string n:=by
  intro i x l z r;have J:=(Array.getElem?_eq_some_iff.1 l).1;rw [List.pairwise_iff_getElem] at B;have V:d[i]=x:=(Array.getElem?_eq_some_iff.1 l).2;have G:d[j]=M:=(Array.getElem?_eq_some_iff.1 F).2;rcases Nat.lt_or_gt_of_ne z with h | h
  · exact B i j (by simpa using J) (by simpa using L) h (by simp [V,G,r,H])
  exact B j i (by simpa using L) (by simpa using J) h (by simp [V,G,r,H])
 refine ⟨setBlock w b (.map (d.modify j (fun e'=>{ e' with key:=.string n,val:=v })) c),?_,
  ⟨_,_,heap_setBlock_same s _,MapKept.stamped_modify C _ _ (fun _ _=>rfl) (fun e' _ he'=>A e' he'),?_,?_⟩,I _,by simp [setBlock]⟩
 · simp [Instr.mapUpdate,run_underlying ht,MapKept.run_getObj_map s,K.check w false g,R,F,H,K.stays w g,MapKept.run_setObj_map _ s,Result.andThen,setBlock]
 · intro x l
   obtain ⟨i,E⟩:=List.getElem?_of_mem l;have a:(d.modify j (fun e'=>{ e' with key:=.string n,val:=v }))[i]?=some x:=(by rw [Array.getElem?_toList] at E;exact E);rw [Array.getElem?_modify] at a;by_cases hji:j=i
   · rw [if_pos hji] at a
     obtain ⟨y,X,rfl⟩:=Option.map_eq_some_iff.1 a;exact ⟨n,rfl,hn,by simp⟩
   rw [if_neg hji] at a
   obtain ⟨m,r,O,Q⟩:=S x (List.mem_of_getElem? (by simpa using a));refine ⟨m,r,O,?_⟩;dsimp only;rw [if_neg (fun e=>q i x a (fun e'=>hji e'.symm) (by rw [r,e]))];exact Q
 intro m u p
 by_cases hmn:m=n
 · subst hmn
   simp at p;subst p;refine ⟨{ M with key:=.string m,val:=v },?_,rfl,rfl⟩;refine List.mem_of_getElem? (i:=j) ?_;have:(d.modify j (fun e'=>{ e' with key:=.string m,val:=v }))[j]?=some { M with key:=.string m,val:=v }:=(by rw [Array.getElem?_modify,if_pos rfl,F];rfl);rw [Array.getElem?_toList];exact this
 dsimp only at p
 rw [if_neg hmn] at p;obtain ⟨x,l,D,U⟩:=W m u p;obtain ⟨i,E⟩:=List.getElem?_of_mem l;have a:d[i]?=some x:=(by simpa using E)
 have z:j≠i:=by
  rintro rfl;rw [F] at a;cases a;rw [H] at D;cases D;exact hmn rfl
 refine ⟨x,List.mem_of_getElem? (i:=i) ?_,D,U⟩;have:(d.modify j (fun e'=>{ e' with key:=.string n,val:=v }))[i]?=some x:=(by rw [Array.getElem?_modify,if_neg z];exact a);rw [Array.getElem?_toList];exact this
end
theorem zmu {P:Program} {w:World} {ops:Array Oper} {rest:List Oper} {o:Oper} {a:Act} {Q:Exit->Act->World->Prop} (hg:o.guard=none) (m x v:Operand) (t:TypeId) (hop:o.op=Op.mapUpdate t m x v)
 (k e:TypeId) (ht:P.underlying t=some (.map k e)) (hk:P.underlying k=some .string) (b:Nat) (f:ByteArray->Option Value) (hm:a.eval m=.map (some b)) (h:MapS w b f) (n:ByteArray) (hx:a.eval x=.string n)
 (hn:n.size<=maxLen) (u:Value) (hv:a.eval v=u)
 (hK:∀ w',MapS w' b (fun m=>if m=n then some u else f m)->Fr (fun x=>x=b) w w'->w'.heap.size=w.heap.size->wpList P ops Q rest (a.put o.dst undef) w'):wpList P ops Q (o :: rest) a w:=by
 refine wpList_plain hg fun K' hK'=>?_;obtain ⟨w',c,d,g,i⟩:=h.store ht hk hn u;unfold Oper.wp;simp [execOp,hop,hm,hx,hv,c,Result.andThen];exact hK' _ _ (hK w' d g i)
structure KeysOk (D:Doc):Prop where
 kvs:∀ k∈D.kvs,keyE k.key=0
 evs:∀ e∈D.events,keyE e.kv.key=0
theorem KeysOk.at {D:Doc} (h:KeysOk D) (hs:KSorted D.kvs) {r:Int} {y:Kv} (hy:y∈D.at r):keyE y.key=0:=by
 rcases Doc.mem_at hs hy with a | ⟨e,a,_,rfl⟩
 · exact h.kvs y a
 exact h.evs e a
theorem KeysOk.cut {D:Doc} (h:KeysOk D) (hs:KSorted D.kvs) (R:Int):KeysOk (D.cut R) :=
 ⟨fun _k hk=>h.at hs hk,fun e he=>h.evs e (List.mem_filter.1 he).1⟩
theorem KeysOk.adds {D:Doc} (h:KeysOk D) {E:List Ev} (hE:∀ e∈E,keyE e.kv.key=0):KeysOk (D.adds E):=by
 obtain ⟨a,b,c⟩:=Doc.adds_parts D E;refine ⟨by rw [b];exact h.kvs,fun e d=>?_⟩;rw [c] at d;rcases List.mem_append.1 d with d | d
 · exact h.evs e d
 exact hE e d
theorem zyz {o:Opr} (h:oneE o=0) (hk:o.kind=1):keyE o.rg.key=0:=by
 unfold oneE at h;rw [if_neg (by rw [hk];decide),if_neg (by rw [hk];decide),if_pos hk] at h
 split at h
 · rename_i hn;exact absurd h hn
 rename_i hn;exact Classical.not_not.1 hn
theorem RunOk.ks {c n:Nat} {D:Doc} {P:List Opr} {S:St} {E:List Ev} (h:RunOk c n D P S E):KSorted D.kvs:=by
 have:=h.cpl.ks
 rwa [(Doc.adds_parts D E).2.1] at this
theorem zxc {c n:Nat} {D:Doc} {P:List Opr} {r:Run} (h:RunOk c n D P r.S r.E) (hD:KeysOk D) (hmk:D.mark<=D.rev) (o:Opr) (ho:oneE o=0) (hE:∀ e∈r.E,keyE e.kv.key=0) :
 ∀ e∈(stepR (D.rev+1) r o).E,keyE e.kv.key=0:=by
 have b:=h.ks;unfold stepR;by_cases h1:o.kind=1
 · rw [if_pos h1]
   intro e a;rcases List.mem_append.1 a with a | a
   · exact hE e a
   rw [List.mem_singleton.1 a]
   exact zyz ho h1
 rw [if_neg h1]
 by_cases h2:o.kind=2
 · rw [if_pos h2]
   intro e a;dsimp only at a;rw [zrh] at a;rcases List.mem_append.1 a with a | a
   · exact hE e a
   obtain ⟨x,d,rfl⟩:=List.mem_map.1 a
   rw [h.between hmk] at d;exact KeysOk.at (y:=x) (hD.adds hE) (by rw [(Doc.adds_parts D r.E).2.1];exact b) (List.mem_filter.1 d).1
 rw [if_neg h2]
 split <;> exact hE
theorem Good.keys_does {k:Nat} {S:St} {D:Doc} (h:Good k S D) (hk:k<=70) {q:CalQ} (hq:fewCal q=true) (hD:KeysOk D):KeysOk (doD S D q):=by
 obtain ⟨l,u,m,v,w⟩:=zdh hq;have j:=h.cpl.m0;unfold doD;by_cases h4:kindN q.1.kind=4
 · rw [if_pos h4];exact hD
 rw [if_neg h4]
 by_cases h5:kindN q.1.kind=5
 · rw [if_pos h5]
   split
   · exact hD.cut h.cpl.ks _
   exact hD
 rw [if_neg h5]
 by_cases h6:kindN q.1.kind=6
 · rw [if_pos h6];exact hD
 rw [if_neg h6]
 by_cases h7:kindN q.1.kind=7
 · rw [if_pos h7]
   refine hD.adds ?_
   have key:∀ i≤ q.2.2.length,∀ e∈(dropTo (D.rev+1) S q.2.2 i).2,keyE e.kv.key=0:=by
    intro i
    induction i with
    | zero=>intro _ e b;simp [dropTo] at b
    | succ i ih =>
      intro n;obtain ⟨x,r⟩:∃ x,q.2.2[i]?=some x:=⟨_,List.getElem?_eq_getElem (by omega)⟩;obtain ⟨a,_⟩:=h.drops hk q.2.2 m i (by omega);have c:=ih (by omega);rw [zfg _ _ _ r];unfold dropR
      split
      · rename_i hlv
        intro e b;rcases List.mem_append.1 b with b | b
        · exact c e b
        rw [List.mem_singleton.1 b]
        show keyE x=0
        have p:=a.cpl.lives x (D.rev+1) (by rw [(Doc.adds_parts D _).1];omega)
        cases hh:hasL ((D.adds (dropTo (D.rev+1) S q.2.2 i).2).at (D.rev+1)) x with
        | none=>rw [p,hh] at hlv;cases hlv
        | some y =>
          have d:KSorted (D.adds (dropTo (D.rev+1) S q.2.2 i).2).kvs:=(by rw [(Doc.adds_parts D _).2.1];exact h.cpl.ks);obtain ⟨s,t⟩:=(zbm (Doc.at_sorted d _) x y).1 hh;rw [<-t];exact (hD.adds c).at d s
      exact c
   have:=key q.2.2.length (Nat.le_refl _);have b:dropTo (D.rev+1) S q.2.2 q.2.2.length=q.2.2.foldl (dropR (D.rev+1)) (S,[]):=(by unfold dropTo;rw [List.take_length]);rw [b] at this;exact this
 rw [if_neg h7]
 by_cases ha:applyE S q.2.1=0
 · rw [if_pos ha]
   refine hD.adds ?_;obtain ⟨_,f,_⟩:=zcz (zbv ha).1
   have key:∀ i≤ q.2.1.length,∀ e∈(runR (D.rev+1) ⟨S,[],[]⟩ (q.2.1.take i)).E,keyE e.kv.key=0:=by
    intro i
    induction i with
    | zero=>intro _ e b;simp [runR] at b
    | succ i ih =>
      intro n;obtain ⟨o,g⟩:∃ o,q.2.1[i]?=some o:=⟨_,List.getElem?_eq_getElem (by omega)⟩;obtain ⟨⟨a,_⟩,_⟩:=h.runs hk (zbv ha).1 (fun o g=>by have:=(l o g).1;omega) i (by omega);rw [zkb _ _ _ g];exact zxc a hD j.2 o (f o (List.mem_of_getElem? g)) (ih (by omega))
   have:=key q.2.1.length (Nat.le_refl _);rw [List.take_length] at this;exact this
 rw [if_neg ha];exact hD
theorem zdo {l:List CalQ} (h:zba l=true):∀ i≤ l.length,KeysOk (donesT l i).2:=by
 obtain ⟨d,b⟩:=zar h;have c:=zbe h;intro i
 induction i with
 | zero=>intro _;exact ⟨fun k hk=>by simp [donesT,newD] at hk,fun e he=>by simp [donesT,newD] at he⟩
 | succ i ih =>
   intro f;obtain ⟨q,a⟩:∃ q,l[i]?=some q:=⟨_,List.getElem?_eq_getElem (by omega)⟩;rw [zcq l a];exact (c i (by omega)).keys_does (by omega) (b q (List.mem_of_getElem? a)) (ih (by omega))
theorem zek {k:ByteArray} (h:keyE k=0):inB k ⟨#[1]⟩ ⟨#[0]⟩=true/\k.size<=64:=by
 have f:¬ (runes k<1\/0<=firstIdx k 0)/\¬ 64<k.size:=by
  unfold keyE at h
  split at h
  · cases h
  rename_i d
  split at h
  · cases h
  rename_i b;exact ⟨d,b⟩
 refine ⟨?_,by omega⟩
 have e:k.data.toList.any (· == 0)=false:=by
  rw [<-Go.firstIdx_nonneg];simp only [decide_eq_false_iff_not];exact fun h=>f.1 (.inr h)
 have i:¬ runes k<1:=fun h=>f.1 (.inl h)
 have c:klt k ⟨#[1]⟩=false:=by
  rw [Bool.eq_false_iff];intro c;have d:=zec.1 c
  cases hl:k.data.toList with
  | nil =>
    refine i ?_
    have:k.size=0:=by
     have:=congrArg List.length hl;simpa using this
    unfold runes;rw [this]
    show (0:Int)<1
    decide
  | cons a t =>
    rw [hl] at d e;simp only [List.any_cons,Bool.or_eq_false_iff,beq_eq_false_iff_ne] at e;have b:a :: t < [1]:=d;rw [List.cons_lt_cons_iff] at b;rcases b with b | ⟨_,b⟩
    · refine e.1 ?_
      rw [UInt8.lt_iff_toNat_lt] at b
      have g:a.toNat=0:=by
       have:(1:UInt8).toNat=1:=rfl;omega
      exact UInt8.toNat_inj.1 g
    exact absurd b (List.not_lt_nil _)
 unfold inB;rw [if_neg (by rw [Lib.toList_data];simp),if_pos (by rw [Lib.toList_data];rfl)];have:Op.bytesLess k.toList (⟨#[1]⟩:ByteArray).toList=klt k ⟨#[1]⟩:=rfl;rw [this,c]
 rfl
theorem zeg {k:Nat} {S:St} {D:Doc} (h:Good k S D):zap S S.T S.mark=D.kvs:=by
 have c:=h.cpl.mark;have a:=h.cpl.between h.srt ⟨#[]⟩ ⟨#[]⟩ (r:=D.mark) (Int.le_refl _);rw [zgg] at a;rw [c,a]
 have b:(D.at D.mark).filter (fun y=>rgB ⟨#[]⟩ ⟨#[]⟩ y.key)=D.at D.mark:=by
  rw [List.filter_eq_self];intro y _;unfold rgB;rw [zkp];simp [Lib.toList_data]
 rw [b]
 unfold Doc.at;have:(D.events.filter fun e=>decide (D.mark<e.kv.mod)&&decide (e.kv.mod<=D.mark)) = []:=List.filter_eq_nil_iff.2 fun e _=>by simp <;> omega
 rw [this]
 rfl
def revAt (D:Doc) (i:Nat):Int:=if i=0 then max D.mark 1-1 else match D.events[i-1]? with
 | some p=>p.kv.mod
 | none=>0
def foldTo (D:Doc) (i:Nat):List Kv:=((D.events.take i).filter fun y=>decide (D.mark<y.kv.mod)).foldl doneL D.kvs
theorem zcy {l:List Ev} (h:ESorted l) {i j:Nat} {a b:Ev} (hi:l[i]?=some a) (hj:l[j]?=some b) (hij:i<=j):a.kv.mod<=b.kv.mod:=by
 obtain ⟨f,d⟩:=List.getElem?_eq_some_iff.1 hi;obtain ⟨g,c⟩:=List.getElem?_eq_some_iff.1 hj;rcases Nat.lt_or_eq_of_le hij with e | e
 · have:=List.pairwise_iff_getElem.1 h i j f g e
   rw [d,c] at this;exact this
 subst e
 rw [d] at c;rw [c];exact Int.le_refl _
theorem DocOk.chain {n:Nat} {D:Doc} (h:DocOk n D) (hm0:0<=D.mark) {i:Nat} {e:Ev} (he:D.events[i]?=some e):e.kv.mod=revAt D i\/e.kv.mod=revAt D i+1:=by
 have q:=h.lo e (List.mem_of_getElem? he);unfold revAt;by_cases hi:i=0
 · rw [if_pos hi]
   subst hi
   right
   have m:max D.mark 1<=e.kv.mod:=(by omega);rcases Int.lt_or_le (max D.mark 1) e.kv.mod with d | c
   · exfalso
     obtain ⟨y,f,g⟩:=h.full (max D.mark 1) (by omega) (by omega) (by omega);obtain ⟨j,a⟩:=List.mem_iff_getElem?.1 f;have:=zcy h.es he a (Nat.zero_le _);omega
   omega
 rw [if_neg hi]
 have o:=(List.getElem?_eq_some_iff.1 he).1;obtain ⟨p,b⟩:∃ p,D.events[i-1]?=some p:=⟨_,List.getElem?_eq_getElem (by omega)⟩;rw [b];dsimp only;have l:=h.lo p (List.mem_of_getElem? b);have r:=zcy h.es b he (by omega);rcases Int.lt_or_le (p.kv.mod+1) e.kv.mod with d | c
 · exfalso
   obtain ⟨y,f,g⟩:=h.full (p.kv.mod+1) (by omega) (by omega) (by omega);obtain ⟨j,a⟩:=List.mem_iff_getElem?.1 f;rcases Nat.lt_or_ge j i with k | k
   · have:=zcy h.es a b (by omega);omega
   have:=zcy h.es he a k;omega
 omega
theorem zdm {D:Doc} {i:Nat} {e:Ev} (he:D.events[i]?=some e):revAt D (i+1)=e.kv.mod:=by
 unfold revAt;rw [if_neg (by omega),Nat.add_sub_cancel,he]
theorem DocOk.revAt_last {n:Nat} {D:Doc} (h:DocOk n D) (hm0:0<=D.mark) (hm1:D.mark<=D.rev):revAt D D.events.length=D.rev:=by
 rcases Nat.eq_zero_or_pos D.events.length with c | c
 · have l:D.rev=0:=by
    rcases Int.lt_or_le D.rev 1 with a | a
    · omega
    obtain ⟨y,b,_⟩:=h.full D.rev a hm1 (Int.le_refl _)
    rw [List.eq_nil_of_length_eq_zero c] at b;cases b
   unfold revAt;rw [if_pos c];omega
 obtain ⟨e,d⟩:∃ e,D.events[D.events.length-1]?=some e:=⟨_,List.getElem?_eq_getElem (by omega)⟩
 have a:=zdm d;rw [Nat.sub_add_cancel (by omega)] at a;rw [a];have i:=h.lo e (List.mem_of_getElem? d);obtain ⟨y,b,k⟩:=h.full D.rev (by omega) hm1 (Int.le_refl _);obtain ⟨j,f⟩:=List.mem_iff_getElem?.1 b;have g:=(List.getElem?_eq_some_iff.1 f).1;have:=zcy h.es f d (by omega);omega
theorem zrj {D:Doc} {i:Nat} {e:Ev} (he:D.events[i]?=some e) (hm:¬ D.mark<e.kv.mod):foldTo D (i+1)=foldTo D i:=by
 unfold foldTo;rw [List.take_add_one,he,List.filter_append];simp [hm]
theorem DocOk.prev_at {n:Nat} {D:Doc} (h:DocOk n D) {i:Nat} {e:Ev} (he:D.events[i]?=some e) (hm:D.mark<e.kv.mod):e.prev=(hasL (foldTo D i) e.kv.key).getD kv0:=by
 obtain ⟨a,b⟩:=List.getElem?_eq_some_iff.1 he;refine h.prev (D.events.take i) e (D.events.drop (i+1)) ?_ hm;have:=List.take_append_drop i D.events;rw [List.drop_eq_getElem_cons a,b] at this;exact this.symm
theorem DocOk.uniq_at {n:Nat} {D:Doc} (h:DocOk n D) {i j:Nat} {a b:Ev} (hi:D.events[i]?=some a) (hj:D.events[j]?=some b) (hij:i<j) (he:a.kv.mod=b.kv.mod):a.kv.key≠b.kv.key:=by
 obtain ⟨c,d⟩:=List.getElem?_eq_some_iff.1 hi;obtain ⟨e,f⟩:=List.getElem?_eq_some_iff.1 hj;have:=List.pairwise_iff_getElem.1 h.uniq i j c e hij;rw [d,f] at this;exact this he
end Go.Proofs.YthljnnjpmdgkoaaGreat