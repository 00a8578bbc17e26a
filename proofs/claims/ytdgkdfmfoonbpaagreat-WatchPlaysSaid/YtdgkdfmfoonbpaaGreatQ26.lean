/- Own lemmas. -/
import Derived.Test.YtdgkdfmfoonbpaaGreatQ25
namespace Go.Proofs.YtdgkdfmfoonbpaaGreat
open Go Go.Proofs Go.RowKit
set_option maxRecDepth 100000
abbrev CalQ:=Cal×List Opr×List ByteArray
def doE (S:St) (q:CalQ):Int :=
 if kindN q.1.kind=4 then rangeE S q.1.rg else if kindN q.1.kind=5 then zbu S q.1.rev else if kindN q.1.kind=6 then zfp S q.1.rev q.1.upto else if kindN q.1.kind=7 then 0 else applyE S q.2.1
def doT (S:St) (q:CalQ):St :=
 if kindN q.1.kind=4 then S else if kindN q.1.kind=5 then (if zbu S q.1.rev=0 then compS q.1.rev S else S) else if kindN q.1.kind=6 then S else if kindN q.1.kind=7 then dropS S q.2.2
 else if applyE S q.2.1=0 then applyS S q.2.1 else S
def doD (S:St) (D:Doc) (q:CalQ):Doc :=
 if kindN q.1.kind=4 then D else if kindN q.1.kind=5 then (if zbu S q.1.rev=0 then D.cut q.1.rev else D) else if kindN q.1.kind=6 then D else if kindN q.1.kind=7 then dropD S D q.2.2
 else if applyE S q.2.1=0 then applyD S D q.2.1 else D
theorem zbf {S:St} {ops:List Opr} (h:applyE S ops=0):checkE ops=0/\whenAll S ops=0:=by
 unfold applyE at h
 split at h
 · rename_i hc;exact absurd h hc
 rename_i hc;exact ⟨by simpa using hc,h⟩
theorem zcz {S:St} {rev:Int} (h:zbu S rev=0):rev<=S.rev/\S.mark<rev:=by
 unfold zbu at h
 split at h
 · cases h
 split at h
 · cases h
 omega
theorem zdx {q:CalQ} (h:fewCal q=true):(∀ o∈q.2.1,o.rg.key.size<=3000/\o.rg.end_.size<=3000/\o.value.size<=3000)/\q.2.1.length<=30/\q.2.2.length<=30/\q.1.rg.key.size<=3000/\q.1.rg.end_.size<=3000:=by
 unfold fewCal fewKey at h;simp only [Bool.and_eq_true,decide_eq_true_eq] at h;obtain ⟨⟨⟨⟨a,b⟩,c⟩,d⟩,e⟩:=h;unfold fewOps at a;simp only [Bool.and_eq_true,decide_eq_true_eq,List.all_eq_true] at a;refine ⟨fun o ho=>?_,a.1,b,c,d⟩;have:=a.2 o ho;unfold fewOp at this;simp only [Bool.and_eq_true,decide_eq_true_eq] at this;omega
theorem Good.does {k:Nat} {S:St} {D:Doc} (h:Good k S D) (hk:k<=70) {q:CalQ} (hq:fewCal q=true):Good (k+1) (doT S q) (doD S D q):=by
 obtain ⟨c,e,d,f,g⟩:=zdx hq;unfold doT doD;by_cases h4:kindN q.1.kind=4
 · rw [if_pos h4,if_pos h4];exact h.mono (by omega)
 rw [if_neg h4,if_neg h4]
 by_cases h5:kindN q.1.kind=5
 · rw [if_pos h5,if_pos h5]
   by_cases hc:zbu S q.1.rev=0
   · rw [if_pos hc,if_pos hc]
     obtain ⟨a,b⟩:=zcz hc;rw [h.rev] at a;rw [h.cpl.mark] at b;exact (h.cut (by omega) b a).mono (by omega)
   rw [if_neg hc,if_neg hc];exact h.mono (by omega)
 rw [if_neg h5,if_neg h5]
 by_cases h6:kindN q.1.kind=6
 · rw [if_pos h6,if_pos h6];exact h.mono (by omega)
 rw [if_neg h6,if_neg h6]
 by_cases h7:kindN q.1.kind=7
 · rw [if_pos h7,if_pos h7]
   exact h.drop hk q.2.2 d
 rw [if_neg h7,if_neg h7]
 by_cases ha:applyE S q.2.1=0
 · rw [if_pos ha,if_pos ha]
   exact h.apply hk (zbf ha).1 fun o ho=>by have:=(c o ho).1;omega
 rw [if_neg ha,if_neg ha];exact h.mono (by omega)
theorem Good.compG {k:Nat} {S:St} {D:Doc} (h:Good k S D) (hk:k<=50000) {R:Int} (h1:S.mark<R) (h2:R<=S.rev):CompGk S R:=by
 have d:=h.cpl.m0;have f:=h.rev;rw [h.cpl.mark] at h1;rw [f] at h2;refine ⟨by omega,by rw [h.cpl.mark];exact h1,h.events_pos (by omega),zwo h.cpl.inv h.srt,h.srt,fun p hp H hH=>?_⟩;have e:=(h.ok.hist _ _ hH).1;have c:=h.more _ _ hH;refine ⟨(e.comp c (by omega) R).fits (by omega),?_⟩;obtain ⟨l,a,b⟩:=c.fin;exact ⟨l,by omega,b⟩
theorem zqs {TA:zao} (hT:TreeOk TA 1000000) {k:Nat} {S:St} {D:Doc} (h:Good k S D) (hk:k<=70) (w:World) (s:Nat) (F:Nat->Prop) (hS:zam TA w s S F) (v:Value) (keys:List ByteArray) (hv:SlR w 1 strC v keys)
 (hvF:0<keys.length->∀ b,v.ownBlock=some b->¬ F b) (hl:keys.length<=30) :
 Calls Tryz.prog 55 #[.pointer (some ⟨s,0,none⟩),v] w fun e w'=>∃ ev,e=.returned (.tuple #[ev,.int .i64 0])/\∃ F',zam TA w' s (dropS S keys) F' ∧
  SlF w' 72 13 evC ev (keys.foldl (dropR (S.rev+1)) (S,[])).2/\Fr F w w'/\(∀ b,F' b->F b\/w.heap.size<=b)/\(∀ b,ev.ownBlock=some b->w.heap.size<=b/\¬ F' b):=by
 have g:=h.rev;have j:=h.rev1;have f:=h.cpl.m0;refine zul hT (n:=20000 * k+30) (by omega) w s S F hS v keys hv hvF (by omega) (by unfold top;omega) (by unfold top;omega) fun i x hx=>?_;have d:=(gS_ hx).1;obtain ⟨a,b⟩:=h.drops hk keys hl i (by omega);rw [g];refine ⟨a.ok.mono (by omega),?_,b x hx⟩;have c:=a.ok.ev;rw [a.cpl.events,(Doc.adds_parts D _).2.2,gL_] at c;omega
theorem zhn {TA:zao} (hT:TreeOk TA 1000000) {k:Nat} {S:St} {D:Doc} (h:Good k S D) (hk:k<=70) (w:World) (s:Nat) (F:Nat->Prop) (hS:zam TA w s S F) (v:Value) (ops:List Opr) (hv:SlR w 10 opC v ops)
 (hvF:0<ops.length->∀ b,v.ownBlock=some b->¬ F b) (hl:ops.length<=30) (hks:∀ o∈ops,o.rg.key.size<=3000) :
 Calls Tryz.prog 56 #[.pointer (some ⟨s,0,none⟩),v] w fun e w'=>∃ av ev,e=.returned (.tuple #[av,ev,.int .i64 (applyE S ops)])/\∃ F' Z,zam TA w' s (if applyE S ops=0 then applyS S ops else S) F'/\AnsR w' av Z ∧
  Z.map (·.1)=(if applyE S ops=0 then (runR (S.rev+1) ⟨S,[],[]⟩ ops).A else [])/\SlF w' 72 13 evC ev (if applyE S ops=0 then (runR (S.rev+1) ⟨S,[],[]⟩ ops).E else [])/\Fr F w w'/\(∀ b,F' b->F b\/w.heap.size<=b):=by
 have t:=h.rev;have u:=h.rev1;have r:=h.cpl.m0;by_cases he:applyE S ops=0
 · obtain ⟨j,m⟩:=zbf he
   simp only [if_pos he];rw [he];refine (zxh hT (n:=20000 * k+20000) (by omega) w s S F hS v ops hv hvF (by omega) (fun o ho=>by have:=hks o ho;omega) (by unfold top;omega) (by unfold top;omega) j m fun i o ho=>?_).mono ?_
   · have q:=(gS_ ho).1
     rw [t];exact (h.runs hk j (fun o ho=>by have:=hks o ho;omega) i (by omega)).2 o ho
   rintro e w' ⟨av,ev,rfl,F',Z,a,b,c,d,f,g,_⟩
   exact ⟨av,ev,rfl,F',Z,a,b,c,d,f,g⟩
 simp only [if_neg he]
 refine (zxg hT w s S F hS v ops hv (by omega) (fun o ho=>by have:=hks o ho;omega) he).mono ?_;rintro e w' ⟨rfl,l⟩;exact ⟨_,_,rfl,F,[],hS.fr0 hT l,AnsR.nil _,rfl,SlF.nil _ _ _ _,l.mono fun _ _ h=>h.elim,fun b h=>.inl h⟩
theorem zjv {TA:zao} (hT:TreeOk TA 1000000) (hTD:TreeDl TA) {k:Nat} {S:St} {D:Doc} (h:Good k S D) (hk:k<=70) (w:World) (s:Nat) (F:Nat->Prop) (hS:zam TA w s S F) (rev:Int) :
 Calls Tryz.prog 54 #[.pointer (some ⟨s,0,none⟩),.int .i64 rev] w fun e w'=>e=.returned (.int .i64 (zbu S rev))/\∃ F',zam TA w' s (if zbu S rev=0 then compS rev S else S) F'/\Fr F w w'/\(∀ b,F' b->F b\/w.heap.size<=b):=by
 by_cases he:zbu S rev=0
 · obtain ⟨c,d⟩:=zcz he
   rw [if_pos he,he];exact zjw hT hTD (n:=20000 * k) (by omega) w s S F hS h.ok (by have:=h.size;omega) rev (h.compG (by omega) d c)
 rw [if_neg he]
 refine (zqt w s S F hS rev he).mono ?_;rintro e w' ⟨rfl,a⟩;exact ⟨rfl,F,hS.fr0 hT a,a.mono fun _ _ h=>h.elim,fun b h=>.inl h⟩
theorem zog {TA:zao} (hT:TreeOk TA 1000000) {k:Nat} {S:St} {D:Doc} (h:Good k S D) (hk:k<=70) (w:World) (s:Nat) (F:Nat->Prop) (hS:zam TA w s S F) (g:Rg) (hks:g.key.size<=3000) :
 Calls Tryz.prog 53 #[.pointer (some ⟨s,0,none⟩),rgV g] w fun e w'=>∃ v,e=.returned (.tuple #[v,.int .i64 (if rangeE S g=0 then ((allL S g S.rev).length:Int) else 0),.bool (decide (rangeE S g=0)&&moreB S g S.rev),.int .i64 (rangeE S g)]) ∧
  SlF w' 70 6 kvC v (if rangeE S g=0 then getL S g S.rev else [])/\Fr No w w'/\(∀ b,v.ownBlock=some b->w.heap.size<=b):=by
 by_cases he:rangeE S g=0
 · simp only [he,decide_true,Bool.true_and]
   exact zju hT (n:=20000 * k) (by omega) w s S F hS h.ok (by have:=h.size;omega) g (by omega) he
 simp only [he,decide_false,Bool.false_and]
 refine (zxn hT w s S F hS g (by omega) he).mono ?_;rintro e w' ⟨rfl,a⟩;exact ⟨_,rfl,SlF.nil _ _ _ _,a,fun b hb=>by simp [Value.ownBlock] at hb⟩
set_option maxHeartbeats 8000000 in
theorem zzu {TA:zao} (hT:TreeOk TA 1000000) (hTD:TreeDl TA) {k:Nat} {S:St} {D:Doc} (h:Good k S D) (hk:k<=70) (w:World) (s:Nat) (F:Nat->Prop) (hS:zam TA w s S F) (q:CalQ) (hq:fewCal q=true)
 (ha:SlR w 10 opC q.1.ops q.2.1) (hb:SlR w 1 strC q.1.keys q.2.2) (haF:0<q.2.1.length->∀ b,q.1.ops.ownBlock=some b->¬ F b) (hbF:0<q.2.2.length->∀ b,q.1.keys.ownBlock=some b->¬ F b) :
 Calls Tryz.prog 27 #[.pointer (some ⟨s,0,none⟩),.agg (calC q).toArray] w fun e w'=>e=.returned (.int .i64 (doE S q))/\∃ F',zam TA w' s (doT S q) F'/\Fr F w w'/\(∀ b,F' b->F b\/w.heap.size<=b):=by
 obtain ⟨f1,f2,f3,f4,f5⟩:=zdx hq;have a3:=fun W=>zuj W q;have aF:=zir q.1.kind;have T:=fun W (h1:Fr No w W)=>zog hT h hk W s F (hS.fr0 hT h1) q.1.rg f4;have Y:=fun W (h1:Fr No w W)=>zjv hT hTD h hk W s F (hS.fr0 hT h1) q.1.rev;have X:=fun W (h1:Fr No w W)=>zft hT W s S F (hS.fr0 hT h1) (by have:=h.ok.ev;omega) (fun h1=>h.events_pos (by rw [<-h.rev];exact h1)) q.1.rev q.1.upto;have V:=fun W (h1:Fr No w W)=>zqs hT h hk W s F (hS.fr0 hT h1) q.1.keys q.2.2 (hb.fr0 h1) hbF f3;have U:=fun W (h1:Fr No w W)=>zhn hT h hk W s F (hS.fr0 hT h1) q.1.ops q.2.1 (ha.fr0 h1) haF f2 fun o ho=>(f1 o ho).1;obtain ⟨R,g,ao,_,_,_⟩:=ha.shape;obtain ⟨Q,d,an,_,_,_⟩:=hb.shape;have a2:=fun W (h1:Fr No w W)=>hS.fr0 hT h1;unfold doE doT;clear ha hb haF hbF hq f1 f2 f3 f4 f5 h hk hS hTD
 obtain ⟨⟨p1,p2,⟨y,z,B,C,G,H,I⟩,J,N,p5⟩,i,f⟩:=q;dsimp only at *;subst ao an;unfold calC rgC rgV at *;dsimp only at *;generalize kindN p1=M at *;generalize rangeE S _=O at *;generalize zbu S _=am at *;generalize zfp S _ _=al at *;generalize applyE S _=P at *;generalize (if O=0 then ((allL S ⟨y,z,B,C,G,H,I⟩ S.rev).length:Int) else 0)=aI at *;generalize (decide (O=0)&&moreB S ⟨y,z,B,C,G,H,I⟩ S.rev)=az at *;generalize (if O=0 then getL S ⟨y,z,B,C,G,H,I⟩ S.rev else [])=aG at *;generalize (if am=0 then compS J S else S)=aK at *;generalize (if al=0 then S.events.filter (insB J N) else [])=aH at *;generalize (if P=0 then applyS S i else S)=aJ at *;generalize (if P=0 then (runR (S.rev+1) ⟨S,[],[]⟩ i).A else [])=ay at *
 generalize (if P=0 then (runR (S.rev+1) ⟨S,[],[]⟩ i).E else [])=aq at *;have m:=H_ a3;have ag:=H_ T;have ak:=H_ Y;have aj:=H_ X;have ai:=H_ V;have ah:=H_ U;have a1:=H_ a2;clear a3 T Y X V U a2;have r:Fr No w (w.alloc (Obj.cells #[.int .i64 p1,.slice R i.length g,.string y,.string z,.int .i64 B,.int .i64 C,.bool G,.bool H,.bool I,.int .i64 J,.int .i64 N,.slice Q f.length d] 27)):=(Fr.refl No w).alloc _;have n:=zad w (Obj.cells #[.int .i64 p1,.slice R i.length g,.string y,.string z,.int .i64 B,.int .i64 C,.bool G,.bool H,.bool I,.int .i64 J,.int .i64 N,.slice Q f.length d] 27) _ rfl;by_cases h4:M=4
 · subst h4
   rw [if_pos rfl,if_pos rfl];go_enter Tryz.func27,Tryz.ntmps27
   go_wp2_with (first
   | (go_at_call 52;refine (m.out _).mono ?_;rintro e w1 ⟨rfl,l⟩
      have c:=r.trans0 l;have a:=l.heap n (fun h=>h);have x1:w1.cell? ⟨w.heap.size,1,none⟩=some (.slice R i.length g):=cellAt a 1 rfl;have x2:w1.cell? ⟨w.heap.size,2,none⟩=some (.string y):=cellAt a 2 rfl;have x3:w1.cell? ⟨w.heap.size,3,none⟩=some (.string z):=cellAt a 3 rfl;have x4:w1.cell? ⟨w.heap.size,4,none⟩=some (.int .i64 B):=cellAt a 4 rfl;have x5:w1.cell? ⟨w.heap.size,5,none⟩=some (.int .i64 C):=cellAt a 5 rfl;have x6:w1.cell? ⟨w.heap.size,6,none⟩=some (.bool G):=cellAt a 6 rfl;have x7:w1.cell? ⟨w.heap.size,7,none⟩=some (.bool H):=cellAt a 7 rfl;have x8:w1.cell? ⟨w.heap.size,8,none⟩=some (.bool I):=cellAt a 8 rfl;have x9:w1.cell? ⟨w.heap.size,9,none⟩=some (.int .i64 J):=cellAt a 9 rfl
      have K:w1.cell? ⟨w.heap.size,10,none⟩=some (.int .i64 N):=cellAt a 10 rfl;have L:w1.cell? ⟨w.heap.size,11,none⟩=some (.slice Q f.length d):=cellAt a 11 rfl;have lx:=zab a)
   | (go_at_call 53;refine (ag.out _ c).mono ?_;rintro e w2 ⟨v,rfl,_,j,_⟩))
   go_ret;have t:=c.trans0 j;exact ⟨rfl,F,a1.out _ t,t.mono fun _ _ h=>h.elim,fun b h=>.inl h⟩
 have aB:(M==4)=false:=by simpa using h4
 rw [if_neg h4,if_neg h4];by_cases h5:M=5
 · subst h5
   rw [if_pos rfl,if_pos rfl];go_enter Tryz.func27,Tryz.ntmps27
   go_wp2_with (first
   | (go_at_call 52;refine (m.out _).mono ?_;rintro e w1 ⟨rfl,l⟩
      have c:=r.trans0 l;have a:=l.heap n (fun h=>h);have x1:w1.cell? ⟨w.heap.size,1,none⟩=some (.slice R i.length g):=cellAt a 1 rfl;have x2:w1.cell? ⟨w.heap.size,2,none⟩=some (.string y):=cellAt a 2 rfl;have x3:w1.cell? ⟨w.heap.size,3,none⟩=some (.string z):=cellAt a 3 rfl;have x4:w1.cell? ⟨w.heap.size,4,none⟩=some (.int .i64 B):=cellAt a 4 rfl;have x5:w1.cell? ⟨w.heap.size,5,none⟩=some (.int .i64 C):=cellAt a 5 rfl;have x6:w1.cell? ⟨w.heap.size,6,none⟩=some (.bool G):=cellAt a 6 rfl;have x7:w1.cell? ⟨w.heap.size,7,none⟩=some (.bool H):=cellAt a 7 rfl;have x8:w1.cell? ⟨w.heap.size,8,none⟩=some (.bool I):=cellAt a 8 rfl;have x9:w1.cell? ⟨w.heap.size,9,none⟩=some (.int .i64 J):=cellAt a 9 rfl
      have K:w1.cell? ⟨w.heap.size,10,none⟩=some (.int .i64 N):=cellAt a 10 rfl;have L:w1.cell? ⟨w.heap.size,11,none⟩=some (.slice Q f.length d):=cellAt a 11 rfl;have lx:=zab a)
   | (go_at_call 54;refine (ak.out _ c).mono ?_;rintro e w2 ⟨rfl,F2,x,j,u⟩))
   go_ret;refine ⟨rfl,F2,x,(c.mono fun _ _ h=>h.elim).trans j fun _ _ h=>h,fun b hb=>?_⟩;have:=c.size;rcases u b hb with h | h
   · exact .inl h
   exact .inr (by omega)
 have aC:(M==5)=false:=by simpa using h5
 rw [if_neg h5,if_neg h5];by_cases h6:M=6
 · subst h6
   rw [if_pos rfl,if_pos rfl];go_enter Tryz.func27,Tryz.ntmps27
   go_wp2_with (first
   | (go_at_call 52;refine (m.out _).mono ?_;rintro e w1 ⟨rfl,l⟩
      have c:=r.trans0 l;have a:=l.heap n (fun h=>h);have x1:w1.cell? ⟨w.heap.size,1,none⟩=some (.slice R i.length g):=cellAt a 1 rfl;have x2:w1.cell? ⟨w.heap.size,2,none⟩=some (.string y):=cellAt a 2 rfl;have x3:w1.cell? ⟨w.heap.size,3,none⟩=some (.string z):=cellAt a 3 rfl;have x4:w1.cell? ⟨w.heap.size,4,none⟩=some (.int .i64 B):=cellAt a 4 rfl;have x5:w1.cell? ⟨w.heap.size,5,none⟩=some (.int .i64 C):=cellAt a 5 rfl;have x6:w1.cell? ⟨w.heap.size,6,none⟩=some (.bool G):=cellAt a 6 rfl;have x7:w1.cell? ⟨w.heap.size,7,none⟩=some (.bool H):=cellAt a 7 rfl;have x8:w1.cell? ⟨w.heap.size,8,none⟩=some (.bool I):=cellAt a 8 rfl;have x9:w1.cell? ⟨w.heap.size,9,none⟩=some (.int .i64 J):=cellAt a 9 rfl
      have K:w1.cell? ⟨w.heap.size,10,none⟩=some (.int .i64 N):=cellAt a 10 rfl;have L:w1.cell? ⟨w.heap.size,11,none⟩=some (.slice Q f.length d):=cellAt a 11 rfl;have lx:=zab a)
   | (go_at_call 42;refine (aj.out _ c).mono ?_;rintro e w2 ⟨v,rfl,_,j,_⟩))
   go_ret;have t:=c.trans0 j;exact ⟨rfl,F,a1.out _ t,t.mono fun _ _ h=>h.elim,fun b h=>.inl h⟩
 have aD:(M==6)=false:=by simpa using h6
 rw [if_neg h6,if_neg h6];by_cases h7:M=7
 · subst h7
   rw [if_pos rfl,if_pos rfl];go_enter Tryz.func27,Tryz.ntmps27
   go_wp2_with (first
   | (go_at_call 52;refine (m.out _).mono ?_;rintro e w1 ⟨rfl,l⟩
      have c:=r.trans0 l;have a:=l.heap n (fun h=>h);have x1:w1.cell? ⟨w.heap.size,1,none⟩=some (.slice R i.length g):=cellAt a 1 rfl;have x2:w1.cell? ⟨w.heap.size,2,none⟩=some (.string y):=cellAt a 2 rfl;have x3:w1.cell? ⟨w.heap.size,3,none⟩=some (.string z):=cellAt a 3 rfl;have x4:w1.cell? ⟨w.heap.size,4,none⟩=some (.int .i64 B):=cellAt a 4 rfl;have x5:w1.cell? ⟨w.heap.size,5,none⟩=some (.int .i64 C):=cellAt a 5 rfl;have x6:w1.cell? ⟨w.heap.size,6,none⟩=some (.bool G):=cellAt a 6 rfl;have x7:w1.cell? ⟨w.heap.size,7,none⟩=some (.bool H):=cellAt a 7 rfl;have x8:w1.cell? ⟨w.heap.size,8,none⟩=some (.bool I):=cellAt a 8 rfl;have x9:w1.cell? ⟨w.heap.size,9,none⟩=some (.int .i64 J):=cellAt a 9 rfl
      have K:w1.cell? ⟨w.heap.size,10,none⟩=some (.int .i64 N):=cellAt a 10 rfl;have L:w1.cell? ⟨w.heap.size,11,none⟩=some (.slice Q f.length d):=cellAt a 11 rfl;have lx:=zab a)
   | (go_at_call 55;refine (ai.out _ c).mono ?_;rintro e w2 ⟨v,rfl,F2,x,_,j,u,_⟩))
   go_ret;refine ⟨rfl,F2,x,(c.mono fun _ _ h=>h.elim).trans j fun _ _ h=>h,fun b hb=>?_⟩;have:=c.size;rcases u b hb with h | h
   · exact .inl h
   exact .inr (by omega)
 have aE:(M==7)=false:=by simpa using h7
 rw [if_neg h7,if_neg h7];go_enter Tryz.func27,Tryz.ntmps27
 go_wp2_with (first
 | (go_at_call 52;refine (m.out _).mono ?_;rintro e w1 ⟨rfl,l⟩
    have c:=r.trans0 l;have a:=l.heap n (fun h=>h);have x1:w1.cell? ⟨w.heap.size,1,none⟩=some (.slice R i.length g):=cellAt a 1 rfl;have x2:w1.cell? ⟨w.heap.size,2,none⟩=some (.string y):=cellAt a 2 rfl;have x3:w1.cell? ⟨w.heap.size,3,none⟩=some (.string z):=cellAt a 3 rfl;have x4:w1.cell? ⟨w.heap.size,4,none⟩=some (.int .i64 B):=cellAt a 4 rfl;have x5:w1.cell? ⟨w.heap.size,5,none⟩=some (.int .i64 C):=cellAt a 5 rfl;have x6:w1.cell? ⟨w.heap.size,6,none⟩=some (.bool G):=cellAt a 6 rfl;have x7:w1.cell? ⟨w.heap.size,7,none⟩=some (.bool H):=cellAt a 7 rfl;have x8:w1.cell? ⟨w.heap.size,8,none⟩=some (.bool I):=cellAt a 8 rfl;have x9:w1.cell? ⟨w.heap.size,9,none⟩=some (.int .i64 J):=cellAt a 9 rfl
    have K:w1.cell? ⟨w.heap.size,10,none⟩=some (.int .i64 N):=cellAt a 10 rfl;have L:w1.cell? ⟨w.heap.size,11,none⟩=some (.slice Q f.length d):=cellAt a 11 rfl;have lx:=zab a)
 | (go_at_call 56;refine (ah.out _ c).mono ?_;rintro e w2 ⟨av,ev,rfl,F2,Z,x,_,_,_,j,u⟩))
 go_ret;refine ⟨rfl,F2,x,(c.mono fun _ _ h=>h.elim).trans j fun _ _ h=>h,fun b hb=>?_⟩;have:=c.size;rcases u b hb with h | h
 · exact .inl h
 exact .inr (by omega)
def rg0 (key:ByteArray):Rg:=⟨key,ByteArray.empty,0,0,false,false,false⟩
def bA:ByteArray:=⟨#[97]⟩
def b1:ByteArray:=⟨#[49]⟩
def b2:ByteArray:=⟨#[50]⟩
def putO (k v:ByteArray):Opr:=⟨1,rg0 k,v,0⟩
def bareIf (g:Rg) (x:Kv):Kv:=if g.keys then { x with value:=ByteArray.empty } else x
def allA (g:Rg) (l:List Kv):List Kv:=(if g.desc then l.reverse else l).filter fun y=>inB y.key g.key g.end_
def outN (g:Rg) (n:Nat):Nat:=if g.limit=0 then n else min n g.limit.toNat
def outA (g:Rg) (l:List Kv):List Kv:=if g.count then [] else ((allA g l).take (outN g (allA g l).length)).map (bareIf g)
def moreA (g:Rg) (l:List Kv):Bool:=!g.count&&decide ((outA g l).length<(allA g l).length)
theorem zvt (g:Rg) (n:Nat):outN g n<=n:=by unfold outN;split <;> omega
theorem zyf {g:Rg} (hc:g.count=false) (l:List Kv):(outA g l).length=outN g (allA g l).length:=by
 unfold outA;rw [hc];have:=zvt g (allA g l).length;simp only [Bool.false_eq_true,if_false,List.length_map,List.length_take];omega
theorem zsy (g:Rg) (l:List Kv):l.map (bareIf g)=if g.keys then l.map (fun x=>{ x with value:=ByteArray.empty }) else l:=by
 unfold bareIf;cases g.keys
 · simp
 simp
theorem zte {S:St} {g:Rg} {rev:Int} {l:List Kv} (h:allL S g rev=l.filter fun y=>inB y.key g.key g.end_) (h0:0<=g.limit) :
 getL S g rev=outA g l/\(allL S g rev).length=(allA g l).length/\moreB S g rev=moreA g l:=by
 have d:allA g l=if g.desc then (allL S g rev).reverse else allL S g rev:=by
  unfold allA;rw [h]
  split
  · rw [List.filter_reverse]
  rfl
 have a:(allL S g rev).length=(allA g l).length:=by
  rw [d];split <;> simp
 cases hc:g.count with
 | true =>
   refine ⟨?_,a,?_⟩
   · unfold getL outA;rw [hc];rfl
   unfold moreB moreA;rw [hc];rfl
 | false =>
   have e:=zyf hc l
   have b:moreB S g rev=moreA g l:=by
    unfold moreB moreA;rw [hc,e,a];unfold outN;rw [Bool.eq_iff_iff];simp only [Bool.not_false,Bool.true_and,Bool.and_eq_true,decide_eq_true_eq]
    split
    · omega
    omega
   refine ⟨?_,a,b⟩;unfold getL outA;rw [hc,zsy,<-d];simp only [Bool.false_eq_true,if_false]
   have:cutL g (moreB S g rev) (allA g l)=(allA g l).take (outN g (allA g l).length):=by
    unfold cutL;rw [b];unfold moreA;rw [hc,e];by_cases hm:outN g (allA g l).length<(allA g l).length
    · rw [dT_ hm]
      unfold outN at hm ⊢
      split at hm
      · omega
      rename_i hl
      rw [if_neg hl];simp only [Bool.not_false,Bool.true_and,if_true];have c:min (allA g l).length g.limit.toNat=g.limit.toNat:=(by omega);rw [c]
    have c:outN g (allA g l).length=(allA g l).length:=by have:=zvt g (allA g l).length;omega
    rw [dF_ hm,c,List.take_length]
    rfl
   rw [this]
structure RunD where
 now:List Kv
 A:List Ans
 E:List Ev
def wasL (l:List Kv) (key:ByteArray):Kv:=(hasL l key).getD kv0
def putD (l:List Kv) (o:Opr) (rev:Int):Ev :=
 ⟨1,⟨o.rg.key,o.value,if (wasL l o.rg.key).version=0 then rev else (wasL l o.rg.key).create,rev,(wasL l o.rg.key).version+1,o.lease⟩,wasL l o.rg.key⟩
def delG (o:Opr):Rg:=⟨o.rg.key,o.rg.end_,0,0,false,false,false⟩
def getD (D:Doc) (now:List Kv) (o:Opr):List Kv:=if o.rg.rev≠0 then D.at o.rg.rev else now
def stepD (D:Doc) (r:RunD) (o:Opr):RunD :=
 if o.kind=1 then ⟨doneL r.now (putD r.now o (D.rev+1)),r.A++[⟨1,told (putD r.now o (D.rev+1)),(told (putD r.now o (D.rev+1))).length,false⟩],r.E++[putD r.now o (D.rev+1)]⟩
 else if o.kind=3 then ⟨r.now,r.A++[⟨3,outA o.rg (getD D r.now o),(allA o.rg (getD D r.now o)).length,moreA o.rg (getD D r.now o)⟩],r.E⟩
 else ⟨(outA (delG o) r.now).foldl (fun l x=>doneL l (goneE x (D.rev+1))) r.now,r.A++[⟨o.kind,outA (delG o) r.now,(outA (delG o) r.now).length,false⟩],r.E++(outA (delG o) r.now).map fun x=>goneE x (D.rev+1)⟩
def runD (D:Doc) (ops:List Opr):RunD:=ops.foldl (stepD D) ⟨D.at D.rev,[],[]⟩
theorem zmp (D:Doc) (ops:List Opr) {i:Nat} {o:Opr} (h:ops[i]?=some o):runD D (ops.take (i+1))=stepD D (runD D (ops.take i)) o:=by
 unfold runD;rw [gK_,h,List.foldl_append]
 rfl
theorem zky (o:Opr) (l:List Kv):outA (delG o) l=l.filter fun y=>inB y.key o.rg.key o.rg.end_:=by
 unfold outA allA outN delG bareIf;simp
theorem Doc.adds_append (D:Doc) (E G:List Ev):D.adds (E++G)=(D.adds E).adds G:=by unfold Doc.adds;rw [List.foldl_append]
theorem Doc.adds_at {r:Int} (G:List Ev):∀ D:Doc,(∀ e∈G,D.mark<e.kv.mod/\e.kv.mod<=r)->(D.adds G).at r=G.foldl doneL (D.at r):=by
 induction G with
 | nil=>intro D _;rfl
 | cons x G ih =>
   intro D h;have a:=h x List.mem_cons_self;have e:D.adds (x :: G)=(D.add x).adds G:=rfl;rw [e,ih (D.add x) fun e he=>h e (List.mem_cons_of_mem _ he),Doc.add_at D x a.1,if_pos a.2]
   rfl
theorem zzaq (rev:Int) (L:List Kv) (h:∀ x∈L,1<=x.version):∀ q:St×List Kv×List Ev,(L.foldl (goneR rev) q).2.1=q.2.1++L:=by
 induction L with
 | nil=>intro q;simp
 | cons x L ih =>
   intro q;rw [List.foldl_cons,ih fun y hy=>h y (List.mem_cons_of_mem _ hy)];unfold goneR;rw [zmi (h x List.mem_cons_self)];simp
theorem zna {o:Opr} (h:oneE o=0):o.kind=1\/o.kind=2\/o.kind=3:=by
 unfold oneE at h;by_cases h3:o.kind=3
 · exact .inr (.inr h3)
 rw [if_neg h3] at h
 by_cases h2:o.kind=2
 · exact .inr (.inl h2)
 rw [if_neg h2] at h
 by_cases h1:o.kind=1
 · exact .inl h1
 rw [if_neg h1] at h;cases h
theorem zxf {g:Rg} (h:askE g=0):0<=g.rev/\0<=g.limit:=by
 unfold askE at h
 split at h
 · rename_i hk;exact absurd h hk
 split at h
 · cases h
 split at h
 · cases h
 omega
theorem zse {S:St} {rev:Int} (h:whenE S rev=0):rev<=S.rev/\(rev≠0->S.mark<=rev):=by
 unfold whenE at h
 split at h
 · cases h
 split at h
 · cases h
 omega
theorem zok {S:St} {ops:List Opr} (h:whenAll S ops=0) {o:Opr} (ho:o∈ops) (h3:o.kind=3):whenE S o.rg.rev=0:=by
 unfold whenAll at h
 cases hf:ops.find? (fun o=>o.kind==3&&whenE S o.rg.rev != 0) with
 | none =>
   have:=List.find?_eq_none.1 hf o ho;simpa [h3] using this
 | some q =>
   rw [hf] at h;have:=List.find?_some hf;simp at this;exact absurd h this.2
theorem Good.at_next {k:Nat} {S:St} {D:Doc} (h:Good k S D):D.at (D.rev+1)=D.at D.rev:=Doc.at_late (fun e he=>(h.doc.lo e he).2.2) (by omega) (Int.le_refl _)
theorem Good.runD {k:Nat} {S:St} {D:Doc} (h:Good k S D) (hk:k<=70) {ops:List Opr} (hc:checkE ops=0) (hw:whenAll S ops=0) (hks:∀ o∈ops,o.rg.key.size<=1099511627776) :
 ∀ i≤ ops.length,(Go.Proofs.YtdgkdfmfoonbpaaGreat.runD D (ops.take i)).now=(D.adds (runR (D.rev+1) ⟨S,[],[]⟩ (ops.take i)).E).at (D.rev+1) ∧
  (Go.Proofs.YtdgkdfmfoonbpaaGreat.runD D (ops.take i)).A=(runR (D.rev+1) ⟨S,[],[]⟩ (ops.take i)).A/\(Go.Proofs.YtdgkdfmfoonbpaaGreat.runD D (ops.take i)).E=(runR (D.rev+1) ⟨S,[],[]⟩ (ops.take i)).E:=by
 intro i
 induction i with
 | zero=>intro _;exact ⟨h.at_next.symm,rfl,rfl⟩
 | succ i ih =>
   intro Y;obtain ⟨l,K,L⟩:=ih (by omega);obtain ⟨o,I⟩:∃ o,ops[i]?=some o:=⟨_,gG_ (by omega)⟩;have z:=gM_ I;have a:=(zdg hc).2.1 o z;obtain ⟨⟨j,_⟩,_⟩:=h.runs hk hc hks i (by omega);rw [zmp _ _ I,zii _ _ _ I];generalize Go.Proofs.YtdgkdfmfoonbpaaGreat.runD D (ops.take i)=q at *;generalize runR (D.rev+1) ⟨S,[],[]⟩ (ops.take i)=r at *;obtain ⟨b,V,W⟩:=q;dsimp only at l K L;subst K L;have w:=h.cpl.m0;have d:=Doc.adds_parts D r.E;have g:(D.adds r.E).mark<=D.rev+1:=(by rw [d.1];omega);have v:KSorted (D.adds r.E).kvs:=(by rw [d.2.1];exact h.cpl.ks);have H:=j.cpl.lives o.rg.key (D.rev+1) g
   have F:(livesS r.S o.rg.key (D.rev+1)).1=wasL b o.rg.key:=by
    unfold wasL;rw [H,l];cases hasL ((D.adds r.E).at (D.rev+1)) o.rg.key <;> rfl
   have f:∀ G:List Ev,(∀ e∈G,e.kv.mod=D.rev+1)->(D.adds (r.E++G)).at (D.rev+1)=G.foldl doneL b:=fun G hG=>by
    rw [Doc.adds_append,Doc.adds_at G (D.adds r.E) fun e he=>by rw [d.1,hG e he];omega,<-l]
   rcases zna a with t | u | c
   · have U:zay r.S o (D.rev+1)=putD b o (D.rev+1):=by unfold zay putD;rw [F]
     unfold stepD stepR;rw [if_pos t,if_pos t,U];refine ⟨?_,rfl,rfl⟩;dsimp only;rw [f _ fun e he=>by rw [List.mem_singleton.1 he];rfl]
     rfl
   · have m:¬ o.kind=1:=by omega
     have T:¬ o.kind=3:=(by omega);have C:zbc r.S o.rg.key o.rg.end_ (D.rev+1)=outA (delG o) b:=(by rw [j.between w.2,<-l,zky])
     have B:∀ x∈outA (delG o) b,1<=x.version:=fun x hx=>by
      rw [zky,l] at hx;exact (j.doc.ver_at v (gF_ hx).1).1
     unfold stepD stepR;rw [if_neg m,if_neg m,if_neg T,if_pos u,C];dsimp only;refine ⟨?_,?_,?_⟩
     · rw [zpo]
       dsimp only;rw [f _ fun e he=>by obtain ⟨x,_,rfl⟩:=List.mem_map.1 he;rfl,List.foldl_map]
     · rw [zzaq _ _ B]
       dsimp only;rw [u]
       rfl
     rw [zpo]
   have m:¬ o.kind=1:=by omega
   have R:¬ o.kind=2:=(by omega)
   have s:askE o.rg=0:=by
    unfold oneE at a;rw [if_pos c] at a;exact a
   obtain ⟨X,Q⟩:=zxf s;obtain ⟨P,J⟩:=zse (zok hw z c);rw [h.rev] at P;rw [h.cpl.mark] at J
   have n:allL r.S o.rg (D.rev+1)=(getD D b o).filter fun y=>inB y.key o.rg.key o.rg.end_:=by
    unfold allL revOf getD;by_cases hz:o.rg.rev≠0
    · rw [if_pos hz,if_pos hz]
      unfold zbc;rw [j.cpl.between j.srt _ _ (by rw [d.1];exact J hz),Doc.adds_at_old D r.E fun e he=>by rw [j.mods e he];omega]
      congr 1
      funext y
      exact zvn _ _ _
    rw [if_neg hz,if_neg hz,j.between w.2,<-l]
   obtain ⟨M,N,O⟩:=zte n Q;unfold stepD stepR;rw [if_neg m,if_neg m,if_pos c,if_neg R,if_pos c,M,N,O];exact ⟨l,rfl,rfl⟩
def zqk (D:Doc) (E:List Ev):Doc:=if E = [] then D else ⟨D.rev+1,D.mark,D.kvs,D.events++E⟩
theorem zqp (D:Doc) (E:List Ev) (h:∀ e∈E,e.kv.mod=D.rev+1):D.adds E=zqk D E:=by
 have d:=Doc.adds_rev D E _ h;have f:=Doc.adds_parts D E;unfold zqk;by_cases hE:E = []
 · subst hE;rfl
 rw [if_neg hE] at d ⊢
 obtain ⟨a,b,c⟩:=f;cases hD:D.adds E
 rw [hD] at d a b c;dsimp only at d a b c;rw [d,a,b,c]
def dropQ (rev:Int) (q:List Kv×List Ev) (k:ByteArray):List Kv×List Ev :=
 if 0<(wasL q.1 k).version then (doneL q.1 (dropE k rev (wasL q.1 k)),q.2++[dropE k rev (wasL q.1 k)]) else q
def dropsQ (D:Doc) (keys:List ByteArray):List Kv×List Ev:=keys.foldl (dropQ (D.rev+1)) (D.at D.rev,[])
theorem zjd (D:Doc) (keys:List ByteArray) {i:Nat} {k:ByteArray} (h:keys[i]?=some k):dropsQ D (keys.take (i+1))=dropQ (D.rev+1) (dropsQ D (keys.take i)) k:=by
 unfold dropsQ;rw [gK_,h,List.foldl_append]
 rfl
def dropDE (D:Doc) (keys:List ByteArray):Int:=if (dropsQ D keys).2≠[]/\top<=D.rev then 37 else 0
def dropDD (D:Doc) (keys:List ByteArray):Doc:=if dropDE D keys=0 then zqk D (dropsQ D keys).2 else D
theorem Good.dropsQ {k:Nat} {S:St} {D:Doc} (h:Good k S D) (hk:k<=70) (keys:List ByteArray) (hl:keys.length<=30) :
 ∀ i≤ keys.length,Go.Proofs.YtdgkdfmfoonbpaaGreat.dropsQ D (keys.take i)=((D.adds (dropTo (D.rev+1) S keys i).2).at (D.rev+1),(dropTo (D.rev+1) S keys i).2):=by
 intro i
 induction i with
 | zero=>intro _;exact Prod.ext h.at_next.symm rfl
 | succ i ih =>
   intro n;obtain ⟨x,g⟩:∃ x,keys[i]?=some x:=⟨_,gG_ (by omega)⟩;obtain ⟨f,_⟩:=h.drops hk keys hl i (by omega);rw [zjd _ _ g,zeq _ _ _ g,ih (by omega)];generalize dropTo (D.rev+1) S keys i=q at *;have j:=h.cpl.m0;have b:=Doc.adds_parts D q.2;have a:KSorted (D.adds q.2).kvs:=(by rw [b.2.1];exact h.cpl.ks);have c:=f.cpl.lives x (D.rev+1) (by rw [b.1];omega);unfold dropQ dropR;dsimp only
   have l:(livesS q.1 x (D.rev+1)).1=wasL ((D.adds q.2).at (D.rev+1)) x:=by
    unfold wasL;rw [c];cases hasL ((D.adds q.2).at (D.rev+1)) x <;> rfl
   have d:(livesS q.1 x (D.rev+1)).2=true↔0<(wasL ((D.adds q.2).at (D.rev+1)) x).version:=by
    unfold wasL;rw [c]
    cases hh:hasL ((D.adds q.2).at (D.rev+1)) x with
    | none=>exact ⟨fun e=>(by cases e),fun e=>(by have m:(0:Int)<0:=e;omega)⟩
    | some y =>
      have:=(f.doc.ver_at a ((zbo (Doc.at_sorted a _) x y).1 hh).1).1;exact ⟨fun _=>(by show 0<y.version;omega),fun _=>rfl⟩
   by_cases hv:0<(wasL ((D.adds q.2).at (D.rev+1)) x).version
   · rw [if_pos hv,if_pos (d.2 hv),l]
     dsimp only;rw [Doc.adds_append,Doc.adds_at [dropE x (D.rev+1) (wasL ((D.adds q.2).at (D.rev+1)) x)] (D.adds q.2) fun e he=>by rw [b.1,gI_ he];show D.mark<D.rev+1/\D.rev+1<=D.rev+1;omega]
     rfl
   rw [if_neg hv,if_neg fun e=>hv (d.1 e)]
theorem Good.dropDoc {k:Nat} {S:St} {D:Doc} (h:Good k S D) (hk:k<=70) (keys:List ByteArray) (hl:keys.length<=30) :
 dropDE D keys=0/\(keys.foldl (dropR (S.rev+1)) (S,[])).2=(Go.Proofs.YtdgkdfmfoonbpaaGreat.dropsQ D keys).2/\dropD S D keys=dropDD D keys:=by
 have e:=h.rev1;have b:dropDE D keys=0:=by unfold dropDE;rw [if_neg fun hh=>by have:=hh.2;unfold top at this;omega]
 have a:=h.dropsQ hk keys hl keys.length (Nat.le_refl _);obtain ⟨d,_⟩:=h.drops hk keys hl keys.length (Nat.le_refl _);have c:dropTo (D.rev+1) S keys keys.length=keys.foldl (dropR (D.rev+1)) (S,[]):=by unfold dropTo;rw [List.take_length]
 rw [List.take_length,c] at a;rw [c] at d;refine ⟨b,by rw [a,h.rev],?_⟩;unfold dropD dropDD;rw [if_pos b,a];exact zqp D _ d.mods
def zbb (D:Doc) (a b:Int):Int:=if a<1\/b<a then 1 else if D.rev<b then 33 else if a<D.mark then 32 else 0
theorem Good.eventsDoc {k:Nat} {S:St} {D:Doc} (h:Good k S D) (a b:Int):zfp S a b=zbb D a b/\S.events=D.events:=by
 refine ⟨?_,h.cpl.events⟩;unfold zfp zbb;rw [h.rev,h.cpl.mark]
structure Wt where
 key:ByteArray
 end_:ByteArray
 frm:Int
 np:Bool
 nd:Bool
 prev:Bool
def wantB (t:Wt) (x:Ev):Bool:=!(decide (x.kv.mod<t.frm) || !inB x.kv.key t.key t.end_||(decide (x.kind=1)&&t.np)||(decide (x.kind=2)&&t.nd))
def handE (t:Wt) (x:Ev):Ev:=if t.prev then x else ⟨x.kind,x.kv,kv0⟩
def wantsW (t:Wt) (l:List Ev):List Ev:=(l.filter (wantB t)).map (handE t)
theorem zkl (t:Wt) (a b:List Ev):wantsW t (a++b)=wantsW t a++wantsW t b:=by
 unfold wantsW;rw [List.filter_append,List.map_append]
theorem zia (t:Wt) {l:List Ev} {i:Nat} {x:Ev} (h:l[i]?=some x):wantsW t (l.take (i+1))=if wantB t x then wantsW t (l.take i)++[handE t x] else wantsW t (l.take i):=by
 rw [gK_,h,zkl];unfold wantsW;cases hw:wantB t x <;> simp [hw]
theorem zcf (t:Wt) (l:List Ev):(wantsW t l).length<=l.length:=by
 unfold wantsW;rw [List.length_map];exact List.length_filter_le _ _
structure Sm where
 w:Wt
 buf:List Ev
 place:Int
structure Hb where
 fed:Int
 last:Int
 L:List (Int×Sm)
def getH (L:List (Int×Sm)) (i:Int):Option Sm:=(L.find? fun p=>p.1==i).map (·.2)
def setH (L:List (Int×Sm)) (i:Int) (s:Sm):List (Int×Sm):=L.map fun p=>if p.1=i then (i,s) else p
def delH (L:List (Int×Sm)) (i:Int):List (Int×Sm):=L.filter fun p=>decide (p.1≠i)
structure HbOk (h:Hb):Prop where
 up:h.L.Pairwise fun a b=>a.1<b.1
 ids:∀ p∈h.L,1<=p.1/\p.1<=h.last
 last:0<=h.last
theorem zcy {L:List (Int×Sm)} (h:L.Pairwise fun a b=>a.1<b.1) {i:Int} {s:Sm}:getH L i=some s↔(i,s)∈L:=by
 unfold getH
 induction L with
 | nil=>simp
 | cons p L ih =>
   obtain ⟨d,f⟩:=gP_ h;rw [List.find?_cons,List.mem_cons];by_cases e:p.1=i
   · have:(p.1==i)=true:=by simpa using e
     rw [this];simp only [Option.map_some,Option.some.injEq]
     constructor
     · rintro rfl
       exact .inl (by rw [<-e])
     rintro (c | c)
     · rw [<-c]
     have:=d _ c
     dsimp only at this;omega
   have:(p.1==i)=false:=by simpa using e
   rw [this];dsimp only;rw [ih f]
   constructor
   · exact .inr
   rintro (c | c)
   · exact absurd (by rw [<-c]) e
   exact c
theorem zra (L:List (Int×Sm)) (i:Int) (s:Sm):(setH L i s).map (·.1)=L.map (·.1):=by
 unfold setH;rw [List.map_map];refine List.map_congr_left fun p _=>?_
 show (if p.1=i then (i,s) else p).1=p.1
 split
 · rename_i h;exact h.symm
 rfl
theorem zcs {L:List (Int×Sm)}:(L.Pairwise fun a b=>a.1<b.1)↔(L.map (·.1)).Pairwise (· < ·):=by rw [List.pairwise_map]
theorem HbOk.set {h:Hb} (hk:HbOk h) (i:Int) (s:Sm) (f:Int):HbOk ⟨f,h.last,setH h.L i s⟩ where
 up:=by
  rw [zcs,zra,<-zcs];exact hk.up
 ids:=fun p hp=>by
  have:p.1∈(setH h.L i s).map (·.1):=List.mem_map.2 ⟨p,hp,rfl⟩;rw [zra] at this;obtain ⟨q,hq,e⟩:=List.mem_map.1 this;rw [<-e];exact hk.ids q hq
 last:=hk.last
theorem HbOk.del {h:Hb} (hk:HbOk h) (i:Int):HbOk ⟨h.fed,h.last,delH h.L i⟩ where
 up:=hk.up.sublist List.filter_sublist
 ids:=fun p hp=>hk.ids p (gF_ hp).1
 last:=hk.last
theorem HbOk.none {h:Hb} (hk:HbOk h) {i:Int} (hi:h.last<i\/i<1):getH h.L i=none:=by
 cases hg:getH h.L i with
 | none=>rfl
 | some s =>
   have:=hk.ids _ ((zcy hk.up).1 hg);dsimp only at this;omega
def openE (t:Wt):Int:=if askE ⟨t.key,t.end_,0,0,false,false,false⟩≠0 then askE ⟨t.key,t.end_,0,0,false,false,false⟩ else if t.frm<0 then 1 else 0
def openS (h:Hb) (t:Wt):Sm:=⟨t,[],if 1<=t.frm/\t.frm<=h.fed then t.frm else h.fed+1⟩
def openH (h:Hb) (t:Wt):Hb:=⟨h.fed,h.last+1,h.L++[(h.last+1,openS h t)]⟩
theorem HbOk.open {h:Hb} (hk:HbOk h) (t:Wt):HbOk (openH h t) where
 up:=by
  unfold openH;rw [List.pairwise_append];refine ⟨hk.up,by simp,fun a ha b hb=>?_⟩;rw [List.mem_singleton.1 hb];have:=(hk.ids a ha).2;dsimp only;omega
 ids:=fun p hp=>by
  have hl:=hk.last;unfold openH at hp ⊢
  dsimp only at hp ⊢
  rcases gA_ hp with h1 | h1
  · have:=hk.ids p h1
    omega
  rw [List.mem_singleton.1 h1]
  dsimp only;omega
 last:=by
  have:=hk.last;unfold openH;dsimp only;omega
def evsAt (D:Doc) (r:Int):List Ev:=if zbb D r r=0 then D.events.filter fun e=>decide (e.kv.mod=r) else []
def lookS (D:Doc) (r:Int) (s:Sm):Sm :=
 if s.place=r/\zbb D r r=0/\s.buf.length+(wantsW s.w (evsAt D r)).length<=64 then ⟨s.w,s.buf++wantsW s.w (evsAt D r),s.place+1⟩ else s
def feed1 (D:Doc) (h:Hb):Hb:=⟨h.fed+1,h.last,h.L.map fun p=>(p.1,lookS D (h.fed+1) p.2)⟩
def feedN (D:Doc):Nat->Hb->Hb
 | 0,h=>h
 | n+1,h=>feedN D n (feed1 D h)
def feedH (D:Doc) (h:Hb):Hb:=feedN D (D.rev-h.fed).toNat h
def catchN (D:Doc) (fed:Int) (t:Wt):Nat->Bool->Int->List Ev->Int×List Ev
 | 0,_,p,out=>(p,out)
 | n+1,first,p,out =>
   if p<=fed then
    if zbb D p p≠0\/(first=false/\64<out.length+(wantsW t (evsAt D p)).length) then (p,out)
    else catchN D fed t n false (p+1) (out++wantsW t (evsAt D p))
   else (p,out)
def catchH (D:Doc) (fed:Int) (s:Sm):Int×List Ev:=catchN D fed s.w (fed-s.place+1).toNat true s.place []
structure Bat where
 evs:List Ev
 rev:Int
 cancel:Bool
def takeE (h:Hb) (i:Int):Int:=if getH h.L i=none then 36 else 0
def takeB (D:Doc) (h:Hb) (i:Int):Bat :=
 match getH h.L i with
 | none=>⟨[],0,false⟩
 | some s=>if 0<s.buf.length then ⟨s.buf,s.place-1,false⟩ else if s.place<=h.fed/\s.place<D.mark then ⟨[],D.mark,true⟩ else ⟨(catchH D h.fed s).2,(catchH D h.fed s).1-1,false⟩
def takeH (D:Doc) (h:Hb) (i:Int):Hb :=
 match getH h.L i with
 | none=>h
 | some s=>if 0<s.buf.length then ⟨h.fed,h.last,setH h.L i ⟨s.w,[],s.place⟩⟩ else if s.place<=h.fed/\s.place<D.mark then ⟨h.fed,h.last,delH h.L i⟩ else ⟨h.fed,h.last,setH h.L i ⟨s.w,[],(catchH D h.fed s).1⟩⟩
def zet (h:Hb):List Int:=(h.L.filter fun p=>decide (p.2.place<=h.fed)).map (·.1)
end Go.Proofs.YtdgkdfmfoonbpaaGreat