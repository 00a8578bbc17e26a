/- Own lemmas and contracts that the claim's proof needs, laid together. The conditions stand in each. -/
import Derived.Test.YthljnnjpmdgkoaaN15
import Derived.Test.YthljnnjpmdgkoaaN16
import Derived.Test.YthljnnjpmdgkoaaN14
import Derived.Test.YthljnnjpmdgkoaaN00
import Derived.Test.YthljnnjpmdgkoaaN21
namespace Go.Proofs.Ythljnnjpmdgkoaa
open Go Go.Proofs Go.RowKit
set_option maxRecDepth 100000
def st0:St:={ T:=[],past:=fun _=>none,next:=0,rev:=0,mark:=0,events:=[] }
theorem zcu {TA:zan} {N:Nat} (hT:TreeOk TA N) (w:World):Calls Try.prog 31 #[] w fun e w'=>∃ s,e = .returned (.pointer (some ⟨s,0,none⟩))/\∃ F,zaj TA w' s st0 F/\Fr No w w'/\(∀ b,F b->w.heap.size<=b):=by
 have hmm:∀ w,(Instr.makeMap 119 none).run Try.prog w = .ok (.map (some w.heap.size)) (w.alloc (.map #[] 0)):=fun w=>run_makeMap 119 w;go_enter Try.func31,Try.ntmps31;go_wp2_with (go_at_call 67;refine (hT.new w).mono ?_;rintro e w1 ⟨t,rfl,FT,ht,hf,hn⟩);go_ret;have hlt:=hT.lt ht;have hsz:=hf.size;refine ⟨_,rfl,storeF (w1.heap.size+1) w1.heap.size (.slice none 0 0) FT fun _ _=>False,⟨t,w1.heap.size,.slice none 0 0,fun _=>none,FT,fun _ _=>False,?_,fun _=>Iff.rfl⟩,(hf.alloc _).alloc _,?_⟩
 · exact {
    obj:=⟨121,zac _ _ _ (by simp)⟩
    tree:=hT.fr ht (((Fr.refl No w1).alloc _).alloc _) fun _ _ s=>s
    map:=(MapAt.made w1).alloc _
    events:=SlF.nil _ _ _ _
    hist:=fun i H h=>by simp [st0] at h
    gone:=fun i h=>⟨rfl,fun _ h=>h⟩
    ds:=⟨fun h=>by have:=hlt _ h;omega,by simp [Value.ownBlock],fun _ h=>h⟩
    dp:=⟨fun h=>by have:=hlt _ h;omega,by simp [Value.ownBlock],fun _ h=>h⟩
    dt:=fun b hb=>⟨by simp [Value.ownBlock],fun _ h=>h⟩
    de:=fun b hb=>by simp [Value.ownBlock] at hb
    dh:=fun _ _ _ h=>h.elim }
 rintro b (rfl | rfl | h | h | ⟨_,h⟩)
 · omega
 · omega
 · exact hn b h
 · simp [Value.ownBlock] at h
 exact h.elim
theorem zem {TA:zan} (w:World) (s:Nat) (S:St) (F:Nat->Prop) (hS:zaj TA w s S F):Calls Try.prog 33 #[.pointer (some ⟨s,0,none⟩)] w fun e w'=>e = .returned (.int .i64 S.rev)/\w=w':=by
 obtain ⟨t,p,ev,hp,FT,FH,a,hF⟩:=hS;have c3:=a.obj.cell 3 rfl;have ls:=a.obj.lt;clear a;go_enter Try.func33,Try.ntmps33;go_wp2;go_ret;exact ⟨rfl,rfl⟩
def whenE (S:St) (rev:Int):Int:=if S.rev < rev then 33 else if rev≠0/\rev < S.mark then 32 else 0
theorem zfl {TA:zan} (w:World) (s:Nat) (S:St) (F:Nat->Prop) (hS:zaj TA w s S F) (rev:Int):Calls Try.prog 65 #[.pointer (some ⟨s,0,none⟩),.int .i64 rev] w fun e w'=>e = .returned (.int .i64 (whenE S rev))/\w=w':=by
 obtain ⟨t,p,ev,hp,FT,FH,a,hF⟩:=hS;have c3:=a.obj.cell 3 rfl;have c4:=a.obj.cell 4 rfl;have ls:=a.obj.lt;unfold whenE;clear a;by_cases h1:S.rev < rev
 · rw [if_pos h1]
   go_enter Try.func65,Try.ntmps65;go_wp2;go_ret;exact ⟨rfl,rfl⟩
 rw [if_neg h1]
 have h1':rev<=S.rev:=(by omega);by_cases h2:rev=0
 · subst h2
   go_enter Try.func65,Try.ntmps65;go_wp2;go_ret;exact ⟨by simp,rfl⟩
 have h2':(rev == 0)=false:=by simpa using h2
 by_cases h3:rev < S.mark
 · rw [if_pos ⟨h2,h3⟩]
   go_enter Try.func65,Try.ntmps65;go_wp2;go_ret;exact ⟨rfl,rfl⟩
 rw [if_neg (fun h=>h3 h.2)]
 go_enter Try.func65,Try.ntmps65;go_wp2;go_ret;exact ⟨rfl,rfl⟩
theorem zol {TA:zan} (w:World) (s:Nat) (S:St) (F:Nat->Prop) (hS:zaj TA w s S F) (v:Value) (hr:S.rev < top):Calls Try.prog 73 #[.pointer (some ⟨s,0,none⟩),v] w fun e w'=>e = .returned (.bool true)/\Fr No w w':=by
 obtain ⟨t,p,ev,hp,FT,FH,a,hF⟩:=hS;have c3:=a.obj.cell 3 rfl;have ls:=a.obj.lt;have hmf:∀ (fn:Fn) (first cap:Array Value) (w:World),(Instr.makeFunc fn first cap).run Try.prog w = .ok (.func fn first cap) w:=fun _ _ _ _=>rfl;unfold top at hr;clear a;go_enter Try.func73,Try.ntmps73;go_wp2;go_ret;exact ⟨rfl,(Fr.refl No w).alloc _⟩
def revOf (g:Rg) (rev:Int):Int:=if g.rev≠0 then g.rev else rev
def allL (S:St) (g:Rg) (rev:Int):List Kv:=zat S g.key g.end_ (revOf g rev)
def moreB (S:St) (g:Rg) (rev:Int):Bool:=!g.count && decide (0 < g.limit) && decide (g.limit < (allL S g rev).length)
def cutL (g:Rg) (more:Bool) (l:List Kv):List Kv:=if more then l.take g.limit.toNat else l
def getL (S:St) (g:Rg) (rev:Int):List Kv :=
 if g.count then [] else
  let l:=cutL g (moreB S g rev) (if g.desc then (allL S g rev).reverse else allL S g rev)
  if g.keys then l.map fun x=>{ x with value:=ByteArray.empty } else l
def SlR {α:Type} (w:World) (sz:Nat) (f:α->List Value) (v:Value) (L:List α):Prop :=
 ∃ a cap,v = .slice a L.length cap/\L.length<=cap/\cap<=maxLen ∧
  (0 < L.length->∃ g o,a=some ⟨g,o,none⟩/\∀ (i:Nat) (x:α),L[i]? = some x->∀ (j:Nat) (u:Value),(f x)[j]? = some u->w.cell? ⟨g,o+i * sz+j,none⟩=some u)
section
variable {α:Type} {f:α->List Value} {w:World} {e sz:Nat} {v:Value} {L:List α}
theorem SlF.toR (hf:∀ x,(f x).length=sz) (h:SlF w e sz f v L):SlR w sz f v L:=by
 obtain ⟨a,cap,rfl,h1,h2,h3⟩:=h.shape;refine ⟨a,cap,rfl,h1,h2,fun hp=>?_⟩;obtain ⟨g,o,rfl⟩:=h3 hp;exact ⟨g,o,rfl,fun i x hx j u hu=>h.cell hf i j hx hu⟩
theorem SlR.shape (h:SlR w sz f v L):∃ a cap,v = .slice a L.length cap/\L.length<=cap/\cap<=maxLen/\(0 < L.length->∃ g o,a=some ⟨g,o,none⟩):=by
 obtain ⟨a,cap,rfl,h1,h2,h3⟩:=h;exact ⟨a,cap,rfl,h1,h2,fun hp=>by obtain ⟨g,o,h4,_⟩:=h3 hp;exact ⟨g,o,h4⟩⟩
theorem SlR.cell {g o cap:Nat} (_:∀ x,(f x).length=sz) (h:SlR w sz f (.slice (some ⟨g,o,none⟩) L.length cap) L) (i j:Nat) {x:α} {u:Value} (hx:L[i]? = some x) (hu:(f x)[j]? = some u) :
 w.cell? ⟨g,o+i * sz+j,none⟩=some u:=by
 obtain ⟨a,cap',hv,h1,h2,h3⟩:=h;have hi:=(List.getElem?_eq_some_iff.1 hx).1;obtain ⟨g',o',h4,h5⟩:=h3 (by omega);simp only [Value.slice.injEq,true_and] at hv;obtain ⟨rfl,rfl⟩:=hv;simp only [Option.some.injEq,Addr.mk.injEq,and_true] at h4;obtain ⟨rfl,rfl⟩:=h4;exact h5 i x hx j u hu
theorem SlR.cell0 {g o cap:Nat} (hf:∀ x,(f x).length=sz) (h:SlR w sz f (.slice (some ⟨g,o,none⟩) L.length cap) L) (i:Nat) {x:α} {u:Value} (hx:L[i]? = some x) (hu:(f x)[0]? = some u) :
 w.cell? ⟨g,o+i * sz,none⟩=some u:=h.cell hf i 0 hx hu
theorem SlR.fr {w':World} {S:Nat->Prop} (h:SlR w sz f v L) (hf:Fr S w w') (hn:∀ k,v.ownBlock=some k->¬ S k):SlR w' sz f v L:=by
 obtain ⟨a,cap,rfl,h1,h2,h3⟩:=h;refine ⟨a,cap,rfl,h1,h2,fun hp=>?_⟩;obtain ⟨g,o,rfl,h4⟩:=h3 hp;exact ⟨g,o,rfl,fun i x hx j u hu=>hf.cell (h4 i x hx j u hu) (hn g rfl)⟩
theorem SlR.fr0 {w':World} (h:SlR w sz f v L) (hf:Fr No w w'):SlR w' sz f v L:=h.fr hf fun _ _ h=>h
theorem SlR.alloc (h:SlR w sz f v L) (o:Obj):SlR (w.alloc o) sz f v L:=h.fr0 ((Fr.refl No w).alloc o)
theorem SlR.take {a:Option Addr} {cap:Nat} (_:∀ x,(f x).length=sz) (h:SlR w sz f (.slice a L.length cap) L) (k:Nat) (hk:k<=L.length):SlR w sz f (.slice a k cap) (L.take k):=by
 obtain ⟨a',cap',hv,h1,h2,h3⟩:=h;simp only [Value.slice.injEq,true_and] at hv;obtain ⟨rfl,rfl⟩:=hv;have hl:(L.take k).length=k:=by simp;omega
 refine ⟨a,cap,by rw [hl],by omega,h2,fun hp=>?_⟩;obtain ⟨g,o,h4,h5⟩:=h3 (by omega);refine ⟨g,o,h4,fun i x hx=>h5 i x ?_⟩;have hi:=(List.getElem?_eq_some_iff.1 hx).1;rw [List.getElem?_take_of_lt (by omega)] at hx;exact hx
theorem SlR.drop {g o cap:Nat} (_:∀ x,(f x).length=sz) (h:SlR w sz f (.slice (some ⟨g,o,none⟩) L.length cap) L) (k:Nat) (hk:k<=L.length) :
 SlR w sz f (.slice (if cap=k then some ⟨g,o,none⟩ else some ⟨g,o+k * sz,none⟩) (L.length - k) (cap - k)) (L.drop k):=by
 obtain ⟨a',cap',hv,h1,h2,h3⟩:=h;simp only [Value.slice.injEq,true_and] at hv;obtain ⟨rfl,rfl⟩:=hv;have hl:(L.drop k).length=L.length - k:=by simp
 refine ⟨_,_,by rw [hl],by omega,by omega,fun hp=>?_⟩;obtain ⟨g',o',h4,h5⟩:=h3 (by omega);simp only [Option.some.injEq,Addr.mk.injEq,and_true] at h4;obtain ⟨rfl,rfl⟩:=h4;refine ⟨g,o+k * sz,by rw [if_neg (by omega)],fun i x hx j u hu=>?_⟩;rw [List.getElem?_drop] at hx;have:=h5 (k+i) x hx j u hu
 rwa [Nat.add_mul,<-Nat.add_assoc] at this
end
def clash (o p:Opr):Bool:=(p.kind == 1 && p.rg.key.toList == o.rg.key.toList) || (p.kind == 2 && inB o.rg.key p.rg.key p.rg.end_)
theorem zms (w:World) (o p:Opr) (b:Nat) (hb:w.heap[b]? = some (.cells (opC o).toArray 87 (0,0))) :
 Calls Try.prog 53 #[opV p,.pointer (some ⟨b,0,none⟩)] w fun e w'=>e = .returned (.bool (clash o p))/\Fr No w w':=by
 obtain ⟨p1,⟨g1,g2,g3,g4,g5,g6,g7⟩,p2,p3⟩:=p;unfold opV clash;dsimp only;have hbl:=zab hb;have x1:w.cell? ⟨b,1,none⟩=some (.string o.rg.key):=by unfold World.cell?;simp only;rw [hb];rfl
 have hB:=H_ hb;clear hb;by_cases h1:p1=1
 · subst h1
   cases h2:(g1.toList == o.rg.key.toList)
   · go_enter Try.func53,Try.ntmps53
     go_wp2;go_ret;exact ⟨by simp,(Fr.refl No w).alloc _⟩
   go_enter Try.func53,Try.ntmps53
   go_wp2;go_ret;exact ⟨by simp,(Fr.refl No w).alloc _⟩
 have h1':(p1 == 1)=false:=by simpa using h1
 by_cases h2:p1=2
 · subst h2
   go_enter Try.func53,Try.ntmps53;go_wp2_with (go_at_call 54;refine (zsy _ _ _ _).mono ?_;rintro e w' ⟨rfl,rfl⟩);go_ret;exact ⟨by simp,(Fr.refl No w).alloc _⟩
 have h2':(p1 == 2)=false:=by simpa using h2
 go_enter Try.func53,Try.ntmps53;go_wp2;go_ret;exact ⟨by simp [h1',h2'],(Fr.refl No w).alloc _⟩
def idxOp (P:Opr->Bool) (l:List Opr):Int:=if l.findIdx P=l.length then -1 else (l.findIdx P:Int)
theorem zgf (w:World) (v:Value) (l:List Opr) (o:Opr) (b:Nat) (hb:w.heap[b]? = some (.cells (opC o).toArray 87 (0,0))) (hv:SlR w 10 opC v l) (hl:l.length<=1099511627) :
 Calls Try.prog 90 #[v,.func (.func 53) #[] #[.pointer (some ⟨b,0,none⟩)]] w fun e w'=>e = .returned (.int .i64 (idxOp (clash o) l))/\Fr No w w':=by
 obtain ⟨a,cap,rfl,hc1,hc2,ha⟩:=hv.shape;have HV:=H_ hv;clear hv;have HA:=H_ ha;clear ha;have HB:=H_ hb;clear hb;go_enter Try.func90,Try.ntmps90;go_wp2
 go_loopg [8] l.length (fun g s8 wr=>∃ i:Nat,s8 = .int .i64 i/\i+g=l.length/\Hid (∀ j,j < i->∀ p,l[j]? = some p->clash o p=false)/\Hid (Fr No w wr))
 case atStart=>exact ⟨0,rfl,by simp,H_ (by simp),H_ (Fr.refl No w)⟩
 case round =>
  obtain ⟨i,rfl,hi,HJ,HF⟩:=hrel
  cases gk with
  | zero =>
    have hil:¬ (i:Int) < (l.length:Int):=(by omega);go_wp2;go_ret;refine ⟨?_,HF.out⟩
    have hu:l.findIdx (clash o)=l.length:=by
     rw [List.findIdx_eq_length];intro x hx;obtain ⟨j,hj,rfl⟩:=List.getElem_of_mem hx;exact HJ.out j (by omega) _ (List.getElem?_eq_getElem hj)
    unfold idxOp;rw [if_pos hu]
    rfl
  | succ g =>
    obtain ⟨gb,go,rfl⟩:=HA.out (by omega);obtain ⟨p,hx⟩:∃ p,l[i]? = some p:=⟨_,List.getElem?_eq_getElem (by omega)⟩;have hvr:=HV.out.fr0 HF.out;have x0:=hvr.cell0 zad i hx rfl;have x1:=hvr.cell zad i 1 hx rfl;have x2:=hvr.cell zad i 2 hx rfl;have x3:=hvr.cell zad i 3 hx rfl;have x4:=hvr.cell zad i 4 hx rfl;have x5:=hvr.cell zad i 5 hx rfl;have x6:=hvr.cell zad i 6 hx rfl;have x7:=hvr.cell zad i 7 hx rfl;have x8:=hvr.cell zad i 8 hx rfl;have x9:=hvr.cell zad i 9 hx rfl;have hil:(i:Int) < (l.length:Int):=(by omega);have hcl:=zms wr o p b (HF.out.heap HB.out id);unfold opV at hcl;cases hp:clash o p
    · rw [hp] at hcl
      have Hx:=H_ hx;have Hp:=H_ hp;clear hx hp hvr;go_wp2_with (go_at_call 53;refine hcl.mono ?_;rintro e w1 ⟨rfl,hf⟩);go_roundg g
      case rel=>exact ⟨i+1,by go_num,by omega,H_ (fun j hj q hq=>by
       by_cases hji:j=i
       · subst hji;rw [Hx.out] at hq;cases hq;exact Hp.out
       exact HJ.out j (by omega) q hq),H_ (HF.out.trans0 hf)⟩
      case measure=>omega
    rw [hp] at hcl
    have Hx:=H_ hx;have Hp:=H_ hp;clear hx hp hvr;go_wp2_with (go_at_call 53;refine hcl.mono ?_;rintro e w1 ⟨rfl,hf⟩);go_ret;refine ⟨?_,HF.out.trans0 hf⟩
    have hu:l.findIdx (clash o)=i:=by
     have hil':i < l.length:=(by omega);rw [List.findIdx_eq hil'];have hgi:l[i] = p:=(List.getElem?_eq_some_iff.1 Hx.out).2;refine ⟨by rw [hgi];exact Hp.out,fun j hj=>?_⟩;exact HJ.out j hj _ (List.getElem?_eq_getElem (by omega))
    unfold idxOp;rw [hu,if_neg (by omega)]
    rfl
theorem zco (w:World) (v:Value) (l:List Opr) (o:Opr) (b:Nat) (hb:w.heap[b]? = some (.cells (opC o).toArray 87 (0,0))) (hv:SlR w 10 opC v l) (hl:l.length<=1099511627) :
 Calls Try.prog 55 #[v,.func (.func 53) #[] #[.pointer (some ⟨b,0,none⟩)]] w fun e w'=>e = .returned (.bool (l.any (clash o)))/\Fr No w w':=by
 have hidx:=zgf w v l o b hb hv hl
 have hd:(0<=idxOp (clash o) l/\l.any (clash o)=true)\/(¬ 0<=idxOp (clash o) l/\l.any (clash o)=false):=by
  unfold idxOp;by_cases h:l.findIdx (clash o)=l.length
  · rw [if_pos h]
    rw [List.findIdx_eq_length] at h;exact .inr ⟨by omega,by rw [List.any_eq_false];simpa using h⟩
  rw [if_neg h]
  refine .inl ⟨by omega,?_⟩;have hlt:l.findIdx (clash o) < l.length:=Nat.lt_of_le_of_ne List.findIdx_le_length h;rw [List.any_eq_true];exact ⟨_,List.getElem_mem hlt,List.findIdx_getElem⟩
 generalize idxOp (clash o) l=n at *;generalize l.any (clash o)=t at *;clear hv hb;rcases hd with ⟨h1,rfl⟩ | ⟨h1,rfl⟩
 all_goals
  go_enter Try.func55,Try.ntmps55;go_wp2_with (go_at_call 90;refine hidx.mono ?_;rintro e w1 ⟨rfl,hf⟩);go_ret;exact ⟨by first | rfl | (simp;omega),hf⟩
def zdq (l:List Opr) (i:Nat):Bool:=match l[i]? with
 | some o=>o.kind == 1 && ((l.take i).any (clash o) || (l.drop (i+1)).any (clash o))
 | none=>false
def twice (l:List Opr):Bool:=(List.range l.length).any (zdq l)
def checkE (l:List Opr):Int:=if 16 < l.length then 31 else match l.find? fun o=>oneE o != 0 with
 | some o=>oneE o
 | none=>if twice l then 34 else 0
set_option maxHeartbeats 4000000 in
theorem zii (w:World) (v:Value) (l:List Opr) (hv:SlR w 10 opC v l) (hl:l.length<=1099511627) (hks:∀ o∈l,o.rg.key.size<=1099511627776) :
 Calls Try.prog 20 #[v] w fun e w'=>e = .returned (.int .i64 (checkE l))/\Fr No w w':=by
 obtain ⟨a,cap,rfl,hc1,hc2,ha⟩:=hv.shape;have HV:=H_ hv;clear hv;have HA:=H_ ha;clear ha;have HKS:=H_ hks;clear hks;by_cases h16:16 < l.length
 · have h16':(16:Int) < (l.length:Int):=by omega
   have:checkE l=31:=(by unfold checkE;rw [if_pos h16]);rw [this];go_enter Try.func20,Try.ntmps20;go_wp2;go_ret;exact ⟨rfl,Fr.refl No w⟩
 have h16':¬ (16:Int) < (l.length:Int):=by omega
 have hE:checkE l=match l.find? fun o=>oneE o != 0 with
  | some o=>oneE o
  | none=>if twice l then 34 else 0:=by unfold checkE;rw [if_neg h16]
 have HE:=H_ hE;clear hE;go_enter Try.func20,Try.ntmps20;go_wp2
 go_loopg [14] l.length (fun g s14 wr=>∃ i:Nat,s14 = .int .i64 i/\i+g=l.length/\Hid (∀ j,j < i->∀ p,l[j]? = some p->oneE p=0)/\Hid (Fr No w wr))
 case atStart=>exact ⟨0,rfl,by simp,H_ (by simp),H_ (Fr.refl No w)⟩
 case round =>
  obtain ⟨i,rfl,hi,HJ,HF⟩:=hrel
  cases gk with
  | zero =>
    have hil:¬ (i:Int) < (l.length:Int):=(by omega)
    have hE2:checkE l=if twice l then 34 else 0:=by
     rw [HE.out]
     have:l.find? (fun o=>oneE o != 0)=none:=by
      rw [List.find?_eq_none];intro x hx;obtain ⟨j,hj,rfl⟩:=List.getElem_of_mem hx;have:=HJ.out j (by omega) _ (List.getElem?_eq_getElem hj);simp [this]
     rw [this]
    have HE2:=H_ hE2;clear hE2;have HF1:=HF;clear HJ;have hmf:∀ (fn:Fn) (first cap:Array Value) (w:World),(Instr.makeFunc fn first cap).run Try.prog w = .ok (.func fn first cap) w:=fun _ _ _ _=>rfl;go_wp2
    go_loopg [26] l.length (fun g s26 wr=>∃ i:Nat,s26 = .int .i64 i/\i+g=l.length/\Hid (∀ j,j < i->zdq l j=false)/\Hid (Fr No w wr))
    case atStart=>exact ⟨0,rfl,by simp,H_ (by simp),HF1⟩
    case round =>
     obtain ⟨i,rfl,hi,HJ,HF⟩:=hrel
     cases gk with
     | zero =>
       have hil:¬ (i:Int) < (l.length:Int):=(by omega)
       have hE3:checkE l=0:=by
        rw [HE2.out]
        have:twice l=false:=by
         unfold twice;rw [List.any_eq_false];intro j hj;simp at hj;simpa using HJ.out j (by omega)
        rw [this];rfl
       have HE3:=H_ hE3;clear hE3;go_wp2;go_ret;exact ⟨by rw [HE3.out];rfl,HF.out⟩
     | succ g =>
       obtain ⟨gb,go,rfl⟩:=HA.out (by omega);obtain ⟨p,hx⟩:∃ p,l[i]? = some p:=⟨_,List.getElem?_eq_getElem (by omega)⟩;have hvr:=HV.out.fr0 HF.out;have x0:=hvr.cell0 zad i hx rfl;have x1:=hvr.cell zad i 1 hx rfl;have x2:=hvr.cell zad i 2 hx rfl;have x3:=hvr.cell zad i 3 hx rfl;have x4:=hvr.cell zad i 4 hx rfl;have x5:=hvr.cell zad i 5 hx rfl;have x6:=hvr.cell zad i 6 hx rfl;have x7:=hvr.cell zad i 7 hx rfl;have x8:=hvr.cell zad i 8 hx rfl;have x9:=hvr.cell zad i 9 hx rfl;have hil:(i:Int) < (l.length:Int):=(by omega);have hta:zdq l i=(p.kind == 1 && ((l.take i).any (clash p) || (l.drop (i+1)).any (clash p))):=(by unfold zdq;rw [hx]);have HVR:=H_ hvr;have HTA:=H_ hta
       have hsub:∀ b:Bool,zdq l i=b->b=true->checkE l=34:=by
        intro b hb hbt;rw [HE2.out,if_pos];unfold twice;rw [List.any_eq_true];exact ⟨i,by simp;omega,by rw [hb,hbt]⟩
       have HSUB:=H_ hsub;clear hx hvr hta hsub;obtain ⟨p1,⟨g1,g2,g3,g4,g5,g6,g7⟩,p2,p3⟩:=p
       have hnext:∀ (wz:World),zdq l i=false->Fr No w wz->∃ k:Nat,Value.int .i64 ((i:Int)+1) = .int .i64 k/\k+g=l.length/\Hid (∀ j,j < k->zdq l j=false)/\Hid (Fr No w wz):=fun wz h hf =>
        ⟨i+1,by go_num,by omega,H_ (fun j hj=>by
          by_cases hji:j=i
          · subst hji;exact h
          exact HJ.out j (by omega)),H_ hf⟩
       have HN:=H_ hnext;clear hnext;by_cases h1:p1=1
       · subst h1
         have hi0:(0:Int)<=(i:Int)+1:=(by omega);have hi1:(i:Int)+1<=(l.length:Int):=(by omega);have hi2:i<=l.length:=(by omega);have hi3:i+1<=l.length:=(by omega);have hi4:(i:Int)<=(cap:Int):=(by omega);have hi5:i<=cap:=(by omega);have hst:=HVR.out.take zad i hi2;have hsd:=HVR.out.drop zad (i+1) hi3;have HST:=H_ hst;have HSD:=H_ hsd;clear hst hsd;have htl:(l.take i).length=i:=(by simp;omega);have hdl:(l.drop (i+1)).length=l.length - (i+1):=(by simp);have hca:=fun W hb hv=>zco W (.slice (some ⟨gb,go,none⟩) i cap) (l.take i) ⟨1,⟨g1,g2,g3,g4,g5,g6,g7⟩,p2,p3⟩ wr.heap.size hb hv (by omega);have hcb:=fun W A hb hv=>zco W (.slice A (l.length - (i+1)) (cap - (i+1))) (l.drop (i+1)) ⟨1,⟨g1,g2,g3,g4,g5,g6,g7⟩,p2,p3⟩ wr.heap.size hb hv (by omega);have HTL:=H_ htl
         have HDL:=H_ hdl;clear htl hdl;generalize hA1:(if cap=i+1 then some (⟨gb,go,none⟩:Addr) else some ⟨gb,go+(i+1) * 10,none⟩)=A1 at HSD;have HTA':=HTA.out;simp only at HTA';cases ht1:(l.take i).any (clash ⟨1,⟨g1,g2,g3,g4,g5,g6,g7⟩,p2,p3⟩)
         · rw [ht1] at hca HTA'
           have HCA:=H_ hca;clear hca ht1;cases ht2:(l.drop (i+1)).any (clash ⟨1,⟨g1,g2,g3,g4,g5,g6,g7⟩,p2,p3⟩)
           · rw [ht2] at hcb HTA'
             have HCB:=H_ hcb;have HTA2:=H_ HTA';clear hcb ht2 HTA'
             go_wp2_with (first
              | (go_at_call 55;refine (HCA.out _ (zac _ _ _ rfl) (HST.out.alloc _)).mono ?_;rintro e w1 ⟨rfl,hf⟩
                 have hb1:=hf.heap (zac wr (.cells #[.int .i64 1,.string g1,.string g2,.int .i64 g3,.int .i64 g4,.bool g5,.bool g6,.bool g7,.string p2,.int .i64 p3] 87) _ rfl) id;have hs1:=(HSD.out.alloc (.cells #[.int .i64 1,.string g1,.string g2,.int .i64 g3,.int .i64 g4,.bool g5,.bool g6,.bool g7,.string p2,.int .i64 p3] 87)).fr0 hf;have HB1:=H_ hb1;have HS1:=H_ hs1;clear hb1 hs1)
              | (go_at_call 55;refine (HCB.out _ _ HB1.out HS1.out).mono ?_;rintro e w2 ⟨rfl,hf2⟩))
             go_roundg g
             case rel=>exact HN.out _ (by rw [HTA2.out];rfl) (((HF.out.alloc _).trans0 hf).trans0 hf2)
             case measure=>omega
           rw [ht2] at hcb HTA'
           have HCB:=H_ hcb;have HTA2:=H_ HTA';clear hcb ht2 HTA'
           go_wp2_with (first
            | (go_at_call 55;refine (HCA.out _ (zac _ _ _ rfl) (HST.out.alloc _)).mono ?_;rintro e w1 ⟨rfl,hf⟩
               have hb1:=hf.heap (zac wr (.cells #[.int .i64 1,.string g1,.string g2,.int .i64 g3,.int .i64 g4,.bool g5,.bool g6,.bool g7,.string p2,.int .i64 p3] 87) _ rfl) id;have hs1:=(HSD.out.alloc (.cells #[.int .i64 1,.string g1,.string g2,.int .i64 g3,.int .i64 g4,.bool g5,.bool g6,.bool g7,.string p2,.int .i64 p3] 87)).fr0 hf;have HB1:=H_ hb1;have HS1:=H_ hs1;clear hb1 hs1)
            | (go_at_call 55;refine (HCB.out _ _ HB1.out HS1.out).mono ?_;rintro e w2 ⟨rfl,hf2⟩))
           go_ret;exact ⟨by rw [HSUB.out _ HTA2.out rfl];rfl,((HF.out.alloc _).trans0 hf).trans0 hf2⟩
         rw [ht1] at hca HTA'
         have HCA:=H_ hca;have HTA2:=H_ HTA';clear hca ht1 hcb HTA';go_wp2_with (go_at_call 55;refine (HCA.out _ (zac _ _ _ rfl) (HST.out.alloc _)).mono ?_;rintro e w1 ⟨rfl,hf⟩);go_ret;exact ⟨by rw [HSUB.out _ HTA2.out rfl];rfl,(HF.out.alloc _).trans0 hf⟩
       have h1':(p1 == 1)=false:=by simpa using h1
       go_wp2;go_roundg g
       case rel=>exact HN.out _ (by rw [HTA.out,h1'];rfl) (HF.out.alloc _)
       case measure=>omega
  | succ g =>
    obtain ⟨gb,go,rfl⟩:=HA.out (by omega);obtain ⟨p,hx⟩:∃ p,l[i]? = some p:=⟨_,List.getElem?_eq_getElem (by omega)⟩;have hvr:=HV.out.fr0 HF.out;have x0:=hvr.cell0 zad i hx rfl;have x1:=hvr.cell zad i 1 hx rfl;have x2:=hvr.cell zad i 2 hx rfl;have x3:=hvr.cell zad i 3 hx rfl;have x4:=hvr.cell zad i 4 hx rfl;have x5:=hvr.cell zad i 5 hx rfl;have x6:=hvr.cell zad i 6 hx rfl;have x7:=hvr.cell zad i 7 hx rfl;have x8:=hvr.cell zad i 8 hx rfl;have x9:=hvr.cell zad i 9 hx rfl;have hil:(i:Int) < (l.length:Int):=(by omega);have hone:=fun W=>zqn W p (HKS.out p (List.mem_of_getElem? hx));unfold opV at hone;by_cases hp:oneE p=0
    · rw [hp] at hone
      have Hx:=H_ hx;have Hp:=H_ hp;have Ho:=H_ hone;clear hx hp hvr hone;go_wp2_with (go_at_call 52;refine (Ho.out _).mono ?_;rintro e w1 ⟨rfl,hf⟩);go_roundg g
      case rel=>exact ⟨i+1,by go_num,by omega,H_ (fun j hj q hq=>by
       by_cases hji:j=i
       · subst hji;rw [Hx.out] at hq;cases hq;exact Hp.out
       exact HJ.out j (by omega) q hq),H_ ((HF.out.alloc _).trans0 hf)⟩
      case measure=>omega
    have hp':(oneE p == 0)=false:=by simpa using hp
    have hE2:checkE l=oneE p:=by
     rw [HE.out]
     have:l.find? (fun o=>oneE o != 0)=some p:=by
      rw [List.find?_eq_some_iff_getElem];have hil':i < l.length:=(by omega);refine ⟨by simpa using hp,i,hil',(List.getElem?_eq_some_iff.1 hx).2,fun j hj=>?_⟩;have:=HJ.out j hj _ (List.getElem?_eq_getElem (by omega));simp [this]
     rw [this]
    have HE2:=H_ hE2;have Ho:=H_ hone;generalize oneE p=ep at *;clear hx hp hvr hone hE2;go_wp2_with (go_at_call 52;refine (Ho.out _).mono ?_;rintro e w1 ⟨rfl,hf⟩);go_ret;exact ⟨by rw [HE2.out];rfl,(HF.out.alloc _).trans0 hf⟩
structure Ans where
 kind:Int
 kvs:List Kv
 count:Int
 more:Bool
def ansC (q:Ans × Value):List Value:=[.int .i64 q.1.kind,q.2,.int .i64 q.1.count,.bool q.1.more]
structure AnsR (w:World) (v:Value) (Z:List (Ans × Value)):Prop where
 sl:SlF w 90 4 ansC v Z
 kvs:∀ (i:Nat) (q:Ans × Value),Z[i]? = some q->SlF w 57 6 kvC q.2 q.1.kvs
 apart:∀ (i:Nat) (q:Ans × Value),Z[i]? = some q->∀ b,q.2.ownBlock=some b->v.ownBlock≠some b
def ansF (v:Value) (Z:List (Ans × Value)) (b:Nat):Prop:=v.ownBlock=some b\/∃ (i:Nat) (q:Ans × Value),Z[i]? = some q/\q.2.ownBlock=some b
theorem AnsR.nil (w:World):AnsR w (.slice none 0 0) []:=⟨SlF.nil _ _ _ _,by simp,by simp⟩
theorem AnsR.lt {w:World} {v:Value} {Z:List (Ans × Value)} (h:AnsR w v Z):∀ b,ansF v Z b->b < w.heap.size:=by
 rintro b (e | ⟨i,q,hq,e⟩)
 · exact h.sl.lt b e
 exact (h.kvs i q hq).lt b e
theorem AnsR.fr {w w':World} {v:Value} {Z:List (Ans × Value)} {S:Nat->Prop} (h:AnsR w v Z) (hf:Fr S w w') (hn:∀ b,ansF v Z b->¬ S b):AnsR w' v Z :=
 ⟨h.sl.fr hf fun b e=>hn b (.inl e),fun i q hq=>(h.kvs i q hq).fr hf fun b e=>hn b (.inr ⟨i,q,hq,e⟩),h.apart⟩
theorem AnsR.snoc {w w':World} {v v':Value} {Z:List (Ans × Value)} {a:Ans} {kv:Value} (h:AnsR w v Z) (hf:Fr (fun b=>v.ownBlock=some b) w w') (hs:SlF w' 90 4 ansC v' (Z++[(a,kv)]))
 (hk:SlF w 57 6 kvC kv a.kvs) (hd:∀ b,kv.ownBlock=some b->v.ownBlock≠some b) (hn:∀ b,v'.ownBlock=some b->v.ownBlock=some b\/w.heap.size<=b):AnsR w' v' (Z++[(a,kv)]):=by
 have key:∀ (i:Nat) (q:Ans × Value),(Z++[(a,kv)])[i]? = some q->(Z[i]? = some q)\/q=(a,kv):=by
  intro i q hq;by_cases hi:i < Z.length
  · rw [List.getElem?_append_left hi] at hq;exact .inl hq
  rw [List.getElem?_append_right (by omega)] at hq
  right
  have:i - Z.length=0:=by
   have:=(List.getElem?_eq_some_iff.1 hq).1;simp at this;omega
  rw [this] at hq;simpa using hq.symm
 refine ⟨hs,fun i q hq=>?_,fun i q hq b hb e=>?_⟩
 · rcases key i q hq with h1 | rfl
   · exact (h.kvs i q h1).fr hf fun b e=>h.apart i q h1 b e
   exact hk.fr hf hd
 rcases key i q hq with h1 | rfl
 · rcases hn b e with h2 | h2
   · exact h.apart i q h1 b hb h2
   have:=(h.kvs i q h1).lt b hb;omega
 rcases hn b e with h2 | h2
 · exact hd b hb h2
 have:=hk.lt b hb;omega
def goneE (x:Kv) (rev:Int):Ev:=⟨2,⟨x.key,ByteArray.empty,0,rev,0,0⟩,x⟩
structure Run where
 S:St
 A:List Ans
 E:List Ev
def goneR (rev:Int) (r:St × List Kv × List Ev) (x:Kv):St × List Kv × List Ev:=(doS r.1 (goneE x rev),r.2.1++told (goneE x rev),r.2.2++[goneE x rev])
def stepR (rev:Int) (r:Run) (o:Opr):Run :=
 if o.kind=1 then ⟨doS r.S (zaq r.S o rev),r.A++[⟨1,told (zaq r.S o rev),(told (zaq r.S o rev)).length,false⟩],r.E++[zaq r.S o rev]⟩
 else if o.kind=2 then
  let q:=(zat r.S o.rg.key o.rg.end_ rev).foldl (goneR rev) (r.S,[],r.E)
  ⟨q.1,r.A++[⟨2,q.2.1,q.2.1.length,false⟩],q.2.2⟩
 else if o.kind=3 then ⟨r.S,r.A++[⟨3,getL r.S o.rg rev,(allL r.S o.rg rev).length,moreB r.S o.rg rev⟩],r.E⟩
 else ⟨r.S,r.A++[⟨o.kind,[],0,false⟩],r.E⟩
def runR (rev:Int) (r:Run) (ops:List Opr):Run:=ops.foldl (stepR rev) r
def whenAll (S:St) (ops:List Opr):Int:=match ops.find? fun o=>o.kind == 3 && whenE S o.rg.rev != 0 with
 | some o=>whenE S o.rg.rev
 | none=>0
def applyE (S:St) (ops:List Opr):Int:=if checkE ops≠0 then checkE ops else whenAll S ops
def applyS (S:St) (ops:List Opr):St :=
 let r:=runR (S.rev+1) ⟨S,[],[]⟩ ops
 if r.E = [] then r.S else { r.S with rev:=S.rev+1 }
end Go.Proofs.Ythljnnjpmdgkoaa