/- Own lemmas and contracts that the claim's proof needs, laid together. The conditions stand in each. -/
import Derived.Test.YthljnnjpmdgkoaaGreatB16
import Derived.Test.YthljnnjpmdgkoaaGreatB17
import Derived.Test.YthljnnjpmdgkoaaGreatB15
import Derived.Test.YthljnnjpmdgkoaaGreatB01
namespace Go.Proofs.YthljnnjpmdgkoaaGreat
open Go Go.Proofs Go.RowKit
set_option maxRecDepth 100000
theorem zcw (q:ByteArray × Int) (X:Pairs) (k:ByteArray):getT (q :: X) k=if keq q.1 k then (q.2,true) else getT X k:=by
 unfold getT;rw [List.find?_cons];cases h:keq q.1 k <;> simp
theorem zcf (T:Pairs) (k:ByteArray) (m:Int) (k':ByteArray):getT (insT T k m) k'=if keq k k' then (m,true) else getT T k':=by
 induction T with
 | nil =>
   unfold insT;rw [zcw]
 | cons p T ih =>
   unfold insT
   split
   · rename_i h
     rw [zcw,zcw,ih];cases h1:keq p.1 k' <;> cases h2:keq k k' <;> simp
     have e1:=zap.1 h1;have e2:=zap.1 h2;rw [e1,e2,zbd] at h;cases h
   split
   · rename_i h2
     rw [zcw,zcw]
     cases h1:keq k k' with
     | true=>simp
     | false =>
       have:keq p.1 k'=false:=(by rw [zap.1 h2];exact h1);simp [this]
   rw [zcw]
theorem zum {T:Pairs} {k:ByteArray} {m:Int} {q:ByteArray × Int} (h:q∈insT T k m):q∈T\/q=(k,m):=by
 induction T with
 | nil=>exact .inr (by simpa [insT] using h)
 | cons p T ih =>
   unfold insT at h
   split at h
   · rcases List.mem_cons.1 h with h | h
     · exact .inl (by simp [h])
     rcases ih h with h | h
     · exact .inl (by simp [h])
     exact .inr h
   split at h
   · rcases List.mem_cons.1 h with h | h
     · exact .inr h
     exact .inl (by simp [h])
   rcases List.mem_cons.1 h with h | h
   · exact .inr h
   exact .inl h
theorem zdy {T:Pairs} {k:ByteArray} (h:(getT T k).2=true):(k,(getT T k).1)∈T:=by
 unfold getT at h ⊢
 cases hf:T.find? fun p=>keq p.1 k with
 | none=>rw [hf] at h;cases h
 | some p =>
   have h1:=List.mem_of_find?_eq_some hf;have h2:=List.find?_some hf;have h3:=zap.1 h2;obtain ⟨a,b⟩:=p;dsimp only at h3 ⊢
   subst h3;exact h1
theorem zdv {α:Type} {l:List α} {i:Nat} {f:α->α} {y:α} (h:y∈l.modify i f):∃ x∈l,y=x\/y=f x:=by
 obtain ⟨j,hj⟩:=List.mem_iff_getElem?.1 h;rw [List.getElem?_modify] at hj
 cases hx:l[j]? with
 | none=>rw [hx] at hj;simp at hj
 | some x =>
   rw [hx] at hj;refine ⟨x,List.mem_of_getElem? hx,?_⟩;by_cases hi:i=j
   · right;simpa [hi] using hj.symm
   left;simpa [hi] using hj.symm
theorem HistOk.mono {n m:Nat} {H:Hist} (h:HistOk n H) (hm:n<=m):HistOk m H :=
 ⟨Nat.le_trans h.len hm,fun x hx=>⟨Nat.le_trans (h.puts x hx).1 hm,(h.puts x hx).2⟩⟩
theorem zsq (n:Nat):HistOk n newH:=⟨by simp [newH],by simp [newH]⟩
theorem zvv {n:Nat} {H:Hist} (h:HistOk n H) (x:Kv) (h1:1<=x.mod) (h2:x.mod<=top):HistOk (n+1) (putH H x):=by
 unfold putH putK;refine ⟨?_,fun y hy=>?_⟩
 · have:=h.len
   dsimp only
   split
   · rw [List.length_modify];omega
   simp;omega
 dsimp only at hy
 split at hy
 · obtain ⟨z,hz,e | e⟩:=zdv hy
   · subst e
     exact ⟨Nat.le_succ_of_le (h.puts y hz).1,(h.puts y hz).2⟩
   subst e
   have:=h.puts z hz;refine ⟨by simp;omega,this.2.1,this.2.2.1,fun p hp=>?_⟩;rcases List.mem_append.1 hp with hp | hp
   · exact this.2.2.2 p hp
   rw [List.mem_singleton.1 hp];exact ⟨h1,h2⟩
 rcases List.mem_append.1 hy with hy | hy
 · exact ⟨Nat.le_succ_of_le (h.puts y hy).1,(h.puts y hy).2⟩
 rw [List.mem_singleton.1 hy]
 refine ⟨by simp,by simp,by simp [top],fun p hp=>?_⟩;rw [List.mem_singleton.1 hp];exact ⟨h1,h2⟩
theorem zty {n:Nat} {H:Hist} (h:HistOk n H) (rev:Int):HistOk n (tombH H rev):=by
 unfold tombH tombK;refine ⟨by rw [List.length_modify];exact h.len,fun y hy=>?_⟩;obtain ⟨z,hz,e | e⟩:=zdv hy
 · subst e;exact h.puts y hz
 subst e;exact h.puts z hz
theorem StOk.mono {n m:Nat} {S:St} (h:StOk n S) (hm:n<=m):StOk m S :=
 { h with next:=Int.le_trans h.next (by omega),hist:=fun i H hi=>⟨(h.hist i H hi).1.mono hm,(h.hist i H hi).2⟩,ev:=Nat.le_trans h.ev hm }
theorem zuo {n:Nat} {S:St} (h:StOk n S) (key:ByteArray) :
 StOk (n+1) (madeS S key)/\(0<=idS S key/\idS S key < (madeS S key).next)/\∃ H,(madeS S key).past (idS S key)=some H/\HistOk n H/\H.last<=top:=by
 unfold madeS idS
 cases hg:(getT S.T key).2 with
 | true =>
   simp only [if_true];obtain ⟨H,hH⟩:=h.id _ (zdy hg);exact ⟨h.mono (by omega),h.ids _ H hH,H,hH,(h.hist _ H hH).1,(h.hist _ H hH).2⟩
 | false =>
   simp only [if_false,Bool.false_eq_true];refine ⟨{ pos:=by have:=h.pos;dsimp only;omega,next:=by have:=h.next;dsimp only;omega,id:=fun p hp=>?_,ids:=fun i H hi=>?_,hist:=fun i H hi=>?_,rev0:=h.rev0,rev1:=h.rev1,mark0:=h.mark0,ev:=Nat.le_succ_of_le h.ev },⟨h.pos,by omega⟩,newH,by simp,zsq n,by simp [newH,top]⟩
   · dsimp only at hp ⊢
     by_cases e:p.2=S.next
     · exact ⟨newH,by rw [if_pos e]⟩
     rw [if_neg e]
     rcases zum hp with hp | hp
     · exact h.id p hp
     exact absurd (by rw [hp]) e
   · dsimp only at hi ⊢
     have:=h.pos;by_cases e:i=S.next
     · omega
     rw [if_neg e] at hi
     have:=h.ids i H hi;omega
   dsimp only at hi
   by_cases e:i=S.next
   · rw [if_pos e] at hi
     obtain rfl:=Option.some.inj hi;exact ⟨zsq _,by simp [newH,top]⟩
   rw [if_neg e] at hi
   exact ⟨(h.hist i H hi).1.mono (by omega),(h.hist i H hi).2⟩
theorem zsg {n:Nat} {S:St} (h:StOk n S) (x:Kv) (h1:1<=x.mod) (h2:x.mod<=top):StOk (n+1) (putS S x):=by
 obtain ⟨hm,hid,H0,hH0,hk0,hl0⟩:=zuo h x.key;unfold putS;rw [hH0];refine { pos:=hm.pos,next:=hm.next,id:=fun p hp=>?_,ids:=fun i H hi=>?_,hist:=fun i H hi=>?_,rev0:=hm.rev0,rev1:=hm.rev1,mark0:=hm.mark0,ev:=hm.ev }
 · dsimp only
   split
   · exact ⟨_,rfl⟩
   exact hm.id p hp
 · dsimp only at hi ⊢
   split at hi
   · rename_i e;rw [e];exact hid
   exact hm.ids i H hi
 dsimp only at hi
 split at hi
 · obtain rfl:=Option.some.inj hi
   exact ⟨zvv hk0 x h1 h2,h2⟩
 exact hm.hist i H hi
theorem ztx {n:Nat} {S:St} (h:StOk n S) (x:Kv) (h2:x.mod<=top):StOk n (tombS S x):=by
 unfold tombS
 split
 · rename_i hg
   refine { pos:=h.pos,next:=h.next,id:=fun p hp=>?_,ids:=fun i H hi=>?_,hist:=fun i H hi=>?_,rev0:=h.rev0,rev1:=h.rev1,mark0:=h.mark0,ev:=h.ev }
   · dsimp only
     split
     · obtain ⟨H,hH⟩:=h.id _ (zdy hg)
       dsimp only at hH;exact ⟨_,by rw [hH];rfl⟩
     exact h.id p hp
   · dsimp only at hi ⊢
     split at hi
     · rename_i e
       cases hH:S.past (getT S.T x.key).1 with
       | none=>rw [hH] at hi;cases hi
       | some H0=>rw [e];exact h.ids _ H0 hH
     exact h.ids i H hi
   dsimp only at hi
   split at hi
   · cases hH:S.past (getT S.T x.key).1 with
     | none=>rw [hH] at hi;cases hi
     | some H0 =>
       rw [hH] at hi;obtain rfl:=Option.some.inj hi;exact ⟨zty (h.hist _ H0 hH).1 _,h2⟩
   exact h.hist i H hi
 exact h
theorem zve {n:Nat} {S:St} (h:StOk n S) (x:Ev) (h1:1<=x.kv.mod) (h2:x.kv.mod<=top):StOk (n+1) (doneS S x):=by
 unfold doneS
 split
 · exact zsg h _ h1 h2
 exact (ztx h _ h2).mono (by omega)
theorem doS_ok {n:Nat} {S:St} (h:StOk n S) (x:Ev) (h1:1<=x.kv.mod) (h2:x.kv.mod<=top):StOk (n+1) (doS S x):=by
 have hd:=zve h x h1 h2;have he:=zdb S x;unfold doS;refine { hd with ev:=?_ };dsimp only;rw [he];have:=h.ev;simp;omega
theorem StOk.setRev {n:Nat} {S:St} (h:StOk n S) (r:Int) (h0 : -top<=r) (h1:r<=top):StOk n { S with rev:=r }:={ h with rev0:=h0,rev1:=h1 }
structure SInv (M:Int) (S:St):Prop where
 inj:∀ k k',(getT S.T k).2=true->(getT S.T k').2=true->(getT S.T k).1=(getT S.T k').1->k=k'
 has:∀ k,(getT S.T k).2=true->∃ H,S.past (getT S.T k).1=some H
 hist:∀ i H,S.past i=some H->(HInv H.last H/\H.last<=M)/\i < S.next
theorem zuz (r:Int):hadH newH r=(kv0,false):=rfl
theorem SInv.made {M:Int} {S:St} (h:SInv M S) (hM0:0<=M) (key:ByteArray):SInv M (madeS S key)/\(getT (madeS S key).T key).2=true/\(getT (madeS S key).T key).1=idS S key/\∀ k r,livesS (madeS S key) k r=livesS S k r:=by
 unfold madeS idS
 cases hg:(getT S.T key).2 with
 | true=>simp only [if_true];exact ⟨h,by first | trivial | exact hg,by trivial,fun _ _=>by trivial⟩
 | false =>
   simp only [Bool.false_eq_true,if_false]
   have hlt:∀ k,(getT S.T k).2=true->(getT S.T k).1 < S.next:=fun k hk=>by
    obtain ⟨H,hH⟩:=h.has k hk;exact (h.hist _ _ hH).2
   refine ⟨⟨fun k k' a b e=>?_,fun k a=>?_,fun i H a=>?_⟩,?_,?_,fun k r=>?_⟩
   · dsimp only at a b e
     rw [zcf] at a b e;rw [zcf] at e
     split at a <;> split at b <;> rename_i c1 c2
     · exact (zap.1 c1).symm.trans (zap.1 c2)
     · rw [if_pos c1,if_neg c2] at e;have:=hlt k' b;dsimp only at e;omega
     · rw [if_neg c1,if_pos c2] at e;have:=hlt k a;dsimp only at e;omega
     rw [if_neg c1,if_neg c2] at e;exact h.inj k k' a b e
   · dsimp only at a ⊢
     rw [zcf] at a ⊢
     split at a
     · exact ⟨newH,by simp [*]⟩
     rename_i c
     rw [if_neg c];have:=hlt k a;rw [if_neg (by omega)];exact h.has k a
   · dsimp only at a ⊢
     split at a
     · obtain rfl:=Option.some.inj a;exact ⟨⟨HInv.new 0,hM0⟩,by omega⟩
     have:=h.hist i H a;exact ⟨this.1,by omega⟩
   · rw [zcf,if_pos (zap.2 rfl)]
   · rw [zcf,if_pos (zap.2 rfl)]
   unfold livesS
   dsimp only;rw [zcf];by_cases c:keq key k=true
   · obtain rfl:=zap.1 c
     rw [if_pos c,hg];simp [zuz]
   rw [if_neg c]
   cases ha:(getT S.T k).2 with
   | false=>rfl
   | true=>have:=hlt k ha;simp only [if_true];rw [if_neg (by omega)]
theorem SInv.put {M:Int} {S:St} (h:SInv M S) (hM0:0<=M) (x:Kv) (hM:M<=x.mod) (h1:1<=x.mod) (hlast:(getT S.T x.key).2=true->∀ H,S.past (getT S.T x.key).1=some H->H.last < x.mod):SInv x.mod (putS S x)/\∀ k r,livesS (putS S x) k r=if keq x.key k=true/\x.mod<=r then (x,true) else livesS S k r:=by
 obtain ⟨a,b,c,d⟩:=h.made hM0 x.key;obtain ⟨H,hH⟩:=a.has _ b;rw [c] at hH
 have hl:H.last < x.mod:=by
  unfold madeS idS at hH
  cases hg:(getT S.T x.key).2 with
  | true=>rw [hg,if_pos rfl,if_pos rfl] at hH;exact hlast hg H hH
  | false =>
    simp only [hg,Bool.false_eq_true,if_false,if_true] at hH;obtain rfl:=Option.some.inj hH
    show (0:Int) < x.mod
    omega
 have hI:=(a.hist _ _ hH);unfold putS;rw [hH];generalize madeS S x.key=S' at *;generalize idS S x.key=id at *;dsimp only [Option.getD_some];refine ⟨⟨a.inj,fun k hk=>?_,fun i G hG=>?_⟩,fun k r=>?_⟩
 · dsimp only at hk ⊢
   split
   · exact ⟨_,rfl⟩
   exact a.has k hk
 · dsimp only at hG ⊢
   split at hG
   · rename_i e
     obtain rfl:=Option.some.inj hG;exact ⟨⟨hI.1.1.put x hl h1,Int.le_refl _⟩,by rw [e];exact hI.2⟩
   have:=a.hist i G hG
   exact ⟨⟨this.1.1,by omega⟩,this.2⟩
 rw [<-d k r]
 unfold livesS;dsimp only
 cases hk:(getT S'.T k).2 with
 | false =>
   have hno:¬ (keq x.key k=true/\x.mod<=r):=by
    rintro ⟨e,_⟩;rw [zap.1 e,hk] at b;cases b
   simp only [Bool.false_eq_true,if_false,hno]
 | true =>
   simp only [if_true];by_cases e:keq x.key k=true
   · obtain rfl:=zap.1 e
     rw [c,if_pos rfl,hH];dsimp only;rw [zpn hI.1.1 x hl h1 r];by_cases hr:r < x.mod
     · rw [if_pos hr,if_neg (by omega)]
     rw [if_neg hr,if_pos ⟨e,by omega⟩]
   have hne:(getT S'.T k).1≠id:=fun e'=>e (zap.2 (a.inj x.key k b hk (c.trans e'.symm)))
   rw [if_neg hne,if_neg fun h=>e h.1]
theorem SInv.tomb {M:Int} {S:St} (h:SInv M S) (x:Kv) (hM:M<=x.mod) (h1:1<=x.mod) (hk:(getT S.T x.key).2=true) (hlast:∀ H,S.past (getT S.T x.key).1=some H->H.last < x.mod) (ho:∀ H,S.past (getT S.T x.key).1=some H->isOpen H.gens=true) :
 SInv x.mod (tombS S x)/\∀ k r,livesS (tombS S x) k r=if keq x.key k=true/\x.mod<=r then (kv0,false) else livesS S k r:=by
 obtain ⟨H,hH⟩:=h.has _ hk;have hI:=h.hist _ _ hH;have ho':=ho H hH;unfold tombS;rw [if_pos hk,hH];dsimp only [Option.map_some];refine ⟨⟨h.inj,fun k a=>?_,fun i G hG=>?_⟩,fun k r=>?_⟩
 · dsimp only at a ⊢
   split
   · exact ⟨_,rfl⟩
   exact h.has k a
 · dsimp only at hG ⊢
   split at hG
   · rename_i e
     obtain rfl:=Option.some.inj hG;exact ⟨⟨hI.1.1.tomb ho' (hlast H hH) h1,Int.le_refl _⟩,by rw [e];exact hI.2⟩
   have:=h.hist i G hG
   exact ⟨⟨this.1.1,by omega⟩,this.2⟩
 unfold livesS
 dsimp only
 cases ha:(getT S.T k).2 with
 | false =>
   have hno:¬ (keq x.key k=true/\x.mod<=r):=by
    rintro ⟨e,_⟩;rw [zap.1 e,ha] at hk;cases hk
   simp only [Bool.false_eq_true,if_false,hno]
 | true =>
   simp only [if_true];by_cases e:keq x.key k=true
   · obtain rfl:=zap.1 e
     rw [if_pos rfl,hH];dsimp only;rw [zsz hI.1.1 ho' (hlast H hH) h1 r];by_cases hr:r < x.mod
     · rw [if_pos hr,if_neg (by omega)]
     rw [if_neg hr,if_pos ⟨e,by omega⟩]
   have hne:(getT S.T k).1≠(getT S.T x.key).1:=fun e'=>e (zap.2 (h.inj x.key k hk ha e'.symm))
   rw [if_neg hne,if_neg fun h=>e h.1]
def seen (o:Option Kv):Kv × Bool:=match o with
 | some k=>(k,true)
 | none=>(kv0,false)
structure Cpl (S:St) (D:Doc):Prop where
 mark:S.mark=D.mark
 events:S.events=D.events
 inv:SInv D.rev S
 ks:KSorted D.kvs
 m0:0<=D.mark/\D.mark<=D.rev
 lives:∀ key r,D.mark<=r->livesS S key r=seen (hasL (D.at r) key)
def Doc.add (D:Doc) (x:Ev):Doc:={ D with rev:=x.kv.mod,events:=D.events++[x] }
theorem Doc.add_at (D:Doc) (x:Ev) (h:D.mark < x.kv.mod) (r:Int):(D.add x).at r=if x.kv.mod<=r then doneL (D.at r) x else D.at r:=by
 unfold Doc.at Doc.add;dsimp only;rw [List.filter_append,List.foldl_append];by_cases hr:x.kv.mod<=r
 · rw [if_pos hr];simp [h,hr]
 rw [if_neg hr];simp [hr]
theorem zql (S:St) (x:Ev) (k:ByteArray) (r:Int):livesS (doS S x) k r=livesS (doneS S x) k r:=rfl
theorem zjq (S:St) (x:Ev):(doneS S x).mark=S.mark:=by
 unfold doneS putS tombS madeS;dsimp only
 split
 · split <;> rfl
 split <;> rfl
theorem Cpl.does {S:St} {D:Doc} (h:Cpl S D) (x:Ev) (hM:D.rev<=x.kv.mod) (h1:1<=x.kv.mod) (hm:D.mark < x.kv.mod) (hlast:(getT S.T x.kv.key).2=true->∀ H,S.past (getT S.T x.kv.key).1=some H->H.last < x.kv.mod)
 (hdel:x.kind≠1->(getT S.T x.kv.key).2=true/\∀ H,S.past (getT S.T x.kv.key).1=some H->isOpen H.gens=true):Cpl (doS S x) (D.add x):=by
 have hM0:0<=D.rev:=by have:=h.m0;omega
 have key:SInv x.kv.mod (doneS S x)/\∀ k r,livesS (doneS S x) k r=if keq x.kv.key k=true/\x.kv.mod<=r then (if x.kind=1 then (x.kv,true) else (kv0,false)) else livesS S k r:=by
  unfold doneS;by_cases hk:x.kind=1
  · rw [if_pos hk,if_pos hk]
    exact h.inv.put hM0 x.kv hM h1 hlast
  rw [if_neg hk,if_neg hk]
  obtain ⟨a,b⟩:=hdel hk;exact h.inv.tomb x.kv hM h1 a (hlast a) b
 refine ⟨(zjq S x).trans h.mark,?_,?_,h.ks,⟨h.m0.1,by have:=h.m0;show D.mark<=x.kv.mod;omega⟩,fun k r hr=>?_⟩
 · show (doneS S x).events++[x] = D.events++[x]
   rw [zdb,h.events]
 · exact ⟨key.1.inj,key.1.has,key.1.hist⟩
 rw [zql,key.2,Doc.add_at D x hm r,h.lives k r hr]
 by_cases hr2:x.kv.mod<=r
 · rw [if_pos hr2,zct (Doc.at_sorted h.ks r),zcr k]
   by_cases hk:keq x.kv.key k=true
   · rw [if_pos ⟨hk,hr2⟩,if_pos hk]
     split <;> rfl
   rw [if_neg fun e=>hk e.1,if_neg hk]
 rw [if_neg hr2,if_neg fun e=>hr2 e.2]
theorem zcb {T:Pairs} (h:Sorted T) {p:ByteArray × Int} (hp:p∈T):getT T p.1=(p.2,true):=by
 induction T with
 | nil=>cases hp
 | cons q T ih =>
   obtain ⟨h1,h2⟩:=List.pairwise_cons.1 h;rw [zcw];rcases List.mem_cons.1 hp with rfl | hp
   · rw [zap.2 rfl];rfl
   rw [klt_ne (h1 p hp)];exact ih h2 hp
def rgB (frm upr k:ByteArray):Bool:=!klt k frm && (upr.toList.isEmpty || klt k upr)
theorem Cpl.has {S:St} {D:Doc} (h:Cpl S D) {k:ByteArray} {r:Int} (hr:D.mark<=r) {y:Kv} (hy:hasL (D.at r) k=some y):(getT S.T k).2=true:=by
 have h1:=h.lives k r hr;rw [hy] at h1
 cases hg:(getT S.T k).2 with
 | true=>rfl
 | false =>
   unfold livesS at h1;rw [hg] at h1;simp [seen] at h1
theorem Cpl.oneL {S:St} {D:Doc} (h:Cpl S D) (hT:Sorted S.T) {r:Int} (hr:D.mark<=r) {p:ByteArray × Int} (hp:p∈S.T):Go.Proofs.YthljnnjpmdgkoaaGreat.oneL S r p=hasL (D.at r) p.1:=by
 have h1:=h.lives p.1 r hr;have hg:=zcb hT hp;unfold livesS at h1;rw [hg] at h1;simp only [if_true] at h1;obtain ⟨H,hH⟩:=h.inv.has p.1 (by rw [hg]);rw [hg] at hH;unfold Go.Proofs.YthljnnjpmdgkoaaGreat.oneL;dsimp only at hH;rw [hH] at h1 ⊢
 dsimp only at h1 ⊢
 rw [h1];cases hasL (D.at r) p.1 <;> simp [seen]
theorem Cpl.between {S:St} {D:Doc} (h:Cpl S D) (hT:Sorted S.T) (frm upr:ByteArray) {r:Int} (hr:D.mark<=r):zan S (rangeT S.T frm upr) r=(D.at r).filter fun y=>rgB frm upr y.key:=by
 have hL:=Doc.at_sorted h.ks r
 have hmem:∀ y,y∈zan S (rangeT S.T frm upr) r ↔ y∈D.at r/\rgB frm upr y.key=true:=by
  intro y;unfold zan rangeT;rw [List.mem_filterMap]
  constructor
  · rintro ⟨p,hp,hy⟩
    obtain ⟨hp1,hp2⟩:=List.mem_filter.1 hp;rw [h.oneL hT hr hp1] at hy;obtain ⟨a,b⟩:=(zbf hL _ _).1 hy;exact ⟨a,by rw [b];exact hp2⟩
  rintro ⟨hy,hf⟩
  have h1:=(zbf hL y.key y).2 ⟨hy,rfl⟩;have h2:=zdy (h.has hr h1);exact ⟨_,List.mem_filter.2 ⟨h2,hf⟩,by rw [h.oneL hT hr h2];exact h1⟩
 have hs:KSorted (zan S (rangeT S.T frm upr) r):=by
  unfold zan KSorted;rw [List.pairwise_filterMap];have hR:Sorted (rangeT S.T frm upr):=List.Pairwise.sublist List.filter_sublist hT;refine List.Pairwise.imp_of_mem (fun {p q} hp hq hpq=>?_) hR;intro a ha b hb;rw [h.oneL hT hr (zgr hp)] at ha;rw [h.oneL hT hr (zgr hq)] at hb;rw [((zbf hL _ _).1 ha).2,((zbf hL _ _).1 hb).2];exact hpq
 have hs2:KSorted ((D.at r).filter fun y=>rgB frm upr y.key):=List.Pairwise.sublist List.filter_sublist hL;refine znm hs hs2 fun key=>zsk fun y=>?_;rw [zbf hs,zbf hs2,hmem,List.mem_filter]
def ESorted (l:List Ev):Prop:=l.Pairwise fun a b=>a.kv.mod<=b.kv.mod
def Doc.cut (D:Doc) (r:Int):Doc:=⟨D.rev,r,D.at r,D.events.filter fun e=>decide (r<=e.kv.mod) && decide (e.kv.mod<=D.rev)⟩
theorem zha {l:List Ev} (h:ESorted l) (m R r:Int) (h1:m<=R) (h2:R<=r) :
 (l.filter fun e=>decide (m < e.kv.mod) && decide (e.kv.mod<=r))=(l.filter fun e=>decide (m < e.kv.mod) && decide (e.kv.mod<=R))++l.filter fun e=>decide (R < e.kv.mod) && decide (e.kv.mod<=r):=by
 induction l with
 | nil=>rfl
 | cons x l ih =>
   obtain ⟨a1,a2⟩:=List.pairwise_cons.1 h;have ih:=ih a2;by_cases hx:x.kv.mod<=R
   · have hn:¬ R < x.kv.mod:=by omega
     have hr:x.kv.mod<=r:=(by omega);by_cases hm:m < x.kv.mod
     · simp only [List.filter_cons,hx,hn,hr,hm,decide_true,decide_false,Bool.and_true,Bool.and_self,if_true,Bool.false_eq_true,if_false,List.cons_append]
       rw [ih]
     simp only [List.filter_cons,hm,hn,decide_false,Bool.false_and,Bool.false_eq_true,if_false]
     exact ih
   have hnil:(l.filter fun e=>decide (m < e.kv.mod) && decide (e.kv.mod<=R)) = []:=List.filter_eq_nil_iff.2 fun e he=>by have:=a1 e he;simp;omega
   rw [hnil] at ih;have hm:m < x.kv.mod:=(by omega);have hR:R < x.kv.mod:=(by omega);simp only [List.filter_cons,hx,hm,hR,hnil,decide_true,decide_false,Bool.and_false,Bool.true_and,Bool.false_eq_true,if_false,List.nil_append];rw [ih];rfl
theorem Doc.cut_at {D:Doc} (h:ESorted D.events) {R r:Int} (h1:D.mark<=R) (h2:R<=r) (hm:∀ e∈D.events,e.kv.mod<=D.rev):(D.cut R).at r=D.at r:=by
 unfold Doc.at Doc.cut;dsimp only;rw [zha h D.mark R r h1 h2,List.foldl_append,List.filter_filter]
 unfold Doc.at
 congr 1
 refine List.filter_congr fun e he=>?_;have:=hm e he;by_cases a:R < e.kv.mod <;> by_cases b:e.kv.mod<=r <;> simp [a,b] <;> omega
structure DocOk (n:Nat) (D:Doc):Prop where
 es:ESorted D.events
 lo:∀ e∈D.events,1<=e.kv.mod/\D.mark<=e.kv.mod/\e.kv.mod<=D.rev
 full:∀ r,1<=r->D.mark<=r->r<=D.rev->∃ e∈D.events,e.kv.mod=r
 uniq:D.events.Pairwise fun a b=>a.kv.mod=b.kv.mod->a.kv.key≠b.kv.key
 prev:∀ A e B,D.events=A++e :: B->D.mark < e.kv.mod->e.prev=(hasL ((A.filter fun y=>decide (D.mark < y.kv.mod)).foldl doneL D.kvs) e.kv.key).getD kv0
 kind:∀ e∈D.events,e.kind=1\/e.kind=2
 ver0:∀ k∈D.kvs,1<=k.version/\k.version<=n
 ver:∀ e∈D.events,e.kind=1->1<=e.kv.version/\e.kv.version<=n
theorem DocOk.mono {n m:Nat} {D:Doc} (h:DocOk n D) (hm:n<=m):DocOk m D :=
 { h with ver0:=fun k hk=>by have:=h.ver0 k hk;omega,ver:=fun e he h1=>by have:=h.ver e he h1;omega }
theorem zcd {l:List Kv} (h:KSorted l) (es:List Ev) (y:Kv) (hy:y∈es.foldl doneL l):y∈l\/∃ e∈es,e.kind=1/\y=e.kv:=by
 induction es generalizing l with
 | nil=>exact .inl hy
 | cons e es ih =>
   rcases ih (zco h e) hy with h1 | ⟨e',h1,h2⟩
   · rcases (zhy h e y).1 h1 with ⟨h2,h3⟩ | ⟨h2,_⟩
     · exact .inr ⟨e,List.mem_cons_self,h2,h3⟩
     exact .inl h2
   exact .inr ⟨e',List.mem_cons_of_mem _ h1,h2⟩
theorem Doc.mem_at {D:Doc} (h:KSorted D.kvs) {r:Int} {y:Kv} (hy:y∈D.at r):y∈D.kvs\/∃ e∈D.events,e.kind=1/\y=e.kv:=by
 rcases zcd h _ y hy with h1 | ⟨e,h1,h2⟩
 · exact .inl h1
 exact .inr ⟨e,(List.mem_filter.1 h1).1,h2⟩
theorem DocOk.ver_at {n:Nat} {D:Doc} (h:DocOk n D) (hs:KSorted D.kvs) {r:Int} {y:Kv} (hy:y∈D.at r):1<=y.version/\y.version<=n:=by
 rcases Doc.mem_at hs hy with h1 | ⟨e,h1,h2,rfl⟩
 · exact h.ver0 y h1
 exact h.ver e h1 h2
theorem DocOk.ver_has {n:Nat} {D:Doc} (h:DocOk n D) (hs:KSorted D.kvs) (r:Int) (k:ByteArray):0<=((hasL (D.at r) k).getD kv0).version/\((hasL (D.at r) k).getD kv0).version<=n:=by
 cases hh:hasL (D.at r) k with
 | none=>exact ⟨Int.le_refl 0,by show (0:Int)<=n;omega⟩
 | some y =>
   have:=h.ver_at hs ((zbf (Doc.at_sorted hs r) k y).1 hh).1
   show 0<=y.version/\y.version<=n
   omega
theorem Doc.at_late {D:Doc} (hm:∀ e∈D.events,e.kv.mod<=D.rev) {r r':Int} (h:D.rev<=r) (h':D.rev<=r'):D.at r=D.at r':=by
 unfold Doc.at
 congr 1
 refine List.filter_congr fun e he=>?_;have:=hm e he;have h1:e.kv.mod<=r:=by omega
 have h2:e.kv.mod<=r':=by omega
 simp [h1,h2]
theorem Doc.at_all {D:Doc} (hm:∀ e∈D.events,e.kv.mod<=D.rev) {r:Int} (h:D.rev<=r):D.at r=(D.events.filter fun y=>decide (D.mark < y.kv.mod)).foldl doneL D.kvs:=by
 unfold Doc.at
 congr 1
 refine List.filter_congr fun e he=>?_;have:=hm e he;have h1:e.kv.mod<=r:=by omega
 simp [h1]
theorem zqb {α:Type} {l A B:List α} {x e:α} (h:l++[x] = A++e :: B):(A=l/\e=x/\B = [])\/∃ B',B=B'++[x]/\l=A++e :: B':=by
 rcases List.eq_nil_or_concat B with rfl | ⟨B',y,rfl⟩
 · left
   have h2:=List.append_inj_right' h (by simp);have h1:=List.append_inj_left' h (by simp);exact ⟨h1.symm,by simpa using h2.symm,rfl⟩
 right
 have e1:A++e :: (B'++[y])=(A++e :: B')++[y]:=(by simp);simp only [List.concat_eq_append] at h;rw [e1] at h;have h2:=List.append_inj_right' h (by simp);have h1:=List.append_inj_left' h (by simp);refine ⟨B',?_,h1⟩;simp only [List.concat_eq_append];rw [show y=x by simpa using h2.symm]
theorem DocOk.add {n:Nat} {D:Doc} (h:DocOk n D) (x:Ev) (h1:1<=x.kv.mod) (hm:D.mark < x.kv.mod) (hr:D.rev<=x.kv.mod) (hr2:x.kv.mod<=D.rev+1) (hp:x.prev=(hasL (D.at x.kv.mod) x.kv.key).getD kv0)
 (hk:x.kind=1\/x.kind=2) (hv:x.kind=1->1<=x.kv.version/\x.kv.version<=n+1) (hu:∀ e∈D.events,e.kv.mod=x.kv.mod->e.kv.key≠x.kv.key):DocOk (n+1) (D.add x):=by
 refine ⟨?_,fun e he=>?_,fun r a b c=>?_,?_,fun A e B hAB hmark=>?_,fun e he=>?_,fun k hk=>?_,fun e he h1=>?_⟩
 · refine List.pairwise_append.2 ⟨h.es,by simp,fun a ha b hb=>?_⟩
   rw [List.mem_singleton.1 hb];have:=h.lo a ha;omega
 · rcases List.mem_append.1 he with he | he
   · have:=h.lo e he
     exact ⟨this.1,this.2.1,by show e.kv.mod<=x.kv.mod;omega⟩
   rw [List.mem_singleton.1 he]
   exact ⟨h1,by show D.mark<=x.kv.mod;omega,Int.le_refl _⟩
 · by_cases e:r=x.kv.mod
   · exact ⟨x,List.mem_append_right _ List.mem_cons_self,e.symm⟩
   have c':r<=x.kv.mod:=c
   obtain ⟨y,hy,e'⟩:=h.full r a b (by omega);exact ⟨y,List.mem_append_left _ hy,e'⟩
 · refine List.pairwise_append.2 ⟨h.uniq,by simp,fun a ha b hb=>?_⟩
   rw [List.mem_singleton.1 hb];exact hu a ha
 · rcases zqb (show D.events++[x] = A++e :: B from hAB) with ⟨rfl,rfl,rfl⟩ | ⟨B',_,h2⟩
   · rw [hp,Doc.at_all (fun e he=>(h.lo e he).2.2) hr]
     rfl
   exact h.prev A e B' h2 hmark
 · rcases List.mem_append.1 he with he | he
   · exact h.kind e he
   rw [List.mem_singleton.1 he];exact hk
 · have:=h.ver0 k hk;omega
 rcases List.mem_append.1 he with he | he
 · have:=h.ver e he h1;omega
 rw [List.mem_singleton.1 he] at h1 ⊢
 have:=hv h1;omega
theorem zml {α:Type} {l A B:List α} {e:α} {p:α->Bool} (h:l.filter p=A++e :: B):∃ A' B',l=A'++e :: B'/\A=A'.filter p/\B=B'.filter p:=by
 induction l generalizing A with
 | nil=>simp at h
 | cons x l ih =>
   rw [List.filter_cons] at h;by_cases hp:p x=true
   · rw [if_pos hp] at h
     cases A with
     | nil =>
       simp only [List.nil_append,List.cons.injEq] at h;obtain ⟨rfl,h⟩:=h;exact ⟨[],l,rfl,rfl,h.symm⟩
     | cons a A =>
       simp only [List.cons_append,List.cons.injEq] at h;obtain ⟨rfl,h⟩:=h;obtain ⟨A',B',h1,h2,h3⟩:=ih h;exact ⟨x :: A',B',by rw [h1];rfl,by rw [List.filter_cons,if_pos hp,h2],h3⟩
   rw [if_neg hp] at h
   obtain ⟨A',B',h1,h2,h3⟩:=ih h;exact ⟨x :: A',B',by rw [h1];rfl,by rw [List.filter_cons,if_neg hp,h2],h3⟩
theorem DocOk.cut {n:Nat} {D:Doc} (h:DocOk n D) (hs:KSorted D.kvs) (R:Int) (hR:D.mark < R) (_hR2:R<=D.rev):DocOk n (D.cut R):=by
 have hsub:∀ e∈(D.cut R).events,e∈D.events/\R<=e.kv.mod:=fun e he=>by
  obtain ⟨h1,h2⟩:=List.mem_filter.1 he;simp only [Bool.and_eq_true,decide_eq_true_eq] at h2;exact ⟨h1,h2.1⟩
 refine ⟨List.Pairwise.sublist List.filter_sublist h.es,fun e he=>?_,fun r a b c=>?_,List.Pairwise.sublist List.filter_sublist h.uniq,fun A e B hAB hmark=>?_,fun e he=>h.kind e (hsub e he).1,fun k hk=>h.ver_at hs hk,fun e he=>h.ver e (hsub e he).1⟩
 · have:=h.lo e (hsub e he).1
   exact ⟨this.1,(hsub e he).2,this.2.2⟩
 · have b':R<=r:=b
   obtain ⟨e,he,h1⟩:=h.full r a (by omega) c;have c':r<=D.rev:=c;exact ⟨e,List.mem_filter.2 ⟨he,by simp;omega⟩,h1⟩
 have hmark':R < e.kv.mod:=hmark
 obtain ⟨A',B',h1,h2,h3⟩:=zml (show D.events.filter _=A++e :: B from hAB);rw [h.prev A' e B' h1 (by omega)]
 congr 2
 -- what lives ahead of the event is the same
 have hA:ESorted A':=(by have:=h.es;rw [h1] at this;exact (List.pairwise_append.1 this).1)
 have hAm:∀ y∈A',y.kv.mod<=e.kv.mod:=by
  have:=h.es;rw [h1] at this;exact fun y hy=>(List.pairwise_append.1 this).2.2 y hy e List.mem_cons_self
 have hem:=(h.lo e (by rw [h1];simp)).2.2;have hp:=zha hA D.mark R e.kv.mod (by omega) (by omega)
 have e1:(A'.filter fun y=>decide (D.mark < y.kv.mod))=A'.filter fun y=>decide (D.mark < y.kv.mod) && decide (y.kv.mod<=e.kv.mod):=List.filter_congr fun y hy=>by
  have:=hAm y hy;simp [this]
 rw [e1,hp,List.foldl_append]
 have e2:(A.filter fun y=>decide ((D.cut R).mark < y.kv.mod))=A'.filter fun y=>decide (R < y.kv.mod) && decide (y.kv.mod<=e.kv.mod):=by
  rw [h2,List.filter_filter];refine List.filter_congr fun y hy=>?_;have hy1:=hAm y hy
  show (decide (R < y.kv.mod) && (decide (R<=y.kv.mod) && decide (y.kv.mod<=D.rev)))=_
  by_cases hRy:R < y.kv.mod
  · have a1:R<=y.kv.mod:=by omega
    have a2:y.kv.mod<=D.rev:=(by omega);simp [hRy,a1,a2,hy1]
  simp [hRy]
 rw [e2]
 congr 1
 show _=(D.events.filter fun e=>decide (D.mark < e.kv.mod) && decide (e.kv.mod<=R)).foldl doneL D.kvs
 congr 1
 rw [h1,List.filter_append]
 have e3:((e :: B').filter fun e=>decide (D.mark < e.kv.mod) && decide (e.kv.mod<=R)) = []:=List.filter_eq_nil_iff.2 fun y hy=>by
  have:=h.es;rw [h1] at this;have h4:=(List.pairwise_append.1 this).2.1;rcases List.mem_cons.1 hy with rfl | hy
  · simp;omega
  have:=(List.pairwise_cons.1 h4).1 y hy
  simp;omega
 rw [e3,List.append_nil]
theorem zpg:∀ (f k:List UInt8),(¬ k < f/\k < f++[0]) ↔ k=f
 | [],[]=>by simp
 | [],a :: k=>by
   simp only [List.nil_append,List.cons_lt_cons_iff,List.not_lt_nil,and_false,or_false]
   constructor
   · rintro ⟨_,h⟩
     exact absurd h (by have:=a.toNat_lt;rw [UInt8.lt_iff_toNat_lt];simp)
   intro h;cases h
 | b :: f,[]=>by simp
 | b :: f,a :: k=>by
   have ih:=zpg f k;simp only [List.cons_append,List.cons_lt_cons_iff,List.cons.injEq]
   constructor
   · rintro ⟨h1,h2 | ⟨rfl,h2⟩⟩
     · exact absurd (.inl h2) h1
     exact ⟨rfl,ih.1 ⟨fun h=>h1 (.inr ⟨rfl,h⟩),h2⟩⟩
   rintro ⟨rfl,rfl⟩
   have h3:=ih.2 rfl;refine ⟨?_,.inr ⟨rfl,h3.2⟩⟩;rintro (h | ⟨_,h⟩)
   · exact absurd h (by rw [UInt8.lt_iff_toNat_lt];omega)
   exact h3.1 h
theorem zsb (frm end_ k:ByteArray):rgB frm (toOf frm end_) k=inB k frm end_:=by
 unfold rgB toOf inB
 cases h1:end_.toList.isEmpty with
 | true =>
   simp only [if_true]
   have he:(frm++(⟨#[0]⟩:ByteArray)).toList.isEmpty=false:=by
    rw [Lib.toList_data];simp
   rw [he,Bool.false_or];have hl:=zpg frm.data.toList k.data.toList
   have h2:klt k (frm++⟨#[0]⟩)=true ↔ k.data.toList < frm.data.toList++[0]:=by
    rw [zdc];simp
   rw [Bool.eq_iff_iff,Bool.and_eq_true,Bool.not_eq_true',Bool.eq_false_iff,Ne,zdc,h2,hl,beq_iff_eq,Lib.toList_data,Lib.toList_data]
 | false =>
   simp only [Bool.false_eq_true,if_false]
   cases h2:(end_.toList == [0]) with
   | true =>
     simp only [if_true];have:(ByteArray.empty).toList.isEmpty=true:=(by rw [Lib.toList_data];rfl);rw [this];simp [klt]
   | false =>
     simp only [Bool.false_eq_true,if_false];rw [h1];simp [klt]
open Go Go.RowKit
theorem zju {z:Array Value} {n:Nat} {v:Value} (h:v∈(Builtin.zeroCells z n).toList):∃ i,i < z.size/\v=z[i]!:=by
 unfold Builtin.zeroCells at h;simp only [Array.toList_map,List.mem_map,Array.toList_range,List.mem_range] at h;obtain ⟨i,hi,rfl⟩:=h;rcases Nat.eq_zero_or_pos z.size with h0 | h0
 · rw [h0] at hi;omega
 exact ⟨i % z.size,Nat.mod_lt _ h0,rfl⟩
theorem zbn (z:Array Value) (n:Nat):(Builtin.zeroCells z n).toList.length=n * z.size:=by
 unfold Builtin.zeroCells;simp
theorem zep {P:Program} (w:World) (t e ty:TypeId) (z:Value) (ht:P.underlying t=some (.slice e)) (hv:∀ w,(zeroValue e).run P w = .ok z w) (h1:∀ i,i < z.cells.size->z.cells[i]!.oneCell'=true) (g o n c:Nat) (cur:Array Value) (et:TypeId)
 (hg:w.heap[g]? = some (.cells cur et (0,0))) (hfit:o+n * z.cells.size<=cur.size) :
 ∃ w',(Builtin.clear_ #[t] ty #[.slice (some ⟨g,o,none⟩) n c]).run P w = .ok (.tuple #[]) w' ∧
  w'.heap[g]? = some (.cells (cur.toList.take o++(Builtin.zeroCells z.cells n).toList++cur.toList.drop (o+n * z.cells.size)).toArray et (0,0))/\w.grownBy w' (some g):=by
 have hl:=zbn z.cells n;have hst:=run_storeCells_at P g o et (Builtin.zeroCells z.cells n).toList 0 cur w hg (by rw [hl];simpa using hfit) (fun v hv'=>by obtain ⟨i,hi,rfl⟩:=zju hv';exact h1 i hi)
 cases n with
 | zero =>
   refine ⟨w,by simp [Builtin.clear_,run_underlying ht],?_,⟨rfl,rfl,rfl,Nat.le_refl _,fun _ _ _=>rfl⟩⟩;have h0:(Builtin.zeroCells z.cells 0).toList = []:=List.eq_nil_of_length_eq_zero (by rw [zbn];simp);rw [h0,hg];simp
 | succ m =>
   refine ⟨w.setRow g (cur.toList.take o++(Builtin.zeroCells z.cells (m+1)).toList++cur.toList.drop (o+(m+1) * z.cells.size)).toArray,?_,setRow_heap w g cur _ et _ hg,⟨rfl,rfl,rfl,by simp,fun k _ hk=>setRow_other w g k _ (fun e=>hk (by rw [e]))⟩⟩;rw [hl] at hst;simp [Builtin.clear_,run_underlying ht,hv,hst]
theorem SlF.cleared {α:Type} {f:α->List Value} {w w':World} {e sz g o cap:Nat} {L:List α} (hf:∀ x,(f x).length=sz) (h:SlF w e sz f (.slice (some ⟨g,o,none⟩) L.length cap) L) (k:Nat) (hk:k<=L.length)
 (cur:Array Value) (hg:w.heap[g]? = some (.cells cur e (0,0))) (zs:List Value) (hz:zs.length=(L.length - k) * sz)
 (hg':w'.heap[g]? = some (.cells (cur.toList.take (o+k * sz)++zs++cur.toList.drop (o+k * sz+(L.length - k) * sz)).toArray e (0,0))) :
 SlF w' e sz f (.slice (some ⟨g,o,none⟩) k cap) (L.take k):=by
 have hlen:(L.take k).length=k:=by simp;omega
 unfold SlF;rw [hlen];refine ⟨by rw [zao hf,hlen],?_⟩;rcases h.2 with ⟨h0,_⟩ | ⟨g',o',cap',cur',hv,hc,h1,h2,h3,h4⟩
 · cases h0
 cases hv
 rw [hg] at hc;cases hc
 have hL:L.length * sz<=cap * sz:=Nat.mul_le_mul_right _ h1;have hkm:k * sz+(L.length - k) * sz=L.length * sz:=(by rw [<-Nat.add_mul];congr 1;omega);have hcl:cur.toList.length=cur.size:=(by simp);refine .inr ⟨g,o,cap,_,rfl,hg',by omega,h2,?_,?_⟩
 · simp only [List.size_toArray,List.length_append,List.length_take,List.length_drop,hz,hcl]
   omega
 rw [<-zdk hf,<-h4]
 simp only [List.append_assoc];rw [List.drop_append_of_le_length (by rw [List.length_take];omega),List.take_append_of_le_length (by rw [List.length_drop,List.length_take];omega),List.drop_take,List.take_take,List.take_take]
 congr 1
 have:k * sz<=L.length * sz:=Nat.mul_le_mul_right _ hk;omega
end Go.Proofs.YthljnnjpmdgkoaaGreat