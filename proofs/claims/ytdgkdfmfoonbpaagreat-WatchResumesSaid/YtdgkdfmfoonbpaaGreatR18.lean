/- Own lemmas. -/
import Derived.Test.YtdgkdfmfoonbpaaGreatR16
import Derived.Test.YtdgkdfmfoonbpaaGreatR17
import Derived.Test.YtdgkdfmfoonbpaaGreatR15
import Derived.Test.YtdgkdfmfoonbpaaGreatR01
namespace Go.Proofs.YtdgkdfmfoonbpaaGreat
open Go Go.Proofs Go.RowKit
set_option maxRecDepth 100000
theorem zcq (q:ByteArray×Int) (X:Pairs) (k:ByteArray):getT (q :: X) k=if keq q.1 k then (q.2,true) else getT X k:=by
 unfold getT;rw [List.find?_cons];cases h:keq q.1 k <;> simp
theorem zcp (T:Pairs) (k:ByteArray) (m:Int) (k':ByteArray):getT (insT T k m) k'=if keq k k' then (m,true) else getT T k':=by
 induction T with
 | nil =>
   unfold insT;rw [zcq]
 | cons p T ih =>
   unfold insT
   split
   · rename_i h
     rw [zcq,zcq,ih];cases h1:keq p.1 k' <;> cases h2:keq k k' <;> simp
     have a:=zat.1 h1;have b:=zat.1 h2;rw [a,b,zca] at h;cases h
   split
   · rename_i h2
     rw [zcq,zcq]
     cases h1:keq k k' with
     | true=>simp
     | false =>
       have:keq p.1 k'=false:=(by rw [zat.1 h2];exact h1);simp [this]
   rw [zcq]
theorem zuq {T:Pairs} {k:ByteArray} {m:Int} {q:ByteArray×Int} (h:q∈insT T k m):q∈T\/q=(k,m):=by
 induction T with
 | nil=>exact .inr (by simpa [insT] using h)
 | cons p T ih =>
   unfold insT at h
   split at h
   · rcases List.mem_cons.1 h with h | h
     · exact .inl (by simp [h])
     rcases ih h with h | h
     · exact .inl (by simp [h])
     exact .inr h
   split at h
   · rcases List.mem_cons.1 h with h | h
     · exact .inr h
     exact .inl (by simp [h])
   rcases List.mem_cons.1 h with h | h
   · exact .inr h
   exact .inl h
theorem zfh {T:Pairs} {k:ByteArray} (h:(getT T k).2=true):(k,(getT T k).1)∈T:=by
 unfold getT at h ⊢
 cases hf:T.find? fun p=>keq p.1 k with
 | none=>rw [hf] at h;cases h
 | some p =>
   have d:=List.mem_of_find?_eq_some hf;have e:=List.find?_some hf;have c:=zat.1 e;obtain ⟨a,b⟩:=p;dsimp only at c ⊢
   subst c;exact d
theorem zdy {α:Type} {l:List α} {i:Nat} {f:α->α} {y:α} (h:y∈l.modify i f):∃ x∈l,y=x\/y=f x:=by
 obtain ⟨j,a⟩:=List.mem_iff_getElem?.1 h;rw [List.getElem?_modify] at a
 cases hx:l[j]? with
 | none=>rw [hx] at a;simp at a
 | some x =>
   rw [hx] at a;refine ⟨x,List.mem_of_getElem? hx,?_⟩;by_cases hi:i=j
   · right;simpa [hi] using a.symm
   left;simpa [hi] using a.symm
theorem HistOk.mono {n m:Nat} {H:Hist} (h:HistOk n H) (hm:n<=m):HistOk m H :=
 ⟨Nat.le_trans h.len hm,fun x hx=>⟨Nat.le_trans (h.puts x hx).1 hm,(h.puts x hx).2⟩⟩
theorem zsq (n:Nat):HistOk n newH:=⟨by simp [newH],by simp [newH]⟩
theorem zwd {n:Nat} {H:Hist} (h:HistOk n H) (x:Kv) (h1:1<=x.mod) (h2:x.mod<=top):HistOk (n+1) (putH H x):=by
 unfold putH putK;refine ⟨?_,fun y a=>?_⟩
 · have:=h.len
   dsimp only
   split
   · rw [List.length_modify];omega
   simp;omega
 dsimp only at a
 split at a
 · obtain ⟨z,c,e | e⟩:=zdy a
   · subst e
     exact ⟨Nat.le_succ_of_le (h.puts y c).1,(h.puts y c).2⟩
   subst e
   have:=h.puts z c;refine ⟨by simp;omega,this.2.1,this.2.2.1,fun p b=>?_⟩;rcases List.mem_append.1 b with b | b
   · exact this.2.2.2 p b
   rw [List.mem_singleton.1 b];exact ⟨h1,h2⟩
 rcases List.mem_append.1 a with a | a
 · exact ⟨Nat.le_succ_of_le (h.puts y a).1,(h.puts y a).2⟩
 rw [List.mem_singleton.1 a]
 refine ⟨by simp,by simp,by simp [top],fun p b=>?_⟩;rw [List.mem_singleton.1 b];exact ⟨h1,h2⟩
theorem zuc {n:Nat} {H:Hist} (h:HistOk n H) (rev:Int):HistOk n (tombH H rev):=by
 unfold tombH tombK;refine ⟨by rw [List.length_modify];exact h.len,fun y hy=>?_⟩;obtain ⟨z,a,e | e⟩:=zdy hy
 · subst e;exact h.puts y a
 subst e;exact h.puts z a
theorem StOk.mono {n m:Nat} {S:St} (h:StOk n S) (hm:n<=m):StOk m S :=
 { h with next:=Int.le_trans h.next (by omega),hist:=fun i H hi=>⟨(h.hist i H hi).1.mono hm,(h.hist i H hi).2⟩,ev:=Nat.le_trans h.ev hm }
theorem zus {n:Nat} {S:St} (h:StOk n S) (key:ByteArray) :
 StOk (n+1) (madeS S key)/\(0<=idS S key/\idS S key<(madeS S key).next)/\∃ H,(madeS S key).past (idS S key)=some H/\HistOk n H/\H.last<=top:=by
 unfold madeS idS
 cases hg:(getT S.T key).2 with
 | true =>
   simp only [if_true];obtain ⟨H,b⟩:=h.id _ (zfh hg);exact ⟨h.mono (by omega),h.ids _ H b,H,b,(h.hist _ H b).1,(h.hist _ H b).2⟩
 | false =>
   simp only [if_false,Bool.false_eq_true];refine ⟨{ pos:=by have:=h.pos;dsimp only;omega,next:=by have:=h.next;dsimp only;omega,id:=fun p a=>?_,ids:=fun i H hi=>?_,hist:=fun i H hi=>?_,rev0:=h.rev0,rev1:=h.rev1,mark0:=h.mark0,ev:=Nat.le_succ_of_le h.ev },⟨h.pos,by omega⟩,newH,by simp,zsq n,by simp [newH,top]⟩
   · dsimp only at a ⊢
     by_cases e:p.2=S.next
     · exact ⟨newH,by rw [if_pos e]⟩
     rw [if_neg e]
     rcases zuq a with a | a
     · exact h.id p a
     exact absurd (by rw [a]) e
   · dsimp only at hi ⊢
     have:=h.pos;by_cases e:i=S.next
     · omega
     rw [if_neg e] at hi
     have:=h.ids i H hi;omega
   dsimp only at hi
   by_cases e:i=S.next
   · rw [if_pos e] at hi
     obtain rfl:=Option.some.inj hi;exact ⟨zsq _,by simp [newH,top]⟩
   rw [if_neg e] at hi
   exact ⟨(h.hist i H hi).1.mono (by omega),(h.hist i H hi).2⟩
theorem zwc {n:Nat} {S:St} (h:StOk n S) (x:Kv) (h1:1<=x.mod) (h2:x.mod<=top):StOk (n+1) (putS S x):=by
 obtain ⟨a,c,g,b,d,f⟩:=zus h x.key;unfold putS;rw [b];refine { pos:=a.pos,next:=a.next,id:=fun p hp=>?_,ids:=fun i H hi=>?_,hist:=fun i H hi=>?_,rev0:=a.rev0,rev1:=a.rev1,mark0:=a.mark0,ev:=a.ev }
 · dsimp only
   split
   · exact ⟨_,rfl⟩
   exact a.id p hp
 · dsimp only at hi ⊢
   split at hi
   · rename_i e;rw [e];exact c
   exact a.ids i H hi
 dsimp only at hi
 split at hi
 · obtain rfl:=Option.some.inj hi
   exact ⟨zwd d x h1 h2,h2⟩
 exact a.hist i H hi
theorem zub {n:Nat} {S:St} (h:StOk n S) (x:Kv) (h2:x.mod<=top):StOk n (tombS S x):=by
 unfold tombS
 split
 · rename_i hg
   refine { pos:=h.pos,next:=h.next,id:=fun p hp=>?_,ids:=fun i H hi=>?_,hist:=fun i H hi=>?_,rev0:=h.rev0,rev1:=h.rev1,mark0:=h.mark0,ev:=h.ev }
   · dsimp only
     split
     · obtain ⟨H,a⟩:=h.id _ (zfh hg)
       dsimp only at a;exact ⟨_,by rw [a];rfl⟩
     exact h.id p hp
   · dsimp only at hi ⊢
     split at hi
     · rename_i e
       cases a:S.past (getT S.T x.key).1 with
       | none=>rw [a] at hi;cases hi
       | some H0=>rw [e];exact h.ids _ H0 a
     exact h.ids i H hi
   dsimp only at hi
   split at hi
   · cases a:S.past (getT S.T x.key).1 with
     | none=>rw [a] at hi;cases hi
     | some H0 =>
       rw [a] at hi;obtain rfl:=Option.some.inj hi;exact ⟨zuc (h.hist _ H0 a).1 _,h2⟩
   exact h.hist i H hi
 exact h
theorem zvj {n:Nat} {S:St} (h:StOk n S) (x:Ev) (h1:1<=x.kv.mod) (h2:x.kv.mod<=top):StOk (n+1) (doneS S x):=by
 unfold doneS
 split
 · exact zwc h _ h1 h2
 exact (zub h _ h2).mono (by omega)
theorem doS_ok {n:Nat} {S:St} (h:StOk n S) (x:Ev) (h1:1<=x.kv.mod) (h2:x.kv.mod<=top):StOk (n+1) (doS S x):=by
 have a:=zvj h x h1 h2;have b:=zfa S x;unfold doS;refine { a with ev:=?_ };dsimp only;rw [b];have:=h.ev;simp;omega
theorem StOk.setRev {n:Nat} {S:St} (h:StOk n S) (r:Int) (h0 : -top<=r) (h1:r<=top):StOk n { S with rev:=r }:={ h with rev0:=h0,rev1:=h1 }
structure SInv (M:Int) (S:St):Prop where
 inj:∀ k k',(getT S.T k).2=true->(getT S.T k').2=true->(getT S.T k).1=(getT S.T k').1->k=k'
 has:∀ k,(getT S.T k).2=true->∃ H,S.past (getT S.T k).1=some H
 hist:∀ i H,S.past i=some H->(HInv H.last H/\H.last<=M)/\i<S.next
theorem zvf (r:Int):hadH newH r=(kv0,false):=rfl
theorem SInv.made {M:Int} {S:St} (h:SInv M S) (hM0:0<=M) (key:ByteArray):SInv M (madeS S key)/\(getT (madeS S key).T key).2=true/\(getT (madeS S key).T key).1=idS S key/\∀ k r,livesS (madeS S key) k r=livesS S k r:=by
 unfold madeS idS
 cases hg:(getT S.T key).2 with
 | true=>simp only [if_true];exact ⟨h,by first | trivial | exact hg,by trivial,fun _ _=>by trivial⟩
 | false =>
   simp only [Bool.false_eq_true,if_false]
   have d:∀ k,(getT S.T k).2=true->(getT S.T k).1<S.next:=fun k hk=>by
    obtain ⟨H,f⟩:=h.has k hk;exact (h.hist _ _ f).2
   refine ⟨⟨fun k k' a b e=>?_,fun k a=>?_,fun i H a=>?_⟩,?_,?_,fun k r=>?_⟩
   · dsimp only at a b e
     rw [zcp] at a b e;rw [zcp] at e
     split at a <;> split at b <;> rename_i c1 c2
     · exact (zat.1 c1).symm.trans (zat.1 c2)
     · rw [if_pos c1,if_neg c2] at e;have:=d k' b;dsimp only at e;omega
     · rw [if_neg c1,if_pos c2] at e;have:=d k a;dsimp only at e;omega
     rw [if_neg c1,if_neg c2] at e;exact h.inj k k' a b e
   · dsimp only at a ⊢
     rw [zcp] at a ⊢
     split at a
     · exact ⟨newH,by simp [*]⟩
     rename_i c
     rw [if_neg c];have:=d k a;rw [if_neg (by omega)];exact h.has k a
   · dsimp only at a ⊢
     split at a
     · obtain rfl:=Option.some.inj a;exact ⟨⟨HInv.new 0,hM0⟩,by omega⟩
     have:=h.hist i H a;exact ⟨this.1,by omega⟩
   · rw [zcp,if_pos (zat.2 rfl)]
   · rw [zcp,if_pos (zat.2 rfl)]
   unfold livesS
   dsimp only;rw [zcp];by_cases c:keq key k=true
   · obtain rfl:=zat.1 c
     rw [if_pos c,hg];simp [zvf]
   rw [if_neg c]
   cases ha:(getT S.T k).2 with
   | false=>rfl
   | true=>have:=d k ha;simp only [if_true];rw [if_neg (by omega)]
theorem SInv.put {M:Int} {S:St} (h:SInv M S) (hM0:0<=M) (x:Kv) (hM:M<=x.mod) (h1:1<=x.mod) (hlast:(getT S.T x.key).2=true->∀ H,S.past (getT S.T x.key).1=some H->H.last<x.mod):SInv x.mod (putS S x)/\∀ k r,livesS (putS S x) k r=if keq x.key k=true/\x.mod<=r then (x,true) else livesS S k r:=by
 obtain ⟨a,b,c,d⟩:=h.made hM0 x.key;obtain ⟨H,f⟩:=a.has _ b;rw [c] at f
 have n:H.last<x.mod:=by
  unfold madeS idS at f
  cases hg:(getT S.T x.key).2 with
  | true=>rw [hg,if_pos rfl,if_pos rfl] at f;exact hlast hg H f
  | false =>
    simp only [hg,Bool.false_eq_true,if_false,if_true] at f;obtain rfl:=Option.some.inj f
    show (0:Int)<x.mod
    omega
 have g:=(a.hist _ _ f);unfold putS;rw [f];generalize madeS S x.key=m at *;generalize idS S x.key=id at *;dsimp only [Option.getD_some];refine ⟨⟨a.inj,fun k hk=>?_,fun i G hG=>?_⟩,fun k r=>?_⟩
 · dsimp only at hk ⊢
   split
   · exact ⟨_,rfl⟩
   exact a.has k hk
 · dsimp only at hG ⊢
   split at hG
   · rename_i e
     obtain rfl:=Option.some.inj hG;exact ⟨⟨g.1.1.put x n h1,Int.le_refl _⟩,by rw [e];exact g.2⟩
   have:=a.hist i G hG
   exact ⟨⟨this.1.1,by omega⟩,this.2⟩
 rw [<-d k r]
 unfold livesS;dsimp only
 cases hk:(getT m.T k).2 with
 | false =>
   have l:¬ (keq x.key k=true/\x.mod<=r):=by
    rintro ⟨e,_⟩;rw [zat.1 e,hk] at b;cases b
   simp only [Bool.false_eq_true,if_false,l]
 | true =>
   simp only [if_true];by_cases e:keq x.key k=true
   · obtain rfl:=zat.1 e
     rw [c,if_pos rfl,f];dsimp only;rw [zve g.1.1 x n h1 r];by_cases hr:r<x.mod
     · rw [if_pos hr,if_neg (by omega)]
     rw [if_neg hr,if_pos ⟨e,by omega⟩]
   have j:(getT m.T k).1≠id:=fun e'=>e (zat.2 (a.inj x.key k b hk (c.trans e'.symm)))
   rw [if_neg j,if_neg fun h=>e h.1]
theorem SInv.tomb {M:Int} {S:St} (h:SInv M S) (x:Kv) (hM:M<=x.mod) (h1:1<=x.mod) (hk:(getT S.T x.key).2=true) (hlast:∀ H,S.past (getT S.T x.key).1=some H->H.last<x.mod) (ho:∀ H,S.past (getT S.T x.key).1=some H->isOpen H.gens=true) :
 SInv x.mod (tombS S x)/\∀ k r,livesS (tombS S x) k r=if keq x.key k=true/\x.mod<=r then (kv0,false) else livesS S k r:=by
 obtain ⟨H,b⟩:=h.has _ hk;have d:=h.hist _ _ b;have c:=ho H b;unfold tombS;rw [if_pos hk,b];dsimp only [Option.map_some];refine ⟨⟨h.inj,fun k a=>?_,fun i G hG=>?_⟩,fun k r=>?_⟩
 · dsimp only at a ⊢
   split
   · exact ⟨_,rfl⟩
   exact h.has k a
 · dsimp only at hG ⊢
   split at hG
   · rename_i e
     obtain rfl:=Option.some.inj hG;exact ⟨⟨d.1.1.tomb c (hlast H b) h1,Int.le_refl _⟩,by rw [e];exact d.2⟩
   have:=h.hist i G hG
   exact ⟨⟨this.1.1,by omega⟩,this.2⟩
 unfold livesS
 dsimp only
 cases ha:(getT S.T k).2 with
 | false =>
   have g:¬ (keq x.key k=true/\x.mod<=r):=by
    rintro ⟨e,_⟩;rw [zat.1 e,ha] at hk;cases hk
   simp only [Bool.false_eq_true,if_false,g]
 | true =>
   simp only [if_true];by_cases e:keq x.key k=true
   · obtain rfl:=zat.1 e
     rw [if_pos rfl,b];dsimp only;rw [ztb d.1.1 c (hlast H b) h1 r];by_cases hr:r<x.mod
     · rw [if_pos hr,if_neg (by omega)]
     rw [if_neg hr,if_pos ⟨e,by omega⟩]
   have f:(getT S.T k).1≠(getT S.T x.key).1:=fun e'=>e (zat.2 (h.inj x.key k hk ha e'.symm))
   rw [if_neg f,if_neg fun h=>e h.1]
def seen (o:Option Kv):Kv×Bool:=match o with
 | some k=>(k,true)
 | none=>(kv0,false)
structure Cpl (S:St) (D:Doc):Prop where
 mark:S.mark=D.mark
 events:S.events=D.events
 inv:SInv D.rev S
 ks:KSorted D.kvs
 m0:0<=D.mark/\D.mark<=D.rev
 lives:∀ key r,D.mark<=r->livesS S key r=seen (hasL (D.at r) key)
def Doc.add (D:Doc) (x:Ev):Doc:={ D with rev:=x.kv.mod,events:=D.events++[x] }
theorem Doc.add_at (D:Doc) (x:Ev) (h:D.mark<x.kv.mod) (r:Int):(D.add x).at r=if x.kv.mod<=r then doneL (D.at r) x else D.at r:=by
 unfold Doc.at Doc.add;dsimp only;rw [List.filter_append,List.foldl_append];by_cases hr:x.kv.mod<=r
 · rw [if_pos hr];simp [h,hr]
 rw [if_neg hr];simp [hr]
theorem zqc (S:St) (x:Ev) (k:ByteArray) (r:Int):livesS (doS S x) k r=livesS (doneS S x) k r:=rfl
theorem zqk (S:St) (x:Ev):(doneS S x).mark=S.mark:=by
 unfold doneS putS tombS madeS;dsimp only
 split
 · split <;> rfl
 split <;> rfl
theorem Cpl.does {S:St} {D:Doc} (h:Cpl S D) (x:Ev) (hM:D.rev<=x.kv.mod) (h1:1<=x.kv.mod) (hm:D.mark<x.kv.mod) (hlast:(getT S.T x.kv.key).2=true->∀ H,S.past (getT S.T x.kv.key).1=some H->H.last<x.kv.mod)
 (hdel:x.kind≠1->(getT S.T x.kv.key).2=true/\∀ H,S.past (getT S.T x.kv.key).1=some H->isOpen H.gens=true):Cpl (doS S x) (D.add x):=by
 have c:0<=D.rev:=by have:=h.m0;omega
 have key:SInv x.kv.mod (doneS S x)/\∀ k r,livesS (doneS S x) k r=if keq x.kv.key k=true/\x.kv.mod<=r then (if x.kind=1 then (x.kv,true) else (kv0,false)) else livesS S k r:=by
  unfold doneS;by_cases hk:x.kind=1
  · rw [if_pos hk,if_pos hk]
    exact h.inv.put c x.kv hM h1 hlast
  rw [if_neg hk,if_neg hk]
  obtain ⟨a,b⟩:=hdel hk;exact h.inv.tomb x.kv hM h1 a (hlast a) b
 refine ⟨(zqk S x).trans h.mark,?_,?_,h.ks,⟨h.m0.1,by have:=h.m0;show D.mark<=x.kv.mod;omega⟩,fun k r hr=>?_⟩
 · show (doneS S x).events++[x]=D.events++[x]
   rw [zfa,h.events]
 · exact ⟨key.1.inj,key.1.has,key.1.hist⟩
 rw [zqc,key.2,Doc.add_at D x hm r,h.lives k r hr]
 by_cases hr2:x.kv.mod<=r
 · rw [if_pos hr2,zfg (Doc.at_sorted h.ks r),zcw k]
   by_cases hk:keq x.kv.key k=true
   · rw [if_pos ⟨hk,hr2⟩,if_pos hk]
     split <;> rfl
   rw [if_neg fun e=>hk e.1,if_neg hk]
 rw [if_neg hr2,if_neg fun e=>hr2 e.2]
theorem zcf {T:Pairs} (h:Sorted T) {p:ByteArray×Int} (hp:p∈T):getT T p.1=(p.2,true):=by
 induction T with
 | nil=>cases hp
 | cons q T ih =>
   obtain ⟨a,b⟩:=List.pairwise_cons.1 h;rw [zcq];rcases List.mem_cons.1 hp with rfl | hp
   · rw [zat.2 rfl];rfl
   rw [klt_ne (a p hp)];exact ih b hp
def rgB (frm upr k:ByteArray):Bool:=!klt k frm&&(upr.toList.isEmpty||klt k upr)
theorem Cpl.has {S:St} {D:Doc} (h:Cpl S D) {k:ByteArray} {r:Int} (hr:D.mark<=r) {y:Kv} (hy:hasL (D.at r) k=some y):(getT S.T k).2=true:=by
 have a:=h.lives k r hr;rw [hy] at a
 cases hg:(getT S.T k).2 with
 | true=>rfl
 | false =>
   unfold livesS at a;rw [hg] at a;simp [seen] at a
theorem Cpl.oneL {S:St} {D:Doc} (h:Cpl S D) (hT:Sorted S.T) {r:Int} (hr:D.mark<=r) {p:ByteArray×Int} (hp:p∈S.T):Go.Proofs.YtdgkdfmfoonbpaaGreat.oneL S r p=hasL (D.at r) p.1:=by
 have a:=h.lives p.1 r hr;have c:=zcf hT hp;unfold livesS at a;rw [c] at a;simp only [if_true] at a;obtain ⟨H,b⟩:=h.inv.has p.1 (by rw [c]);rw [c] at b;unfold Go.Proofs.YtdgkdfmfoonbpaaGreat.oneL;dsimp only at b;rw [b] at a ⊢
 dsimp only at a ⊢
 rw [a];cases hasL (D.at r) p.1 <;> simp [seen]
theorem Cpl.between {S:St} {D:Doc} (h:Cpl S D) (hT:Sorted S.T) (frm upr:ByteArray) {r:Int} (hr:D.mark<=r):zbd S (rangeT S.T frm upr) r=(D.at r).filter fun y=>rgB frm upr y.key:=by
 have c:=Doc.at_sorted h.ks r
 have d:∀ y,y∈zbd S (rangeT S.T frm upr) r↔y∈D.at r/\rgB frm upr y.key=true:=by
  intro y;unfold zbd rangeT;rw [List.mem_filterMap]
  constructor
  · rintro ⟨p,g,f⟩
    obtain ⟨i,j⟩:=List.mem_filter.1 g;rw [h.oneL hT hr i] at f;obtain ⟨a,b⟩:=(zbz c _ _).1 f;exact ⟨a,by rw [b];exact j⟩
  rintro ⟨f,t⟩
  have k:=(zbz c y.key y).2 ⟨f,rfl⟩;have l:=zfh (h.has hr k);exact ⟨_,List.mem_filter.2 ⟨l,t⟩,by rw [h.oneL hT hr l];exact k⟩
 have o:KSorted (zbd S (rangeT S.T frm upr) r):=by
  unfold zbd KSorted;rw [List.pairwise_filterMap];have s:Sorted (rangeT S.T frm upr):=List.Pairwise.sublist List.filter_sublist hT;refine List.Pairwise.imp_of_mem (fun {p q} g hq hpq=>?_) s;intro a m b n;rw [h.oneL hT hr (zgs g)] at m;rw [h.oneL hT hr (zgs hq)] at n;rw [((zbz c _ _).1 m).2,((zbz c _ _).1 n).2];exact hpq
 have e:KSorted ((D.at r).filter fun y=>rgB frm upr y.key):=List.Pairwise.sublist List.filter_sublist c;refine znj o e fun key=>zsi fun y=>?_;rw [zbz o,zbz e,d,List.mem_filter]
def ESorted (l:List Ev):Prop:=l.Pairwise fun a b=>a.kv.mod<=b.kv.mod
def Doc.cut (D:Doc) (r:Int):Doc:=⟨D.rev,r,D.at r,D.events.filter fun e=>decide (r<=e.kv.mod)&&decide (e.kv.mod<=D.rev)⟩
theorem zhc {l:List Ev} (h:ESorted l) (m R r:Int) (h1:m<=R) (h2:R<=r) :
 (l.filter fun e=>decide (m<e.kv.mod)&&decide (e.kv.mod<=r))=(l.filter fun e=>decide (m<e.kv.mod)&&decide (e.kv.mod<=R))++l.filter fun e=>decide (R<e.kv.mod)&&decide (e.kv.mod<=r):=by
 induction l with
 | nil=>rfl
 | cons x l b =>
   obtain ⟨f,g⟩:=List.pairwise_cons.1 h;have b:=b g;by_cases hx:x.kv.mod<=R
   · have d:¬ R<x.kv.mod:=by omega
     have j:x.kv.mod<=r:=(by omega);by_cases c:m<x.kv.mod
     · simp only [List.filter_cons,hx,d,j,c,decide_true,decide_false,Bool.and_true,Bool.and_self,if_true,Bool.false_eq_true,if_false,List.cons_append]
       rw [b]
     simp only [List.filter_cons,c,d,decide_false,Bool.false_and,Bool.false_eq_true,if_false]
     exact b
   have a:(l.filter fun e=>decide (m<e.kv.mod)&&decide (e.kv.mod<=R)) = []:=List.filter_eq_nil_iff.2 fun e he=>by have:=f e he;simp;omega
   rw [a] at b;have c:m<x.kv.mod:=(by omega);have i:R<x.kv.mod:=(by omega);simp only [List.filter_cons,hx,c,i,a,decide_true,decide_false,Bool.and_false,Bool.true_and,Bool.false_eq_true,if_false,List.nil_append];rw [b];rfl
theorem Doc.cut_at {D:Doc} (h:ESorted D.events) {R r:Int} (h1:D.mark<=R) (h2:R<=r) (hm:∀ e∈D.events,e.kv.mod<=D.rev):(D.cut R).at r=D.at r:=by
 unfold Doc.at Doc.cut;dsimp only;rw [zhc h D.mark R r h1 h2,List.foldl_append,List.filter_filter]
 unfold Doc.at
 congr 1
 refine List.filter_congr fun e he=>?_;have:=hm e he;by_cases a:R<e.kv.mod <;> by_cases b:e.kv.mod<=r <;> simp [a,b] <;> omega
structure DocOk (n:Nat) (D:Doc):Prop where
 es:ESorted D.events
 lo:∀ e∈D.events,1<=e.kv.mod/\D.mark<=e.kv.mod/\e.kv.mod<=D.rev
 full:∀ r,1<=r->D.mark<=r->r<=D.rev->∃ e∈D.events,e.kv.mod=r
 uniq:D.events.Pairwise fun a b=>a.kv.mod=b.kv.mod->a.kv.key≠b.kv.key
 prev:∀ A e B,D.events=A++e :: B->D.mark<e.kv.mod->e.prev=(hasL ((A.filter fun y=>decide (D.mark<y.kv.mod)).foldl doneL D.kvs) e.kv.key).getD kv0
 kind:∀ e∈D.events,e.kind=1\/e.kind=2
 ver0:∀ k∈D.kvs,1<=k.version/\k.version<=n
 ver:∀ e∈D.events,e.kind=1->1<=e.kv.version/\e.kv.version<=n
theorem DocOk.mono {n m:Nat} {D:Doc} (h:DocOk n D) (hm:n<=m):DocOk m D :=
 { h with ver0:=fun k hk=>by have:=h.ver0 k hk;omega,ver:=fun e he h1=>by have:=h.ver e he h1;omega }
theorem zif {l:List Kv} (h:KSorted l) (es:List Ev) (y:Kv) (hy:y∈es.foldl doneL l):y∈l\/∃ e∈es,e.kind=1/\y=e.kv:=by
 induction es generalizing l with
 | nil=>exact .inl hy
 | cons e es ih =>
   rcases ih (zfb h e) hy with b | ⟨c,b,a⟩
   · rcases (zig h e y).1 b with ⟨a,d⟩ | ⟨a,_⟩
     · exact .inr ⟨e,List.mem_cons_self,a,d⟩
     exact .inl a
   exact .inr ⟨c,List.mem_cons_of_mem _ b,a⟩
theorem Doc.mem_at {D:Doc} (h:KSorted D.kvs) {r:Int} {y:Kv} (hy:y∈D.at r):y∈D.kvs\/∃ e∈D.events,e.kind=1/\y=e.kv:=by
 rcases zif h _ y hy with a | ⟨e,a,b⟩
 · exact .inl a
 exact .inr ⟨e,(List.mem_filter.1 a).1,b⟩
theorem DocOk.ver_at {n:Nat} {D:Doc} (h:DocOk n D) (hs:KSorted D.kvs) {r:Int} {y:Kv} (hy:y∈D.at r):1<=y.version/\y.version<=n:=by
 rcases Doc.mem_at hs hy with a | ⟨e,a,b,rfl⟩
 · exact h.ver0 y a
 exact h.ver e a b
theorem DocOk.ver_has {n:Nat} {D:Doc} (h:DocOk n D) (hs:KSorted D.kvs) (r:Int) (k:ByteArray):0<=((hasL (D.at r) k).getD kv0).version/\((hasL (D.at r) k).getD kv0).version<=n:=by
 cases hh:hasL (D.at r) k with
 | none=>exact ⟨Int.le_refl 0,by show (0:Int)<=n;omega⟩
 | some y =>
   have:=h.ver_at hs ((zbz (Doc.at_sorted hs r) k y).1 hh).1
   show 0<=y.version/\y.version<=n
   omega
theorem Doc.at_all {D:Doc} (hm:∀ e∈D.events,e.kv.mod<=D.rev) {r:Int} (h:D.rev<=r):D.at r=(D.events.filter fun y=>decide (D.mark<y.kv.mod)).foldl doneL D.kvs:=by
 unfold Doc.at
 congr 1
 refine List.filter_congr fun e he=>?_;have:=hm e he;have a:e.kv.mod<=r:=by omega
 simp [a]
theorem zps {α:Type} {l A B:List α} {x e:α} (h:l++[x]=A++e :: B):(A=l/\e=x/\B = [])\/∃ B',B=B'++[x]/\l=A++e :: B':=by
 rcases List.eq_nil_or_concat B with rfl | ⟨B',y,rfl⟩
 · left
   have b:=List.append_inj_right' h (by simp);have a:=List.append_inj_left' h (by simp);exact ⟨a.symm,by simpa using b.symm,rfl⟩
 right
 have c:A++e :: (B'++[y])=(A++e :: B')++[y]:=(by simp);simp only [List.concat_eq_append] at h;rw [c] at h;have b:=List.append_inj_right' h (by simp);have a:=List.append_inj_left' h (by simp);refine ⟨B',?_,a⟩;simp only [List.concat_eq_append];rw [show y=x by simpa using b.symm]
theorem DocOk.add {n:Nat} {D:Doc} (h:DocOk n D) (x:Ev) (h1:1<=x.kv.mod) (hm:D.mark<x.kv.mod) (hr:D.rev<=x.kv.mod) (hr2:x.kv.mod<=D.rev+1) (hp:x.prev=(hasL (D.at x.kv.mod) x.kv.key).getD kv0)
 (hk:x.kind=1\/x.kind=2) (hv:x.kind=1->1<=x.kv.version/\x.kv.version<=n+1) (hu:∀ e∈D.events,e.kv.mod=x.kv.mod->e.kv.key≠x.kv.key):DocOk (n+1) (D.add x):=by
 refine ⟨?_,fun e d=>?_,fun r a b c=>?_,?_,fun A e B hAB hmark=>?_,fun e d=>?_,fun k hk=>?_,fun e d h1=>?_⟩
 · refine List.pairwise_append.2 ⟨h.es,by simp,fun a ha b hb=>?_⟩
   rw [List.mem_singleton.1 hb];have:=h.lo a ha;omega
 · rcases List.mem_append.1 d with d | d
   · have:=h.lo e d
     exact ⟨this.1,this.2.1,by show e.kv.mod<=x.kv.mod;omega⟩
   rw [List.mem_singleton.1 d]
   exact ⟨h1,by show D.mark<=x.kv.mod;omega,Int.le_refl _⟩
 · by_cases e:r=x.kv.mod
   · exact ⟨x,List.mem_append_right _ List.mem_cons_self,e.symm⟩
   have l:r<=x.kv.mod:=c
   obtain ⟨y,j,g⟩:=h.full r a b (by omega);exact ⟨y,List.mem_append_left _ j,g⟩
 · refine List.pairwise_append.2 ⟨h.uniq,by simp,fun a ha b hb=>?_⟩
   rw [List.mem_singleton.1 hb];exact hu a ha
 · rcases zps (show D.events++[x]=A++e :: B from hAB) with ⟨rfl,rfl,rfl⟩ | ⟨f,_,i⟩
   · rw [hp,Doc.at_all (fun e d=>(h.lo e d).2.2) hr]
     rfl
   exact h.prev A e f i hmark
 · rcases List.mem_append.1 d with d | d
   · exact h.kind e d
   rw [List.mem_singleton.1 d];exact hk
 · have:=h.ver0 k hk;omega
 rcases List.mem_append.1 d with d | d
 · have:=h.ver e d h1;omega
 rw [List.mem_singleton.1 d] at h1 ⊢
 have:=hv h1;omega
theorem zmh {α:Type} {l A B:List α} {e:α} {p:α->Bool} (h:l.filter p=A++e :: B):∃ A' B',l=A'++e :: B'/\A=A'.filter p/\B=B'.filter p:=by
 induction l generalizing A with
 | nil=>simp at h
 | cons x l ih =>
   rw [List.filter_cons] at h;by_cases hp:p x=true
   · rw [if_pos hp] at h
     cases A with
     | nil =>
       simp only [List.nil_append,List.cons.injEq] at h;obtain ⟨rfl,h⟩:=h;exact ⟨[],l,rfl,rfl,h.symm⟩
     | cons a A =>
       simp only [List.cons_append,List.cons.injEq] at h;obtain ⟨rfl,h⟩:=h;obtain ⟨A',B',b,c,d⟩:=ih h;exact ⟨x :: A',B',by rw [b];rfl,by rw [List.filter_cons,if_pos hp,c],d⟩
   rw [if_neg hp] at h
   obtain ⟨A',B',b,c,d⟩:=ih h;exact ⟨x :: A',B',by rw [b];rfl,by rw [List.filter_cons,if_neg hp,c],d⟩
theorem DocOk.cut {n:Nat} {D:Doc} (h:DocOk n D) (hs:KSorted D.kvs) (R:Int) (hR:D.mark<R) (_hR2:R<=D.rev):DocOk n (D.cut R):=by
 have d:∀ e∈(D.cut R).events,e∈D.events/\R<=e.kv.mod:=fun e g=>by
  obtain ⟨f,l⟩:=List.mem_filter.1 g;simp only [Bool.and_eq_true,decide_eq_true_eq] at l;exact ⟨f,l.1⟩
 refine ⟨List.Pairwise.sublist List.filter_sublist h.es,fun e g=>?_,fun r a b c=>?_,List.Pairwise.sublist List.filter_sublist h.uniq,fun A e B hAB hmark=>?_,fun e g=>h.kind e (d e g).1,fun k hk=>h.ver_at hs hk,fun e g=>h.ver e (d e g).1⟩
 · have:=h.lo e (d e g).1
   exact ⟨this.1,(d e g).2,this.2.2⟩
 · have F:R<=r:=b
   obtain ⟨e,g,f⟩:=h.full r a (by omega) c;have G:r<=D.rev:=c;exact ⟨e,List.mem_filter.2 ⟨g,by simp;omega⟩,f⟩
 have m:R<e.kv.mod:=hmark
 obtain ⟨A',q,f,l,H⟩:=zmh (show D.events.filter _=A++e :: B from hAB);rw [h.prev A' e q f (by omega)]
 congr 2
 -- what lives ahead of the event is the same
 have z:ESorted A':=(by have:=h.es;rw [f] at this;exact (List.pairwise_append.1 this).1)
 have j:∀ y∈A',y.kv.mod<=e.kv.mod:=by
  have:=h.es;rw [f] at this;exact fun y i=>(List.pairwise_append.1 this).2.2 y i e List.mem_cons_self
 have C:=(h.lo e (by rw [f];simp)).2.2;have E:=zhc z D.mark R e.kv.mod (by omega) (by omega)
 have u:(A'.filter fun y=>decide (D.mark<y.kv.mod))=A'.filter fun y=>decide (D.mark<y.kv.mod)&&decide (y.kv.mod<=e.kv.mod):=List.filter_congr fun y i=>by
  have:=j y i;simp [this]
 rw [u,E,List.foldl_append]
 have v:(A.filter fun y=>decide ((D.cut R).mark<y.kv.mod))=A'.filter fun y=>decide (R<y.kv.mod)&&decide (y.kv.mod<=e.kv.mod):=by
  rw [l,List.filter_filter];refine List.filter_congr fun y i=>?_;have o:=j y i
  show (decide (R<y.kv.mod)&&(decide (R<=y.kv.mod)&&decide (y.kv.mod<=D.rev)))=_
  by_cases hRy:R<y.kv.mod
  · have s:R<=y.kv.mod:=by omega
    have t:y.kv.mod<=D.rev:=(by omega);simp [hRy,s,t,o]
  simp [hRy]
 rw [v]
 congr 1
 show _=(D.events.filter fun e=>decide (D.mark<e.kv.mod)&&decide (e.kv.mod<=R)).foldl doneL D.kvs
 congr 1
 rw [f,List.filter_append]
 have w:((e :: q).filter fun e=>decide (D.mark<e.kv.mod)&&decide (e.kv.mod<=R)) = []:=List.filter_eq_nil_iff.2 fun y i=>by
  have:=h.es;rw [f] at this;have x:=(List.pairwise_append.1 this).2.1;rcases List.mem_cons.1 i with rfl | i
  · simp;omega
  have:=(List.pairwise_cons.1 x).1 y i
  simp;omega
 rw [w,List.append_nil]
theorem zoy:∀ (f k:List UInt8),(¬ k<f/\k<f++[0])↔k=f
 | [],[]=>by simp
 | [],a :: k=>by
   simp only [List.nil_append,List.cons_lt_cons_iff,List.not_lt_nil,and_false,or_false]
   constructor
   · rintro ⟨_,h⟩
     exact absurd h (by have:=a.toNat_lt;rw [UInt8.lt_iff_toNat_lt];simp)
   intro h;cases h
 | b :: f,[]=>by simp
 | b :: f,a :: k=>by
   have ih:=zoy f k;simp only [List.cons_append,List.cons_lt_cons_iff,List.cons.injEq]
   constructor
   · rintro ⟨h1,h2 | ⟨rfl,h2⟩⟩
     · exact absurd (.inl h2) h1
     exact ⟨rfl,ih.1 ⟨fun h=>h1 (.inr ⟨rfl,h⟩),h2⟩⟩
   rintro ⟨rfl,rfl⟩
   have h3:=ih.2 rfl;refine ⟨?_,.inr ⟨rfl,h3.2⟩⟩;rintro (h | ⟨_,h⟩)
   · exact absurd h (by rw [UInt8.lt_iff_toNat_lt];omega)
   exact h3.1 h
theorem zwa (frm end_ k:ByteArray):rgB frm (toOf frm end_) k=inB k frm end_:=by
 unfold rgB toOf inB
 cases h1:end_.toList.isEmpty with
 | true =>
   simp only [if_true]
   have b:(frm++(⟨#[0]⟩:ByteArray)).toList.isEmpty=false:=by
    rw [Lib.toList_data];simp
   rw [b,Bool.false_or];have c:=zoy frm.data.toList k.data.toList
   have a:klt k (frm++⟨#[0]⟩)=true↔k.data.toList<frm.data.toList++[0]:=by
    rw [zdz];simp
   rw [Bool.eq_iff_iff,Bool.and_eq_true,Bool.not_eq_true',Bool.eq_false_iff,Ne,zdz,a,c,beq_iff_eq,Lib.toList_data,Lib.toList_data]
 | false =>
   simp only [Bool.false_eq_true,if_false]
   cases a:(end_.toList == [0]) with
   | true =>
     simp only [if_true];have:(ByteArray.empty).toList.isEmpty=true:=(by rw [Lib.toList_data];rfl);rw [this];simp [klt]
   | false =>
     simp only [Bool.false_eq_true,if_false];rw [h1];simp [klt]
open Go Go.RowKit
theorem zjv {z:Array Value} {n:Nat} {v:Value} (h:v∈(Builtin.zeroCells z n).toList):∃ i,i<z.size/\v=z[i]!:=by
 unfold Builtin.zeroCells at h;simp only [Array.toList_map,List.mem_map,Array.toList_range,List.mem_range] at h;obtain ⟨i,b,rfl⟩:=h;rcases Nat.eq_zero_or_pos z.size with a | a
 · rw [a] at b;omega
 exact ⟨i % z.size,Nat.mod_lt _ a,rfl⟩
theorem zbl (z:Array Value) (n:Nat):(Builtin.zeroCells z n).toList.length=n * z.size:=by
 unfold Builtin.zeroCells;simp
theorem zep {P:Program} (w:World) (t e ty:TypeId) (z:Value) (ht:P.underlying t=some (.slice e)) (hv:∀ w,(zeroValue e).run P w=.ok z w) (h1:∀ i,i<z.cells.size->z.cells[i]!.oneCell'=true) (g o n c:Nat) (cur:Array Value) (et:TypeId)
 (hg:w.heap[g]?=some (.cells cur et (0,0))) (hfit:o+n * z.cells.size<=cur.size) :
 ∃ w',(Builtin.clear_ #[t] ty #[.slice (some ⟨g,o,none⟩) n c]).run P w=.ok (.tuple #[]) w' ∧
  w'.heap[g]?=some (.cells (cur.toList.take o++(Builtin.zeroCells z.cells n).toList++cur.toList.drop (o+n * z.cells.size)).toArray et (0,0))/\w.grownBy w' (some g):=by
 have b:=zbl z.cells n;have a:=run_storeCells_at P g o et (Builtin.zeroCells z.cells n).toList 0 cur w hg (by rw [b];simpa using hfit) (fun v hv'=>by obtain ⟨i,f,rfl⟩:=zjv hv';exact h1 i f)
 cases n with
 | zero =>
   refine ⟨w,by simp [Builtin.clear_,run_underlying ht],?_,⟨rfl,rfl,rfl,Nat.le_refl _,fun _ _ _=>rfl⟩⟩;have d:(Builtin.zeroCells z.cells 0).toList = []:=List.eq_nil_of_length_eq_zero (by rw [zbl];simp);rw [d,hg];simp
 | succ m =>
   refine ⟨w.setRow g (cur.toList.take o++(Builtin.zeroCells z.cells (m+1)).toList++cur.toList.drop (o+(m+1) * z.cells.size)).toArray,?_,setRow_heap w g cur _ et _ hg,⟨rfl,rfl,rfl,by simp,fun k _ hk=>setRow_other w g k _ (fun e=>hk (by rw [e]))⟩⟩;rw [b] at a;simp [Builtin.clear_,run_underlying ht,hv,a]
theorem SlF.cleared {α:Type} {f:α->List Value} {w w':World} {e sz g o cap:Nat} {L:List α} (hf:∀ x,(f x).length=sz) (h:SlF w e sz f (.slice (some ⟨g,o,none⟩) L.length cap) L) (k:Nat) (hk:k<=L.length)
 (cur:Array Value) (hg:w.heap[g]?=some (.cells cur e (0,0))) (zs:List Value) (hz:zs.length=(L.length-k) * sz)
 (hg':w'.heap[g]?=some (.cells (cur.toList.take (o+k * sz)++zs++cur.toList.drop (o+k * sz+(L.length-k) * sz)).toArray e (0,0))) :
 SlF w' e sz f (.slice (some ⟨g,o,none⟩) k cap) (L.take k):=by
 have a:(L.take k).length=k:=by simp;omega
 unfold SlF;rw [a];refine ⟨by rw [zak hf,a],?_⟩;rcases h.2 with ⟨j,_⟩ | ⟨s,v,c,d,r,i,l,m,t,n⟩
 · cases j
 cases r
 rw [hg] at i;cases i
 have u:L.length * sz<=cap * sz:=Nat.mul_le_mul_right _ l;have q:k * sz+(L.length-k) * sz=L.length * sz:=(by rw [<-Nat.add_mul];congr 1;omega);have b:cur.toList.length=cur.size:=(by simp);refine .inr ⟨g,o,cap,_,rfl,hg',by omega,m,?_,?_⟩
 · simp only [List.size_toArray,List.length_append,List.length_take,List.length_drop,hz,b]
   omega
 rw [<-zdl hf,<-n]
 simp only [List.append_assoc];rw [List.drop_append_of_le_length (by rw [List.length_take];omega),List.take_append_of_le_length (by rw [List.length_drop,List.length_take];omega),List.drop_take,List.take_take,List.take_take]
 congr 1
 have:k * sz<=L.length * sz:=Nat.mul_le_mul_right _ hk;omega
end Go.Proofs.YtdgkdfmfoonbpaaGreat