/- Own lemmas and contracts that the claim's proof needs, laid together. The conditions stand in each. -/
import Derived.Test.YthljnnjpmdgkoaaN14
import Derived.Test.YthljnnjpmdgkoaaN17
import Derived.Test.YthljnnjpmdgkoaaN22
namespace Go.Proofs.Ythljnnjpmdgkoaa
open Go Go.Proofs Go.RowKit
def KSorted (l:List Kv):Prop:=l.Pairwise fun a b=>klt a.key b.key=true
def hasL (l:List Kv) (key:ByteArray):Option Kv:=l.find? fun k=>keq k.key key
def doneL:List Kv->Ev->List Kv
 | [],x=>if x.kind=1 then [x.kv] else []
 | k :: l,x=>if klt k.key x.kv.key=true then k :: doneL l x else (if x.kind=1 then [x.kv] else [])++(if keq k.key x.kv.key=true then l else k :: l)
theorem zhk {l:List Kv} (h:KSorted l) (x:Ev) (y:Kv):y∈doneL l x ↔ (x.kind=1/\y=x.kv)\/(y∈l/\keq y.key x.kv.key=false):=by
 induction l with
 | nil=>unfold doneL;split <;> simp_all
 | cons k l ih =>
   obtain ⟨h1,h2⟩:=List.pairwise_cons.1 h;unfold doneL
   split
   · rename_i hk
     rw [List.mem_cons,ih h2,List.mem_cons];have:=klt_ne hk
     constructor
     · rintro (rfl | h | ⟨h,h'⟩)
       · exact .inr ⟨.inl rfl,this⟩
       · exact .inl h
       exact .inr ⟨.inr h,h'⟩
     rintro (h | ⟨rfl | h,h'⟩)
     · exact .inr (.inl h)
     · exact .inl rfl
     exact .inr (.inr ⟨h,h'⟩)
   rename_i hk
   have hk':klt k.key x.kv.key=false:=(by simpa using hk)
   have hl:∀ z∈l,keq z.key x.kv.key=false:=fun z hz=>by
    have h3:=zga hk' (h1 z hz);rw [zef];exact klt_ne h3
   rw [List.mem_append];refine or_congr ?_ ?_
   · split <;> simp_all
   split
   · rename_i he
     constructor
     · exact fun hy=>⟨List.mem_cons_of_mem _ hy,hl y hy⟩
     rintro ⟨hy,hy'⟩
     rcases List.mem_cons.1 hy with rfl | hy
     · rw [he] at hy';cases hy'
     exact hy
   rename_i he
   constructor
   · intro hy
     refine ⟨hy,?_⟩;rcases List.mem_cons.1 hy with rfl | hy
     · simpa using he
     exact hl y hy
   exact fun hy=>hy.1
theorem zcd {l:List Kv} (h:KSorted l) (x:Ev):KSorted (doneL l x):=by
 induction l with
 | nil=>unfold doneL KSorted;split <;> simp
 | cons k l ih =>
   obtain ⟨h1,h2⟩:=List.pairwise_cons.1 h;unfold doneL
   split
   · rename_i hk
     refine List.pairwise_cons.2 ⟨fun y hy=>?_,ih h2⟩;rcases (zhk h2 x y).1 hy with ⟨_,rfl⟩ | ⟨h3,_⟩
     · exact hk
     exact h1 y h3
   rename_i hk
   have hk':klt k.key x.kv.key=false:=(by simpa using hk);have hl:∀ z∈l,klt x.kv.key z.key=true:=fun z hz=>zga hk' (h1 z hz);refine List.pairwise_append.2 ⟨by split <;> simp,?_,fun a ha b hb=>?_⟩
   · split
     · exact h2
     exact h
   split at ha
   · obtain rfl:=List.mem_singleton.1 ha
     split at hb
     · exact hl b hb
     rename_i he
     rcases List.mem_cons.1 hb with rfl | hb
     · rcases zhq x.kv.key b.key with e | e | e
       · exact e
       · exact absurd (zai.2 e.symm) he
       rw [e] at hk';cases hk'
     exact hl b hb
   simp at ha
theorem zbd {l:List Kv} (h:KSorted l) (key:ByteArray) (y:Kv):hasL l key=some y ↔ y∈l/\y.key=key:=by
 constructor
 · intro hy
   exact ⟨List.mem_of_find?_eq_some hy,zai.1 (by simpa using List.find?_some hy)⟩
 rintro ⟨hy,rfl⟩
 unfold hasL
 induction l with
 | nil=>cases hy
 | cons k l ih =>
   obtain ⟨h1,h2⟩:=List.pairwise_cons.1 h;rw [List.find?_cons];rcases List.mem_cons.1 hy with rfl | hy
   · rw [zai.2 rfl]
   rw [klt_ne (h1 y hy)]
   exact ih h2 hy
theorem zqk {α:Type} {a b:Option α} (h:∀ y,a=some y ↔ b=some y):a=b:=by
 cases a with
 | none =>
   cases b with
   | none=>rfl
   | some y=>exact ((h y).2 rfl)
 | some x=>exact ((h x).1 rfl).symm
theorem zcj {l:List Kv} (h:KSorted l) (x:Ev) (key:ByteArray):hasL (doneL l x) key=if keq key x.kv.key=true then (if x.kind=1 then some x.kv else none) else hasL l key:=by
 refine zqk fun y=>?_;rw [zbd (zcd h x),zhk h];by_cases hk:keq key x.kv.key=true
 · rw [if_pos hk]
   have hk':=zai.1 hk
   constructor
   · rintro ⟨⟨h1,rfl⟩ | ⟨_,h2⟩,h3⟩
     · rw [if_pos h1]
     rw [h3,hk] at h2;cases h2
   intro hy
   split at hy
   · rename_i h1
     obtain rfl:=Option.some.inj hy;exact ⟨.inl ⟨h1,rfl⟩,hk'.symm⟩
   cases hy
 rw [if_neg hk,zbd h]
 constructor
 · rintro ⟨⟨h1,rfl⟩ | ⟨h1,_⟩,rfl⟩
   · exact absurd (zai.2 rfl) hk
   exact ⟨h1,rfl⟩
 rintro ⟨h1,rfl⟩
 exact ⟨.inr ⟨h1,by simpa using hk⟩,rfl⟩
theorem zmg {l m:List Kv} (h:KSorted l) (h':KSorted m) (he:∀ key,hasL l key=hasL m key):l=m:=by
 have hm:∀ y,y∈l ↔ y∈m:=fun y=>by
  have h1:=zbd h y.key y;have h2:=zbd h' y.key y;rw [he] at h1
  constructor
  · intro hy;exact (h2.1 (h1.2 ⟨hy,rfl⟩)).1
  intro hy;exact (h1.1 (h2.2 ⟨hy,rfl⟩)).1
 clear he
 induction l generalizing m with
 | nil =>
   cases m with
   | nil=>rfl
   | cons b m=>exact absurd ((hm b).2 List.mem_cons_self) (by simp)
 | cons a l ih =>
   obtain ⟨a1,a2⟩:=List.pairwise_cons.1 h
   cases m with
   | nil=>exact absurd ((hm a).1 List.mem_cons_self) (by simp)
   | cons b m =>
     obtain ⟨b1,b2⟩:=List.pairwise_cons.1 h'
     have hab:a=b:=by
      rcases List.mem_cons.1 ((hm a).1 List.mem_cons_self) with e | e
      · exact e
      rcases List.mem_cons.1 ((hm b).2 List.mem_cons_self) with e' | e'
      · exact e'.symm
      have h1:=b1 a e
      have h2:=zcx (a1 b e');rw [h1] at h2;cases h2
     subst hab
     congr 1
     refine ih a2 b2 fun y=>?_
     constructor
     · intro hy
       rcases List.mem_cons.1 ((hm y).1 (List.mem_cons_of_mem _ hy)) with rfl | e
       · have:=a1 y hy;rw [zbc] at this;cases this
       exact e
     intro hy
     rcases List.mem_cons.1 ((hm y).2 (List.mem_cons_of_mem _ hy)) with rfl | e
     · have:=b1 y hy;rw [zbc] at this;cases this
     exact e
structure Doc where
 rev:Int
 mark:Int
 kvs:List Kv
 events:List Ev
def Doc.at (D:Doc) (r:Int):List Kv:=(D.events.filter fun e=>decide (D.mark < e.kv.mod) && decide (e.kv.mod<=r)).foldl doneL D.kvs
theorem zbw {l:List Kv} (h:KSorted l) (es:List Ev):KSorted (es.foldl doneL l):=by
 induction es generalizing l with
 | nil=>exact h
 | cons e es ih=>exact ih (zcd h e)
theorem Doc.at_sorted {D:Doc} (h:KSorted D.kvs) (r:Int):KSorted (D.at r):=zbw h _
structure HInv (M:Int) (H:Hist):Prop where
 puts:∀ x∈H.gens,∀ p∈x.puts,1<=p/\p<=M
 ends:∀ x∈H.gens,0<=x.end_/\x.end_<=M
 full:∀ x∈H.gens,x.puts≠[]
 zero:H.kvs 0=none
theorem zgi {l:List Int} {r:Int} (h:∀ p∈l,p<=r):upTo l r=l.length:=by
 unfold upTo;exact List.findIdx_eq_length_of_false fun p hp=>by have:=h p hp;simp;omega
theorem zkc {l:List Int} {r R:Int} (h:r < R):upTo (l++[R]) r=upTo l r:=by
 unfold upTo;rw [List.findIdx_append]
 split
 · rfl
 rename_i hn
 have h1:l.findIdx (fun p=>decide (r < p))=l.length:=by
  have:=List.findIdx_le_length (p:=fun p=>decide (r < p)) (xs:=l);omega
 rw [h1];simp [List.findIdx_cons,h]
theorem ztu (r:Int):atK [] r=((0,0,0),false):=rfl
theorem zbk (K:List Gen) (x:Gen) (r:Int):atK (K++[x]) r=if upTo x.puts r≠0 then (if 0 < x.end_/\x.end_<=r then ((0,0,0),false) else ((x.create,x.puts[upTo x.puts r - 1]?.getD 0,x.cut+upTo x.puts r),true)) else atK K r:=by
 unfold atK;rw [List.reverse_append,List.reverse_singleton,List.singleton_append,List.find?_cons];by_cases h:upTo x.puts r=0
 · simp [h]
 have hb:(upTo x.puts r != 0)=true:=by simpa using h
 rw [hb,if_pos h]
theorem zcb {K:List Gen} (h:isOpen K=true):∃ L x,K=L++[x]/\x.end_=0:=by
 unfold isOpen at h
 cases hl:K.getLast? with
 | none=>rw [hl] at h;cases h
 | some x =>
   rw [hl] at h;obtain ⟨L,rfl⟩:=List.getLast?_eq_some_iff.1 hl;exact ⟨L,x,rfl,by simpa using h⟩
theorem zbh (L:List Gen) (x:Gen) (f:Gen->Gen):(L++[x]).modify ((L++[x]).length - 1) f=L++[f x]:=by
 apply List.ext_getElem?;intro i;rw [List.getElem?_modify];simp only [List.length_append,List.length_singleton,Nat.add_sub_cancel];rcases Nat.lt_trichotomy i L.length with h | h | h
 · rw [List.getElem?_append_left h,List.getElem?_append_left h];have:¬ L.length=i:=by omega
   cases L[i]? <;> simp [this]
 · subst h;simp
 rw [List.getElem?_eq_none (by simp;omega),List.getElem?_eq_none (by simp;omega)];simp
theorem zpe (K:List Gen) {r R:Int} (h:r < R):atK (putK K R) r=atK K r:=by
 unfold putK
 split
 · rename_i ho
   obtain ⟨L,x,rfl,hx⟩:=zcb ho;rw [zbh,zbk,zbk,zkc h];have:=zdp x.puts r
   split
   · rw [List.getElem?_append_left (by omega)]
   rfl
 rw [zbk,if_neg]
 simp [upTo,List.findIdx_cons,h]
theorem zpf {K:List Gen} {r R:Int} (hK:∀ x∈K,∀ p∈x.puts,p < R) (h:R<=r):(atK (putK K R) r).1.2.1=R/\(atK (putK K R) r).2=true:=by
 unfold putK
 split
 · rename_i ho
   obtain ⟨L,x,rfl,hx⟩:=zcb ho
   have hu:upTo (x.puts++[R]) r=x.puts.length+1:=by
    rw [zgi]
    · simp
    intro p hp
    rcases List.mem_append.1 hp with e | e
    · have:=hK x (by simp) p e;omega
    rw [List.mem_singleton.1 e];exact h
   rw [zbh,zbk];dsimp only;rw [hu,if_pos (by omega),if_neg (by omega)];simp
 have hu:upTo [R] r=1:=zgi (by simpa using h)
 rw [zbk];dsimp only;rw [hu,if_pos (by omega),if_neg (by omega)];simp
theorem zmw {K:List Gen} (ho:isOpen K=true) {r R:Int} (h:r < R):atK (tombK K R) r=atK K r:=by
 obtain ⟨L,x,rfl,hx⟩:=zcb ho;unfold tombK;rw [zbh,zbk,zbk];dsimp only;rw [if_neg (show ¬ (0 < R/\R<=r) by omega),if_neg (show ¬ (0 < x.end_/\x.end_<=r) by omega)]
theorem zmx {K:List Gen} (ho:isOpen K=true) {r R:Int} (hK:∀ x∈K,∀ p∈x.puts,p<=R) (hf:∀ x∈K,x.puts≠[]) (h1:1<=R) (h:R<=r):atK (tombK K R) r=((0,0,0),false):=by
 obtain ⟨L,x,rfl,hx⟩:=zcb ho;unfold tombK;rw [zbh,zbk];dsimp only;have hu:upTo x.puts r=x.puts.length:=zgi fun p hp=>by have:=hK x (by simp) p hp;omega
 have:0 < x.puts.length:=List.length_pos_iff.2 (hf x (by simp));rw [hu,if_pos (by omega),if_pos (by omega)]
theorem ztv {K:List Gen} {r M:Int} (hK:∀ x∈K,∀ p∈x.puts,p<=M):(atK K r).1.2.1<=M\/(atK K r).1.2.1=0:=by
 unfold atK
 split
 · exact .inr rfl
 rename_i x hx
 have hm:=List.mem_reverse.1 (List.mem_of_find?_eq_some hx)
 split
 · exact .inr rfl
 dsimp only
 cases hp:x.puts[upTo x.puts r - 1]? with
 | none=>exact .inr rfl
 | some p=>exact .inl (hK x hm p (List.mem_of_getElem? hp))
theorem znu {M:Int} {H:Hist} (h:HInv M H) (x:Kv) (hM:M < x.mod) (h1:1<=x.mod) (r:Int):hadH (putH H x) r=if r < x.mod then hadH H r else (x,true):=by
 split
 · rename_i hr
   unfold hadH putH;dsimp only;rw [zpe _ hr,if_neg];rcases ztv (r:=r) fun y hy p hp=>(h.puts y hy p hp).2 with e | e <;> omega
 rename_i hr
 obtain ⟨e1,e2⟩:=zpf (r:=r) (R:=x.mod) (K:=H.gens) (fun y hy p hp=>by have:=(h.puts y hy p hp).2;omega) (by omega);unfold hadH putH;dsimp only;rw [e1,e2,if_pos rfl]
 rfl
theorem zqx {M:Int} {H:Hist} (h:HInv M H) (ho:isOpen H.gens=true) {R:Int} (hM:M < R) (h1:1<=R) (r:Int):hadH (tombH H R) r=if r < R then hadH H r else (kv0,false):=by
 split
 · rename_i hr
   unfold hadH tombH;dsimp only;rw [zmw ho hr]
 rename_i hr
 unfold hadH tombH;dsimp only;rw [zmx ho (fun y hy p hp=>by have:=(h.puts y hy p hp).2;omega) h.full h1 (by omega)];dsimp only;rw [h.zero]
 rfl
theorem HInv.put {M:Int} {H:Hist} (h:HInv M H) (x:Kv) (hM:M < x.mod) (h1:1<=x.mod):HInv x.mod (putH H x):=by
 have hz:(putH H x).kvs 0=none:=by unfold putH;dsimp only;rw [if_neg (by omega)];exact h.zero
 have hg:∀ y∈(putH H x).gens,(∀ p∈y.puts,1<=p/\p<=x.mod)/\(0<=y.end_/\y.end_<=x.mod)/\y.puts≠[]:=by
  unfold putH putK;dsimp only
  split
  · rename_i ho
    obtain ⟨L,z,hLz,hz⟩:=zcb ho;rw [hLz,zbh];have hb:=h.puts;have he:=h.ends;have hf:=h.full;rw [hLz] at hb he hf;intro y hy;rcases List.mem_append.1 hy with e | e
    · have hm:=List.mem_append_left [z] e
      exact ⟨fun p hp=>by have:=hb y hm p hp;omega,by have:=he y hm;omega,hf y hm⟩
    rw [List.mem_singleton.1 e]
    refine ⟨fun p hp=>?_,by dsimp only;omega,by simp⟩;rcases List.mem_append.1 hp with e | e
    · have:=hb z (by simp) p e;omega
    rw [List.mem_singleton.1 e];omega
  intro y hy
  rcases List.mem_append.1 hy with e | e
  · exact ⟨fun p hp=>by have:=h.puts y e p hp;omega,by have:=h.ends y e;omega,h.full y e⟩
  rw [List.mem_singleton.1 e]
  exact ⟨fun p hp=>by rw [List.mem_singleton.1 hp];omega,by dsimp only;omega,by simp⟩
 exact ⟨fun y hy=>(hg y hy).1,fun y hy=>(hg y hy).2.1,fun y hy=>(hg y hy).2.2,hz⟩
theorem HInv.tomb {M:Int} {H:Hist} (h:HInv M H) (ho:isOpen H.gens=true) {R:Int} (hM:M < R) (h1:1<=R):HInv R (tombH H R):=by
 obtain ⟨L,z,hLz,hz⟩:=zcb ho;have hb:=h.puts;have he:=h.ends;have hf:=h.full
 have hg:∀ y∈(tombH H R).gens,(∀ p∈y.puts,1<=p/\p<=R)/\(0<=y.end_/\y.end_<=R)/\y.puts≠[]:=by
  unfold tombH tombK;dsimp only;rw [hLz,zbh];rw [hLz] at hb he hf;intro y hy;rcases List.mem_append.1 hy with e | e
  · have hm:=List.mem_append_left [z] e
    exact ⟨fun p hp=>by have:=hb y hm p hp;omega,by have:=he y hm;omega,hf y hm⟩
  rw [List.mem_singleton.1 e]
  exact ⟨fun p hp=>by have:=hb z (by simp) p hp;omega,⟨by dsimp only;omega,Int.le_refl _⟩,hf z (by simp)⟩
 exact ⟨fun y hy=>(hg y hy).1,fun y hy=>(hg y hy).2.1,fun y hy=>(hg y hy).2.2,h.zero⟩
theorem HInv.new (M:Int):HInv M newH:=⟨by simp [newH],by simp [newH],by simp [newH],rfl⟩
theorem zqy {M:Int} {H:Hist} (h:HInv M H) {r:Int} (hr:M<=r):(hadH H r).2=isOpen H.gens:=by
 show (atK H.gens r).2=isOpen H.gens
 unfold isOpen
 cases hl:H.gens.getLast? with
 | none=>rw [List.getLast?_eq_none_iff.1 hl];rfl
 | some x =>
   obtain ⟨L,hL⟩:=List.getLast?_eq_some_iff.1 hl;have hx:x∈H.gens:=(by rw [hL];simp);have hu:upTo x.puts r=x.puts.length:=zgi fun p hp=>by have:=(h.puts x hx p hp).2;omega
   have:=List.length_pos_iff.2 (h.full x hx);have he:=h.ends x hx;rw [hL,zbk,hu,if_pos (by omega)];dsimp only;by_cases h0:x.end_=0
   · rw [if_neg (by omega)];simp [h0]
   rw [if_pos (by omega)];simp [h0]
set_option maxRecDepth 100000
theorem zcm (q:ByteArray × Int) (X:Pairs) (k:ByteArray):getT (q :: X) k=if keq q.1 k then (q.2,true) else getT X k:=by
 unfold getT;rw [List.find?_cons];cases h:keq q.1 k <;> simp
theorem zbv (T:Pairs) (k:ByteArray) (m:Int) (k':ByteArray):getT (insT T k m) k'=if keq k k' then (m,true) else getT T k':=by
 induction T with
 | nil =>
   unfold insT;rw [zcm]
 | cons p T ih =>
   unfold insT
   split
   · rename_i h
     rw [zcm,zcm,ih];cases h1:keq p.1 k' <;> cases h2:keq k k' <;> simp
     have e1:=zai.1 h1;have e2:=zai.1 h2;rw [e1,e2,zbc] at h;cases h
   split
   · rename_i h2
     rw [zcm,zcm]
     cases h1:keq k k' with
     | true=>simp
     | false =>
       have:keq p.1 k'=false:=(by rw [zai.1 h2];exact h1);simp [this]
   rw [zcm]
theorem zsf {T:Pairs} {k:ByteArray} {m:Int} {q:ByteArray × Int} (h:q∈insT T k m):q∈T\/q=(k,m):=by
 induction T with
 | nil=>exact .inr (by simpa [insT] using h)
 | cons p T ih =>
   unfold insT at h
   split at h
   · rcases List.mem_cons.1 h with h | h
     · exact .inl (by simp [h])
     rcases ih h with h | h
     · exact .inl (by simp [h])
     exact .inr h
   split at h
   · rcases List.mem_cons.1 h with h | h
     · exact .inr h
     exact .inl (by simp [h])
   rcases List.mem_cons.1 h with h | h
   · exact .inr h
   exact .inl h
theorem zeh {T:Pairs} {k:ByteArray} (h:(getT T k).2=true):(k,(getT T k).1)∈T:=by
 unfold getT at h ⊢
 cases hf:T.find? fun p=>keq p.1 k with
 | none=>rw [hf] at h;cases h
 | some p =>
   have h1:=List.mem_of_find?_eq_some hf;have h2:=List.find?_some hf;have h3:=zai.1 h2;obtain ⟨a,b⟩:=p;dsimp only at h3 ⊢
   subst h3;exact h1
theorem zdg {α:Type} {l:List α} {i:Nat} {f:α->α} {y:α} (h:y∈l.modify i f):∃ x∈l,y=x\/y=f x:=by
 obtain ⟨j,hj⟩:=List.mem_iff_getElem?.1 h;rw [List.getElem?_modify] at hj
 cases hx:l[j]? with
 | none=>rw [hx] at hj;simp at hj
 | some x =>
   rw [hx] at hj;refine ⟨x,List.mem_of_getElem? hx,?_⟩;by_cases hi:i=j
   · right;simpa [hi] using hj.symm
   left;simpa [hi] using hj.symm
theorem HistOk.mono {n m:Nat} {H:Hist} (h:HistOk n H) (hm:n<=m):HistOk m H :=
 ⟨Nat.le_trans h.len hm,fun x hx=>⟨Nat.le_trans (h.puts x hx).1 hm,(h.puts x hx).2⟩⟩
theorem zqr (n:Nat):HistOk n newH:=⟨by simp [newH],by simp [newH]⟩
theorem ztf {n:Nat} {H:Hist} (h:HistOk n H) (x:Kv) (h1:1<=x.mod) (h2:x.mod<=top):HistOk (n+1) (putH H x):=by
 unfold putH putK;refine ⟨?_,fun y hy=>?_⟩
 · have:=h.len
   dsimp only
   split
   · rw [List.length_modify];omega
   simp;omega
 dsimp only at hy
 split at hy
 · obtain ⟨z,hz,e | e⟩:=zdg hy
   · subst e
     exact ⟨Nat.le_succ_of_le (h.puts y hz).1,(h.puts y hz).2⟩
   subst e
   have:=h.puts z hz;refine ⟨by simp;omega,this.2.1,this.2.2.1,fun p hp=>?_⟩;rcases List.mem_append.1 hp with hp | hp
   · exact this.2.2.2 p hp
   rw [List.mem_singleton.1 hp];exact ⟨h1,h2⟩
 rcases List.mem_append.1 hy with hy | hy
 · exact ⟨Nat.le_succ_of_le (h.puts y hy).1,(h.puts y hy).2⟩
 rw [List.mem_singleton.1 hy]
 refine ⟨by simp,by simp,by simp [top],fun p hp=>?_⟩;rw [List.mem_singleton.1 hp];exact ⟨h1,h2⟩
theorem zrt {n:Nat} {H:Hist} (h:HistOk n H) (rev:Int):HistOk n (tombH H rev):=by
 unfold tombH tombK;refine ⟨by rw [List.length_modify];exact h.len,fun y hy=>?_⟩;obtain ⟨z,hz,e | e⟩:=zdg hy
 · subst e;exact h.puts y hz
 subst e;exact h.puts z hz
theorem StOk.mono {n m:Nat} {S:St} (h:StOk n S) (hm:n<=m):StOk m S :=
 { h with next:=Int.le_trans h.next (by omega),hist:=fun i H hi=>⟨(h.hist i H hi).1.mono hm,(h.hist i H hi).2⟩,ev:=Nat.le_trans h.ev hm }
theorem zsg {n:Nat} {S:St} (h:StOk n S) (key:ByteArray) :
 StOk (n+1) (madeS S key)/\(0<=idS S key/\idS S key < (madeS S key).next)/\∃ H,(madeS S key).past (idS S key)=some H/\HistOk n H/\H.last<=top:=by
 unfold madeS idS
 cases hg:(getT S.T key).2 with
 | true =>
   simp only [if_true];obtain ⟨H,hH⟩:=h.id _ (zeh hg);exact ⟨h.mono (by omega),h.ids _ H hH,H,hH,(h.hist _ H hH).1,(h.hist _ H hH).2⟩
 | false =>
   simp only [if_false,Bool.false_eq_true];refine ⟨{ pos:=by have:=h.pos;dsimp only;omega,next:=by have:=h.next;dsimp only;omega,id:=fun p hp=>?_,ids:=fun i H hi=>?_,hist:=fun i H hi=>?_,rev0:=h.rev0,rev1:=h.rev1,mark0:=h.mark0,ev:=Nat.le_succ_of_le h.ev },⟨h.pos,by omega⟩,newH,by simp,zqr n,by simp [newH,top]⟩
   · dsimp only at hp ⊢
     by_cases e:p.2=S.next
     · exact ⟨newH,by rw [if_pos e]⟩
     rw [if_neg e]
     rcases zsf hp with hp | hp
     · exact h.id p hp
     exact absurd (by rw [hp]) e
   · dsimp only at hi ⊢
     have:=h.pos;by_cases e:i=S.next
     · omega
     rw [if_neg e] at hi
     have:=h.ids i H hi;omega
   dsimp only at hi
   by_cases e:i=S.next
   · rw [if_pos e] at hi
     obtain rfl:=Option.some.inj hi;exact ⟨zqr _,by simp [newH,top]⟩
   rw [if_neg e] at hi
   exact ⟨(h.hist i H hi).1.mono (by omega),(h.hist i H hi).2⟩
theorem zqg {n:Nat} {S:St} (h:StOk n S) (x:Kv) (h1:1<=x.mod) (h2:x.mod<=top):StOk (n+1) (putS S x):=by
 obtain ⟨hm,hid,H0,hH0,hk0,hl0⟩:=zsg h x.key;unfold putS;rw [hH0];refine { pos:=hm.pos,next:=hm.next,id:=fun p hp=>?_,ids:=fun i H hi=>?_,hist:=fun i H hi=>?_,rev0:=hm.rev0,rev1:=hm.rev1,mark0:=hm.mark0,ev:=hm.ev }
 · dsimp only
   split
   · exact ⟨_,rfl⟩
   exact hm.id p hp
 · dsimp only at hi ⊢
   split at hi
   · rename_i e;rw [e];exact hid
   exact hm.ids i H hi
 dsimp only at hi
 split at hi
 · obtain rfl:=Option.some.inj hi
   exact ⟨ztf hk0 x h1 h2,h2⟩
 exact hm.hist i H hi
theorem zrs {n:Nat} {S:St} (h:StOk n S) (x:Kv) (h2:x.mod<=top):StOk n (tombS S x):=by
 unfold tombS
 split
 · rename_i hg
   refine { pos:=h.pos,next:=h.next,id:=fun p hp=>?_,ids:=fun i H hi=>?_,hist:=fun i H hi=>?_,rev0:=h.rev0,rev1:=h.rev1,mark0:=h.mark0,ev:=h.ev }
   · dsimp only
     split
     · obtain ⟨H,hH⟩:=h.id _ (zeh hg)
       dsimp only at hH;exact ⟨_,by rw [hH];rfl⟩
     exact h.id p hp
   · dsimp only at hi ⊢
     split at hi
     · rename_i e
       cases hH:S.past (getT S.T x.key).1 with
       | none=>rw [hH] at hi;cases hi
       | some H0=>rw [e];exact h.ids _ H0 hH
     exact h.ids i H hi
   dsimp only at hi
   split at hi
   · cases hH:S.past (getT S.T x.key).1 with
     | none=>rw [hH] at hi;cases hi
     | some H0 =>
       rw [hH] at hi;obtain rfl:=Option.some.inj hi;exact ⟨zrt (h.hist _ H0 hH).1 _,h2⟩
   exact h.hist i H hi
 exact h
theorem zss {n:Nat} {S:St} (h:StOk n S) (x:Ev) (h1:1<=x.kv.mod) (h2:x.kv.mod<=top):StOk (n+1) (doneS S x):=by
 unfold doneS
 split
 · exact zqg h _ h1 h2
 exact (zrs h _ h2).mono (by omega)
theorem doS_ok {n:Nat} {S:St} (h:StOk n S) (x:Ev) (h1:1<=x.kv.mod) (h2:x.kv.mod<=top):StOk (n+1) (doS S x):=by
 have hd:=zss h x h1 h2;have he:=zcs S x;unfold doS;refine { hd with ev:=?_ };dsimp only;rw [he];have:=h.ev;simp;omega
theorem StOk.setRev {n:Nat} {S:St} (h:StOk n S) (r:Int) (h0 : -top<=r) (h1:r<=top):StOk n { S with rev:=r }:={ h with rev0:=h0,rev1:=h1 }
structure SInv (M:Int) (S:St):Prop where
 inj:∀ k k',(getT S.T k).2=true->(getT S.T k').2=true->(getT S.T k).1=(getT S.T k').1->k=k'
 has:∀ k,(getT S.T k).2=true->∃ H,S.past (getT S.T k).1=some H
 hist:∀ i H,S.past i=some H->(HInv H.last H/\H.last<=M)/\i < S.next
theorem zso (r:Int):hadH newH r=(kv0,false):=rfl
theorem SInv.made {M:Int} {S:St} (h:SInv M S) (hM0:0<=M) (key:ByteArray):SInv M (madeS S key)/\(getT (madeS S key).T key).2=true/\(getT (madeS S key).T key).1=idS S key/\∀ k r,livesS (madeS S key) k r=livesS S k r:=by
 unfold madeS idS
 cases hg:(getT S.T key).2 with
 | true=>simp only [if_true];exact ⟨h,by first | trivial | exact hg,by trivial,fun _ _=>by trivial⟩
 | false =>
   simp only [Bool.false_eq_true,if_false]
   have hlt:∀ k,(getT S.T k).2=true->(getT S.T k).1 < S.next:=fun k hk=>by
    obtain ⟨H,hH⟩:=h.has k hk;exact (h.hist _ _ hH).2
   refine ⟨⟨fun k k' a b e=>?_,fun k a=>?_,fun i H a=>?_⟩,?_,?_,fun k r=>?_⟩
   · dsimp only at a b e
     rw [zbv] at a b e;rw [zbv] at e
     split at a <;> split at b <;> rename_i c1 c2
     · exact (zai.1 c1).symm.trans (zai.1 c2)
     · rw [if_pos c1,if_neg c2] at e;have:=hlt k' b;dsimp only at e;omega
     · rw [if_neg c1,if_pos c2] at e;have:=hlt k a;dsimp only at e;omega
     rw [if_neg c1,if_neg c2] at e;exact h.inj k k' a b e
   · dsimp only at a ⊢
     rw [zbv] at a ⊢
     split at a
     · exact ⟨newH,by simp [*]⟩
     rename_i c
     rw [if_neg c];have:=hlt k a;rw [if_neg (by omega)];exact h.has k a
   · dsimp only at a ⊢
     split at a
     · obtain rfl:=Option.some.inj a;exact ⟨⟨HInv.new 0,hM0⟩,by omega⟩
     have:=h.hist i H a;exact ⟨this.1,by omega⟩
   · rw [zbv,if_pos (zai.2 rfl)]
   · rw [zbv,if_pos (zai.2 rfl)]
   unfold livesS
   dsimp only;rw [zbv];by_cases c:keq key k=true
   · obtain rfl:=zai.1 c
     rw [if_pos c,hg];simp [zso]
   rw [if_neg c]
   cases ha:(getT S.T k).2 with
   | false=>rfl
   | true=>have:=hlt k ha;simp only [if_true];rw [if_neg (by omega)]
theorem SInv.put {M:Int} {S:St} (h:SInv M S) (hM0:0<=M) (x:Kv) (hM:M<=x.mod) (h1:1<=x.mod) (hlast:(getT S.T x.key).2=true->∀ H,S.past (getT S.T x.key).1=some H->H.last < x.mod):SInv x.mod (putS S x)/\∀ k r,livesS (putS S x) k r=if keq x.key k=true/\x.mod<=r then (x,true) else livesS S k r:=by
 obtain ⟨a,b,c,d⟩:=h.made hM0 x.key;obtain ⟨H,hH⟩:=a.has _ b;rw [c] at hH
 have hl:H.last < x.mod:=by
  unfold madeS idS at hH
  cases hg:(getT S.T x.key).2 with
  | true=>rw [hg,if_pos rfl,if_pos rfl] at hH;exact hlast hg H hH
  | false =>
    simp only [hg,Bool.false_eq_true,if_false,if_true] at hH;obtain rfl:=Option.some.inj hH
    show (0:Int) < x.mod
    omega
 have hI:=(a.hist _ _ hH);unfold putS;rw [hH];generalize madeS S x.key=S' at *;generalize idS S x.key=id at *;dsimp only [Option.getD_some];refine ⟨⟨a.inj,fun k hk=>?_,fun i G hG=>?_⟩,fun k r=>?_⟩
 · dsimp only at hk ⊢
   split
   · exact ⟨_,rfl⟩
   exact a.has k hk
 · dsimp only at hG ⊢
   split at hG
   · rename_i e
     obtain rfl:=Option.some.inj hG;exact ⟨⟨hI.1.1.put x hl h1,Int.le_refl _⟩,by rw [e];exact hI.2⟩
   have:=a.hist i G hG
   exact ⟨⟨this.1.1,by omega⟩,this.2⟩
 rw [<-d k r]
 unfold livesS;dsimp only
 cases hk:(getT S'.T k).2 with
 | false =>
   have hno:¬ (keq x.key k=true/\x.mod<=r):=by
    rintro ⟨e,_⟩;rw [zai.1 e,hk] at b;cases b
   simp only [Bool.false_eq_true,if_false,hno]
 | true =>
   simp only [if_true];by_cases e:keq x.key k=true
   · obtain rfl:=zai.1 e
     rw [c,if_pos rfl,hH];dsimp only;rw [znu hI.1.1 x hl h1 r];by_cases hr:r < x.mod
     · rw [if_pos hr,if_neg (by omega)]
     rw [if_neg hr,if_pos ⟨e,by omega⟩]
   have hne:(getT S'.T k).1≠id:=fun e'=>e (zai.2 (a.inj x.key k b hk (c.trans e'.symm)))
   rw [if_neg hne,if_neg fun h=>e h.1]
theorem SInv.tomb {M:Int} {S:St} (h:SInv M S) (x:Kv) (hM:M<=x.mod) (h1:1<=x.mod) (hk:(getT S.T x.key).2=true) (hlast:∀ H,S.past (getT S.T x.key).1=some H->H.last < x.mod) (ho:∀ H,S.past (getT S.T x.key).1=some H->isOpen H.gens=true) :
 SInv x.mod (tombS S x)/\∀ k r,livesS (tombS S x) k r=if keq x.key k=true/\x.mod<=r then (kv0,false) else livesS S k r:=by
 obtain ⟨H,hH⟩:=h.has _ hk;have hI:=h.hist _ _ hH;have ho':=ho H hH;unfold tombS;rw [if_pos hk,hH];dsimp only [Option.map_some];refine ⟨⟨h.inj,fun k a=>?_,fun i G hG=>?_⟩,fun k r=>?_⟩
 · dsimp only at a ⊢
   split
   · exact ⟨_,rfl⟩
   exact h.has k a
 · dsimp only at hG ⊢
   split at hG
   · rename_i e
     obtain rfl:=Option.some.inj hG;exact ⟨⟨hI.1.1.tomb ho' (hlast H hH) h1,Int.le_refl _⟩,by rw [e];exact hI.2⟩
   have:=h.hist i G hG
   exact ⟨⟨this.1.1,by omega⟩,this.2⟩
 unfold livesS
 dsimp only
 cases ha:(getT S.T k).2 with
 | false =>
   have hno:¬ (keq x.key k=true/\x.mod<=r):=by
    rintro ⟨e,_⟩;rw [zai.1 e,ha] at hk;cases hk
   simp only [Bool.false_eq_true,if_false,hno]
 | true =>
   simp only [if_true];by_cases e:keq x.key k=true
   · obtain rfl:=zai.1 e
     rw [if_pos rfl,hH];dsimp only;rw [zqx hI.1.1 ho' (hlast H hH) h1 r];by_cases hr:r < x.mod
     · rw [if_pos hr,if_neg (by omega)]
     rw [if_neg hr,if_pos ⟨e,by omega⟩]
   have hne:(getT S.T k).1≠(getT S.T x.key).1:=fun e'=>e (zai.2 (h.inj x.key k hk ha e'.symm))
   rw [if_neg hne,if_neg fun h=>e h.1]
end Go.Proofs.Ythljnnjpmdgkoaa