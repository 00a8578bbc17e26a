/- Own lemmas. -/
import Derived.Test.YthljnnjpmdgkoaaGreatK26
import Derived.Test.YthljnnjpmdgkoaaGreatK09
import Derived.Test.YthljnnjpmdgkoaaGreatK24
import Derived.Test.YthljnnjpmdgkoaaGreatK17
import Derived.Test.YthljnnjpmdgkoaaGreatK16
import Derived.StringKeys
import Derived.Maps.Keyed
import Derived.Deep.CutBlock
import Derived.WalkLawsBesides
namespace Go.Proofs.YthljnnjpmdgkoaaGreat
open Go Go.Proofs Go.RowKit
structure KeysOk (D:Doc):Prop where
 kvs:∀ k∈D.kvs,keyE k.key=0
 evs:∀ e∈D.events,keyE e.kv.key=0
theorem KeysOk.at {D:Doc} (h:KeysOk D) (hs:KSorted D.kvs) {r:Int} {y:Kv} (hy:y∈D.at r):keyE y.key=0:=by
 rcases Doc.mem_at hs hy with a | ⟨e,a,_,rfl⟩
 · exact h.kvs y a
 exact h.evs e a
theorem KeysOk.cut {D:Doc} (h:KeysOk D) (hs:KSorted D.kvs) (R:Int):KeysOk (D.cut R) :=
 ⟨fun _k hk=>h.at hs hk,fun e he=>h.evs e (List.mem_filter.1 he).1⟩
theorem KeysOk.adds {D:Doc} (h:KeysOk D) {E:List Ev} (hE:∀ e∈E,keyE e.kv.key=0):KeysOk (D.adds E):=by
 obtain ⟨a,b,c⟩:=Doc.adds_parts D E;refine ⟨by rw [b];exact h.kvs,fun e d=>?_⟩;rw [c] at d;rcases List.mem_append.1 d with d | d
 · exact h.evs e d
 exact hE e d
theorem zxb {o:Opr} (h:oneE o=0) (hk:o.kind=1):keyE o.rg.key=0:=by
 unfold oneE at h;rw [if_neg (by rw [hk];decide),if_neg (by rw [hk];decide),if_pos hk] at h
 split at h
 · rename_i hn;exact absurd h hn
 rename_i hn;exact Classical.not_not.1 hn
theorem RunOk.ks {c n:Nat} {D:Doc} {P:List Opr} {S:St} {E:List Ev} (h:RunOk c n D P S E):KSorted D.kvs:=by
 have:=h.cpl.ks
 rwa [(Doc.adds_parts D E).2.1] at this
theorem zvg {c n:Nat} {D:Doc} {P:List Opr} {r:Run} (h:RunOk c n D P r.S r.E) (hD:KeysOk D) (hmk:D.mark<=D.rev) (o:Opr) (ho:oneE o=0) (hE:∀ e∈r.E,keyE e.kv.key=0) :
 ∀ e∈(stepR (D.rev+1) r o).E,keyE e.kv.key=0:=by
 have b:=h.ks;unfold stepR;by_cases h1:o.kind=1
 · rw [if_pos h1]
   intro e a;rcases List.mem_append.1 a with a | a
   · exact hE e a
   rw [List.mem_singleton.1 a]
   exact zxb ho h1
 rw [if_neg h1]
 by_cases h2:o.kind=2
 · rw [if_pos h2]
   intro e a;dsimp only at a;rw [zpq] at a;rcases List.mem_append.1 a with a | a
   · exact hE e a
   obtain ⟨x,d,rfl⟩:=List.mem_map.1 a
   rw [h.between hmk] at d;exact KeysOk.at (y:=x) (hD.adds hE) (by rw [(Doc.adds_parts D r.E).2.1];exact b) (List.mem_filter.1 d).1
 rw [if_neg h2]
 split <;> exact hE
theorem Good.keys_does {k:Nat} {S:St} {D:Doc} (h:Good k S D) (hk:k<=70) {q:CalQ} (hq:fewCal q=true) (hD:KeysOk D):KeysOk (doD S D q):=by
 obtain ⟨m,w,n,v,u⟩:=zfu hq;have j:=h.cpl.m0;unfold doD;by_cases h4:kindN q.1.kind=4
 · rw [if_pos h4];exact hD
 rw [if_neg h4]
 by_cases h5:kindN q.1.kind=5
 · rw [if_pos h5]
   split
   · exact hD.cut h.cpl.ks _
   exact hD
 rw [if_neg h5]
 by_cases h6:kindN q.1.kind=6
 · rw [if_pos h6];exact hD
 rw [if_neg h6]
 by_cases h7:kindN q.1.kind=7
 · rw [if_pos h7]
   refine hD.adds ?_
   have key:∀ i≤ q.2.2.length,∀ e∈(dropTo (D.rev+1) S q.2.2 i).2,keyE e.kv.key=0:=by
    intro i
    induction i with
    | zero=>intro _ e b;simp [dropTo] at b
    | succ i ih =>
      intro r;obtain ⟨x,p⟩:∃ x,q.2.2[i]?=some x:=⟨_,List.getElem?_eq_getElem (by omega)⟩;obtain ⟨a,_⟩:=h.drops hk q.2.2 n i (by omega);have c:=ih (by omega);rw [zet _ _ _ p];unfold dropR
      split
      · rename_i hlv
        intro e b;rcases List.mem_append.1 b with b | b
        · exact c e b
        rw [List.mem_singleton.1 b]
        show keyE x=0
        have l:=a.cpl.lives x (D.rev+1) (by rw [(Doc.adds_parts D _).1];omega)
        cases hh:hasL ((D.adds (dropTo (D.rev+1) S q.2.2 i).2).at (D.rev+1)) x with
        | none=>rw [l,hh] at hlv;cases hlv
        | some y =>
          have f:KSorted (D.adds (dropTo (D.rev+1) S q.2.2 i).2).kvs:=(by rw [(Doc.adds_parts D _).2.1];exact h.cpl.ks);obtain ⟨s,t⟩:=(zbl (Doc.at_sorted f _) x y).1 hh;rw [<-t];exact (hD.adds c).at f s
      exact c
   have:=key q.2.2.length (Nat.le_refl _);have b:dropTo (D.rev+1) S q.2.2 q.2.2.length=q.2.2.foldl (dropR (D.rev+1)) (S,[]):=(by unfold dropTo;rw [List.take_length]);rw [b] at this;exact this
 rw [if_neg h7]
 by_cases ha:applyE S q.2.1=0
 · rw [if_pos ha]
   refine hD.adds ?_;obtain ⟨_,d,_⟩:=zch (zbe ha).1
   have key:∀ i≤ q.2.1.length,∀ e∈(runR (D.rev+1) ⟨S,[],[]⟩ (q.2.1.take i)).E,keyE e.kv.key=0:=by
    intro i
    induction i with
    | zero=>intro _ e b;simp [runR] at b
    | succ i ih =>
      intro r;obtain ⟨o,g⟩:∃ o,q.2.1[i]?=some o:=⟨_,List.getElem?_eq_getElem (by omega)⟩;obtain ⟨⟨a,_⟩,_⟩:=h.runs hk (zbe ha).1 (fun o g=>by have:=(m o g).1;omega) i (by omega);rw [zix _ _ _ g];exact zvg a hD j.2 o (d o (List.mem_of_getElem? g)) (ih (by omega))
   have:=key q.2.1.length (Nat.le_refl _);rw [List.take_length] at this;exact this
 rw [if_neg ha];exact hD
theorem zhw {l:List CalQ} (h:zbh l=true):∀ i≤ l.length,KeysOk (donesT l i).2:=by
 obtain ⟨f,b⟩:=zbm h;have c:=zdg h;intro i
 induction i with
 | zero=>intro _;exact ⟨fun k hk=>by simp [donesT,newD] at hk,fun e he=>by simp [donesT,newD] at he⟩
 | succ i ih =>
   intro d;obtain ⟨q,a⟩:∃ q,l[i]?=some q:=⟨_,List.getElem?_eq_getElem (by omega)⟩;rw [zdk l a];exact (c i (by omega)).keys_does (by omega) (b q (List.mem_of_getElem? a)) (ih (by omega))
theorem zjn {k:ByteArray} (h:keyE k=0):inB k ⟨#[1]⟩ ⟨#[0]⟩=true/\k.size<=64:=by
 have f:¬ (runes k<1\/0<=firstIdx k 0)/\¬ 64<k.size:=by
  unfold keyE at h
  split at h
  · cases h
  rename_i d
  split at h
  · cases h
  rename_i b;exact ⟨d,b⟩
 refine ⟨?_,by omega⟩
 have e:k.data.toList.any (· == 0)=false:=by
  rw [<-Go.firstIdx_nonneg];simp only [decide_eq_false_iff_not];exact fun h=>f.1 (.inr h)
 have i:¬ runes k<1:=fun h=>f.1 (.inl h)
 have c:klt k ⟨#[1]⟩=false:=by
  rw [Bool.eq_false_iff];intro c;have d:=zdu.1 c
  cases hl:k.data.toList with
  | nil =>
    refine i ?_
    have:k.size=0:=by
     have:=congrArg List.length hl;simpa using this
    unfold runes;rw [this]
    show (0:Int)<1
    decide
  | cons a t =>
    rw [hl] at d e;simp only [List.any_cons,Bool.or_eq_false_iff,beq_eq_false_iff_ne] at e;have b:a :: t < [1]:=d;rw [List.cons_lt_cons_iff] at b;rcases b with b | ⟨_,b⟩
    · refine e.1 ?_
      rw [UInt8.lt_iff_toNat_lt] at b
      have g:a.toNat=0:=by
       have:(1:UInt8).toNat=1:=rfl;omega
      exact UInt8.toNat_inj.1 g
    exact absurd b (List.not_lt_nil _)
 unfold inB;rw [if_neg (by rw [Lib.toList_data];simp),if_pos (by rw [Lib.toList_data];rfl)];have:Op.bytesLess k.toList (⟨#[1]⟩:ByteArray).toList=klt k ⟨#[1]⟩:=rfl;rw [this,c]
 rfl
theorem zfd {k:Nat} {S:St} {D:Doc} (h:Good k S D):zan S S.T S.mark=D.kvs:=by
 have c:=h.cpl.mark;have a:=h.cpl.between h.srt ⟨#[]⟩ ⟨#[]⟩ (r:=D.mark) (Int.le_refl _);rw [zho] at a;rw [c,a]
 have b:(D.at D.mark).filter (fun y=>rgB ⟨#[]⟩ ⟨#[]⟩ y.key)=D.at D.mark:=by
  rw [List.filter_eq_self];intro y _;unfold rgB;rw [zed];simp [Lib.toList_data]
 rw [b]
 unfold Doc.at;have:(D.events.filter fun e=>decide (D.mark<e.kv.mod)&&decide (e.kv.mod<=D.mark)) = []:=List.filter_eq_nil_iff.2 fun e _=>by simp <;> omega
 rw [this]
 rfl
def revAt (D:Doc) (i:Nat):Int:=if i=0 then max D.mark 1-1 else match D.events[i-1]? with
 | some p=>p.kv.mod
 | none=>0
def foldTo (D:Doc) (i:Nat):List Kv:=((D.events.take i).filter fun y=>decide (D.mark<y.kv.mod)).foldl doneL D.kvs
theorem zcv {l:List Ev} (h:ESorted l) {i j:Nat} {a b:Ev} (hi:l[i]?=some a) (hj:l[j]?=some b) (hij:i<=j):a.kv.mod<=b.kv.mod:=by
 obtain ⟨f,d⟩:=List.getElem?_eq_some_iff.1 hi;obtain ⟨g,c⟩:=List.getElem?_eq_some_iff.1 hj;rcases Nat.lt_or_eq_of_le hij with e | e
 · have:=List.pairwise_iff_getElem.1 h i j f g e
   rw [d,c] at this;exact this
 subst e
 rw [d] at c;rw [c];exact Int.le_refl _
theorem DocOk.chain {n:Nat} {D:Doc} (h:DocOk n D) (hm0:0<=D.mark) {i:Nat} {e:Ev} (he:D.events[i]?=some e):e.kv.mod=revAt D i\/e.kv.mod=revAt D i+1:=by
 have r:=h.lo e (List.mem_of_getElem? he);unfold revAt;by_cases hi:i=0
 · rw [if_pos hi]
   subst hi
   right
   have m:max D.mark 1<=e.kv.mod:=(by omega);rcases Int.lt_or_le (max D.mark 1) e.kv.mod with c | g
   · exfalso
     obtain ⟨y,d,f⟩:=h.full (max D.mark 1) (by omega) (by omega) (by omega);obtain ⟨j,a⟩:=List.mem_iff_getElem?.1 d;have:=zcv h.es he a (Nat.zero_le _);omega
   omega
 rw [if_neg hi]
 have o:=(List.getElem?_eq_some_iff.1 he).1;obtain ⟨p,b⟩:∃ p,D.events[i-1]?=some p:=⟨_,List.getElem?_eq_getElem (by omega)⟩;rw [b];dsimp only;have l:=h.lo p (List.mem_of_getElem? b);have q:=zcv h.es b he (by omega);rcases Int.lt_or_le (p.kv.mod+1) e.kv.mod with c | g
 · exfalso
   obtain ⟨y,d,f⟩:=h.full (p.kv.mod+1) (by omega) (by omega) (by omega);obtain ⟨j,a⟩:=List.mem_iff_getElem?.1 d;rcases Nat.lt_or_ge j i with k | k
   · have:=zcv h.es a b (by omega);omega
   have:=zcv h.es he a k;omega
 omega
theorem zkv {D:Doc} {i:Nat} {e:Ev} (he:D.events[i]?=some e):revAt D (i+1)=e.kv.mod:=by
 unfold revAt;rw [if_neg (by omega),Nat.add_sub_cancel,he]
theorem DocOk.revAt_last {n:Nat} {D:Doc} (h:DocOk n D) (hm0:0<=D.mark) (hm1:D.mark<=D.rev):revAt D D.events.length=D.rev:=by
 rcases Nat.eq_zero_or_pos D.events.length with c | c
 · have l:D.rev=0:=by
    rcases Int.lt_or_le D.rev 1 with a | a
    · omega
    obtain ⟨y,b,_⟩:=h.full D.rev a hm1 (Int.le_refl _)
    rw [List.eq_nil_of_length_eq_zero c] at b;cases b
   unfold revAt;rw [if_pos c];omega
 obtain ⟨e,d⟩:∃ e,D.events[D.events.length-1]?=some e:=⟨_,List.getElem?_eq_getElem (by omega)⟩
 have a:=zkv d;rw [Nat.sub_add_cancel (by omega)] at a;rw [a];have k:=h.lo e (List.mem_of_getElem? d);obtain ⟨y,b,g⟩:=h.full D.rev (by omega) hm1 (Int.le_refl _);obtain ⟨j,f⟩:=List.mem_iff_getElem?.1 b;have i:=(List.getElem?_eq_some_iff.1 f).1;have:=zcv h.es f d (by omega);omega
theorem zmc {D:Doc} (h:KSorted D.kvs) (i:Nat):KSorted (foldTo D i):=zbg h _
theorem zps (D:Doc):foldTo D 0=D.kvs:=by simp [foldTo]
theorem zpt {D:Doc} {i:Nat} {e:Ev} (he:D.events[i]?=some e) (hm:¬ D.mark<e.kv.mod):foldTo D (i+1)=foldTo D i:=by
 unfold foldTo;rw [List.take_add_one,he,List.filter_append];simp [hm]
theorem zpu {D:Doc} {i:Nat} {e:Ev} (he:D.events[i]?=some e) (hm:D.mark<e.kv.mod):foldTo D (i+1)=doneL (foldTo D i) e:=by
 unfold foldTo;rw [List.take_add_one,he,List.filter_append,List.foldl_append];simp [hm]
theorem DocOk.prev_at {n:Nat} {D:Doc} (h:DocOk n D) {i:Nat} {e:Ev} (he:D.events[i]?=some e) (hm:D.mark<e.kv.mod):e.prev=(hasL (foldTo D i) e.kv.key).getD kv0:=by
 obtain ⟨b,a⟩:=List.getElem?_eq_some_iff.1 he;refine h.prev (D.events.take i) e (D.events.drop (i+1)) ?_ hm;have:=List.take_append_drop i D.events;rw [List.drop_eq_getElem_cons b,a] at this;exact this.symm
theorem DocOk.uniq_at {n:Nat} {D:Doc} (h:DocOk n D) {i j:Nat} {a b:Ev} (hi:D.events[i]?=some a) (hj:D.events[j]?=some b) (hij:i<j) (he:a.kv.mod=b.kv.mod):a.kv.key≠b.kv.key:=by
 obtain ⟨e,f⟩:=List.getElem?_eq_some_iff.1 hi;obtain ⟨d,c⟩:=List.getElem?_eq_some_iff.1 hj;have:=List.pairwise_iff_getElem.1 h.uniq i j e d hij;rw [f,c] at this;exact this he
def sameB (x y:Kv):Bool:=keq x.key y.key&&(keq x.value y.value&&(x.create==y.create&&(x.mod==y.mod&&(x.version==y.version&&x.lease==y.lease))))
theorem zlw (a:ByteArray):keq a a=true:=zas.2 rfl
theorem zug {x y:Kv}:sameB x y=true↔x=y:=by
 obtain ⟨f,d,i,j,b,c⟩:=x;obtain ⟨g,l,a,m,k,e⟩:=y;unfold sameB;simp only [Bool.and_eq_true,beq_iff_eq,zas,Kv.mk.injEq]
theorem zfz (x:Kv):sameB x x=true:=zug.2 rfl
theorem zjw (l:List Kv) (x:Ev):(doneL l x).length<=l.length+1:=by
 induction l with
 | nil=>unfold doneL;split <;> simp
 | cons k l ih =>
   unfold doneL
   split
   · simp only [List.length_cons];omega
   simp only [List.length_append,List.length_cons]
   split <;> split <;> simp <;> omega
def mayB (x:Kv) (rev:Int):Bool :=
 if keyE x.key≠0\/1024<x.value.size\/x.lease<0\/x.create<1\/x.mod<x.create\/rev<x.mod then false
 else if x.mod=x.create then x.version==1 else decide (2<=x.version)&&decide (x.version<=x.mod-x.create+1)
def madeB (x:Ev) (was:Kv) (rev:Int):Bool :=
 if keyE x.kv.key≠0\/x.kv.mod≠rev\/sameB x.prev was=false then false
 else if x.kind=2 then decide (0<was.version)&&sameB x.kv ⟨x.kv.key,ByteArray.empty,0,rev,0,0⟩
 else (x.kind==1)&&((x.kv.create==if was.version=0 then rev else was.create)&&((x.kv.version==wrap64 (was.version+1))&&(decide (x.kv.value.size<=1024)&&decide (0<=x.kv.lease))))
def zgr (x:Ev) (l:List Kv) (mark:Int):Bool :=
 if (sameB x.prev kv0=false/\(keq x.prev.key x.kv.key=false\/mayB x.prev (mark-1)=false))\/madeB x x.prev mark=false then false
 else if x.kind=1 then sameB ((hasL l x.kv.key).getD kv0) x.kv else ((hasL l x.kv.key).getD kv0).version==0
structure KvOk (D:Doc) (i:Nat) (k:Kv):Prop where
 may:mayB k D.mark=true
 up:∀ k',0<i->D.kvs[i-1]?=some k'->klt k'.key k.key=true
structure EvOk (D:Doc) (i:Nat) (x:Ev):Prop where
 lo:max D.mark 1<=x.kv.mod
 ge:revAt D i<=x.kv.mod
 le:x.kv.mod<=revAt D i+1
 one:∀ j y,j<i->D.events[j]?=some y->y.kv.mod=x.kv.mod->keq y.kv.key x.kv.key=false
 mkd:x.kv.mod=D.mark->zgr x D.kvs D.mark=true
 md:x.kv.mod≠D.mark->madeB x ((hasL (foldTo D i) x.kv.key).getD kv0) x.kv.mod=true
def freshK (D:Doc) (i:Nat):Nat:=((D.kvs.take i).filter fun k=>k.mod==D.mark).length
def freshE (D:Doc) (i:Nat):Nat:=((D.events.take i).filter fun x=>x.kv.mod==D.mark&&x.kind==1).length
structure zbi (D:Doc):Prop where
 m0:0<=D.mark
 mr:D.mark<=D.rev
 top:D.rev<=1099511627776
 kvs:∀ i k,D.kvs[i]?=some k->KvOk D i k
 evs:∀ i x,D.events[i]?=some x->EvOk D i x
 last:revAt D D.events.length=D.rev
 fresh:freshK D D.kvs.length=freshE D D.events.length
theorem zer (D:Doc) {i:Nat} {k:Kv} (h:D.kvs[i]?=some k):freshK D (i+1)=freshK D i+(if k.mod==D.mark then 1 else 0):=by
 unfold freshK;rw [List.take_add_one,h,List.filter_append,List.length_append];simp only [Option.toList_some,List.filter_cons,List.filter_nil]
 split <;> simp
theorem zpr (D:Doc) {i:Nat} {x:Ev} (h:D.events[i]?=some x):freshE D (i+1)=freshE D i+(if x.kv.mod==D.mark&&x.kind==1 then 1 else 0):=by
 unfold freshE;rw [List.take_add_one,h,List.filter_append,List.length_append];simp only [Option.toList_some,List.filter_cons,List.filter_nil]
 split <;> simp
theorem zvp (D:Doc) (i:Nat):freshK D i<=i:=Nat.le_trans (List.length_filter_le _ _) (List.length_take_le _ _)
theorem zvq (D:Doc) (i:Nat):freshE D i<=i:=Nat.le_trans (List.length_filter_le _ _) (List.length_take_le _ _)
structure DocSm (D:Doc):Prop where
 kvs:∀ k∈D.kvs,k.key.size<=1099511627776
 evs:∀ x∈D.events,x.kv.key.size<=1099511627776/\x.prev.key.size<=1099511627776
 len:D.kvs.length+D.events.length<=100000000
theorem zlh {l:List Kv} (h:∀ i k k',0<i->l[i]?=some k->l[i-1]?=some k'->klt k'.key k.key=true):KSorted l:=by
 induction l with
 | nil=>exact List.Pairwise.nil
 | cons a l ih =>
   have d:=ih fun i k k' hi hk hk'=>by
    refine h (i+1) k k' (by omega) (by simpa using hk) ?_;rw [show i+1-1=(i-1)+1 by omega];simpa using hk'
   refine List.pairwise_cons.2 ⟨fun y e=>?_,d⟩
   cases l with
   | nil=>cases e
   | cons b l =>
     have c:klt a.key b.key=true:=h 1 b a (by omega) rfl rfl;rcases List.mem_cons.1 e with rfl | e
     · exact c
     exact zbz c ((List.pairwise_cons.1 d).1 y e)
theorem zjq:∀ (l:List Ev) (k:List Kv),(l.foldl doneL k).length<=k.length+l.length:=by
 intro l
 induction l with
 | nil=>intro k;exact Nat.le_refl _
 | cons e l ih=>intro k;rw [List.foldl_cons];have:=ih (doneL k e);have:=zjw k e;simp only [List.length_cons];omega
theorem zss (D:Doc) (i:Nat):(foldTo D i).length<=D.kvs.length+i:=by
 unfold foldTo;have:=zjq ((D.events.take i).filter fun y=>decide (D.mark<y.kv.mod)) D.kvs;have a:=List.length_filter_le (fun y:Ev=>decide (D.mark<y.kv.mod)) (D.events.take i);have b:(D.events.take i).length<=i:=List.length_take_le _ _;omega
def MayP (x:Kv) (rev:Int):Prop:=keyE x.key=0/\x.value.size<=1024/\0<=x.lease/\1<=x.create/\x.create<=x.mod/\x.mod<=rev/\(x.mod=x.create->x.version=1)/\(x.mod≠x.create->2<=x.version/\x.version<=x.mod-x.create+1)
theorem zrf {x:Kv} {rev:Int}:mayB x rev=true↔MayP x rev:=by
 unfold mayB MayP;by_cases h:keyE x.key≠0\/1024<x.value.size\/x.lease<0\/x.create<1\/x.mod<x.create\/rev<x.mod
 · rw [if_pos h]
   constructor
   · intro e;cases e
   rintro ⟨a,b,c,d,e,f,_⟩
   rcases h with h | h | h | h | h | h
   · exact absurd a h
   all_goals omega
 rw [if_neg h]
 simp only [not_or,Int.not_lt,Nat.not_lt,Decidable.not_not] at h;obtain ⟨a,b,c,d,e,f⟩:=h;by_cases hm:x.mod=x.create
 · rw [if_pos hm,beq_iff_eq]
   exact ⟨fun h=>⟨a,b,c,d,e,f,fun _=>h,fun hn=>absurd hm hn⟩,fun h=>h.2.2.2.2.2.2.1 hm⟩
 rw [if_neg hm,Bool.and_eq_true,decide_eq_true_eq,decide_eq_true_eq]
 exact ⟨fun h=>⟨a,b,c,d,e,f,fun hn=>absurd hn hm,fun _=>h⟩,fun h=>h.2.2.2.2.2.2.2 hm⟩
theorem MayP.mono {x:Kv} {r r':Int} (h:MayP x r) (hr:r<=r'):MayP x r':=by
 obtain ⟨a,b,c,d,e,f,g⟩:=h;exact ⟨a,b,c,d,e,by omega,g⟩
theorem MayP.ver {x:Kv} {r:Int} (h:MayP x r):1<=x.version/\x.mod<=r/\1<=x.mod:=by
 obtain ⟨a,b,c,d,e,f,i,g⟩:=h;by_cases hm:x.mod=x.create
 · have:=i hm;omega
 have:=g hm;omega
def EvW (e:Ev):Prop :=
 (e.kind=1/\e.kv.value.size<=1024/\0<=e.kv.lease/\e.kv.create=(if e.prev.version=0 then e.kv.mod else e.prev.create)/\e.kv.version=e.prev.version+1) ∨
 (e.kind=2/\0<e.prev.version/\e.kv=⟨e.kv.key,ByteArray.empty,0,e.kv.mod,0,0⟩)
def PrevW (e:Ev):Prop:=e.prev=kv0\/(e.prev.key=e.kv.key/\MayP e.prev (e.kv.mod-1))
theorem zvb {e:Ev} (h:EvW e) (h1:e.kind=1) (hk:keyE e.kv.key=0) (hm:1<=e.kv.mod) (hp:PrevW e):MayP e.kv e.kv.mod:=by
 rcases h with ⟨_,a,b,c,d⟩ | ⟨f,_⟩
 · rcases hp with hp | ⟨_,hp⟩
   · rw [hp] at c d
     have k:e.kv.create=e.kv.mod:=c;have j:e.kv.version=1:=d;exact ⟨hk,a,b,by omega,by omega,Int.le_refl _,fun _=>j,fun hn=>absurd k.symm hn⟩
   have o:=hp.ver
   obtain ⟨l,p,q,m,r,n,i,g⟩:=hp;rw [if_neg (by omega)] at c;refine ⟨hk,a,b,by omega,by omega,Int.le_refl _,fun hn=>by omega,fun _=>⟨by omega,?_⟩⟩;by_cases hq:e.prev.mod=e.prev.create
   · have:=i hq;omega
   have:=g hq;omega
 rw [h1] at f;cases f
theorem zkm {l:List Kv} (hs:KSorted l) (A:List Ev) (e:Ev) (B:List Ev) (hB:∀ y∈B,y.kv.key≠e.kv.key):hasL ((A++e :: B).foldl doneL l) e.kv.key=if e.kind=1 then some e.kv else none:=by
 rw [List.foldl_append,List.foldl_cons];have b:KSorted (doneL (A.foldl doneL l) e):=zck (zbg hs A) e
 have a:hasL (doneL (A.foldl doneL l) e) e.kv.key=if e.kind=1 then some e.kv else none:=by
  rw [zdf (zbg hs A),if_pos (zas.2 rfl)]
 generalize doneL (A.foldl doneL l) e=m at *;rw [<-a];clear a
 induction B generalizing m with
 | nil=>rfl
 | cons y B ih =>
   rw [List.foldl_cons,ih (fun z hz=>hB z (List.mem_cons_of_mem _ hz)) _ (zck b y),zdf b,if_neg];intro c;exact hB y List.mem_cons_self (zas.1 c).symm
set_option maxRecDepth 100000
set_option maxHeartbeats 4000000 in
theorem zcm (w:World) (x y:Kv):Calls Tryz.prog 82 #[kvV x,kvV y] w fun e w'=>e=.returned (.bool (sameB x y))/\Fr No w w':=by
 obtain ⟨i,o,j,k,n,f⟩:=x;obtain ⟨p,q,m,r,l,g⟩:=y;have B:∀ b,b=sameB ⟨i,o,j,k,n,f⟩ ⟨p,q,m,r,l,g⟩->Ending.returned (.bool b)=.returned (.bool (sameB ⟨i,o,j,k,n,f⟩ ⟨p,q,m,r,l,g⟩)):=fun b h=>by rw [h]
 have c:=H_ B;clear B;unfold kvV;dsimp only;generalize a:sameB ⟨i,o,j,k,n,f⟩ ⟨p,q,m,r,l,g⟩=C at *;unfold sameB keq at a;dsimp only at a;by_cases h1:(i.toList==p.toList)=true
 · by_cases h2:(o.toList==q.toList)=true
   · by_cases h3:(j==m)=true
     · by_cases h4:(k==r)=true
       · by_cases h5:(n==l)=true
         · by_cases h6:(f==g)=true
           · rw [h1,h2,h3,h4,h5,h6] at a
             have d:=H_ a;clear a;go_enter Tryz.func82,Tryz.ntmps82;go_wp2;go_ret;exact ⟨c.out _ (by rw [<-d.out];rfl),((Fr.refl No w).alloc _).alloc _⟩
           have t:(f==g)=false:=by simpa using h6
           clear h6;rw [h1,h2,h3,h4,h5,t] at a;have d:=H_ a;clear a;go_enter Tryz.func82,Tryz.ntmps82;go_wp2;go_ret;exact ⟨c.out _ (by rw [<-d.out];rfl),((Fr.refl No w).alloc _).alloc _⟩
         have z:(n==l)=false:=by simpa using h5
         clear h5;rw [h1,h2,h3,h4,z] at a;have d:=H_ a;clear a;go_enter Tryz.func82,Tryz.ntmps82;go_wp2;go_ret;exact ⟨c.out _ (by rw [<-d.out];rfl),((Fr.refl No w).alloc _).alloc _⟩
       have s:(k==r)=false:=by simpa using h4
       clear h4;rw [h1,h2,h3,s] at a;have d:=H_ a;clear a;go_enter Tryz.func82,Tryz.ntmps82;go_wp2;go_ret;exact ⟨c.out _ (by rw [<-d.out];rfl),((Fr.refl No w).alloc _).alloc _⟩
     have v:(j==m)=false:=by simpa using h3
     clear h3;rw [h1,h2,v] at a;have d:=H_ a;clear a;go_enter Tryz.func82,Tryz.ntmps82;go_wp2;go_ret;exact ⟨c.out _ (by rw [<-d.out];rfl),((Fr.refl No w).alloc _).alloc _⟩
   have u:(o.toList==q.toList)=false:=by simpa using h2
   clear h2;rw [h1,u] at a;have d:=H_ a;clear a;go_enter Tryz.func82,Tryz.ntmps82;go_wp2;go_ret;exact ⟨c.out _ (by rw [<-d.out];rfl),((Fr.refl No w).alloc _).alloc _⟩
 have A:(i.toList==p.toList)=false:=by simpa using h1
 clear h1;rw [A] at a;have d:=H_ a;clear a;go_enter Tryz.func82,Tryz.ntmps82;go_wp2;go_ret;exact ⟨c.out _ (by rw [<-d.out];rfl),((Fr.refl No w).alloc _).alloc _⟩
set_option maxHeartbeats 4000000 in
theorem zfk (w:World) (v:Value) (L:List Kv) (hv:SlR w 6 kvC v L) (hl:L.length<=1099511627) (key:ByteArray) :
 Calls Tryz.prog 72 #[v,.string key] w fun e w'=>e=.returned (kvV ((hasL L key).getD kv0))/\Fr No w w':=by
 obtain ⟨va,N,rfl,h1,h2,C⟩:=hv.shape;have Q:=H_ hv;have HA:=H_ C;have k:=zad w (Obj.cells #[.string ByteArray.empty,.string ByteArray.empty,.int .i64 0,.int .i64 0,.int .i64 0,.int .i64 0] 99) _ rfl;have A:=H_ k;have W:Hid (kvV kv0=.agg #[.string ByteArray.empty,.string ByteArray.empty,.int .i64 0,.int .i64 0,.int .i64 0,.int .i64 0]):=H_ rfl;clear hv C k;go_enter Tryz.func72,Tryz.ntmps72;go_wp2
 go_loopg [5] L.length (fun g s5 wr=>∃ i:Nat,s5=.int .i64 i/\i+g=L.length/\Hid (hasL L key=hasL (L.drop i) key)/\Hid (Fr No w wr)/\Hid (wr.heap[w.heap.size]?=some (.cells #[.string ByteArray.empty,.string ByteArray.empty,.int .i64 0,.int .i64 0,.int .i64 0,.int .i64 0] 99 (0,0))))
 case atStart=>exact ⟨0,rfl,by simp,H_ rfl,H_ ((Fr.refl No w).alloc _),A⟩
 case round =>
  obtain ⟨i,rfl,hi,s,z,c⟩:=hrel;have lb:=zaa c.out;have bf:∀ j,wr.frozen? ⟨w.heap.size,j,none⟩=false:=fun j=>by simp [World.frozen?,c.out]
  have Y:wr.cell? ⟨w.heap.size,0,none⟩=some (.string ByteArray.empty):=(by simp [World.cell?,c.out]);have b1:wr.cell? ⟨w.heap.size,1,none⟩=some (.string ByteArray.empty):=(by simp [World.cell?,c.out]);have b2:wr.cell? ⟨w.heap.size,2,none⟩=some (.int .i64 0):=(by simp [World.cell?,c.out]);have b3:wr.cell? ⟨w.heap.size,3,none⟩=some (.int .i64 0):=(by simp [World.cell?,c.out]);have Z:wr.cell? ⟨w.heap.size,4,none⟩=some (.int .i64 0):=(by simp [World.cell?,c.out]);have b5:wr.cell? ⟨w.heap.size,5,none⟩=some (.int .i64 0):=(by simp [World.cell?,c.out])
  have f:∀ (y:Kv),Fr No w ((((((wr.setCell ⟨w.heap.size,0,none⟩ (.string y.key)).setCell ⟨w.heap.size,1,none⟩ (.string y.value)).setCell ⟨w.heap.size,2,none⟩ (.int .i64 y.create)).setCell ⟨w.heap.size,3,none⟩ (.int .i64 y.mod)).setCell ⟨w.heap.size,4,none⟩ (.int .i64 y.version)).setCell ⟨w.heap.size,5,none⟩ (.int .i64 y.lease)):=fun y =>
   (((((z.out.setCell (p:=⟨w.heap.size,0,none⟩) (.inr (Nat.le_refl _)) _).setCell (p:=⟨w.heap.size,1,none⟩) (.inr (Nat.le_refl _)) _).setCell (p:=⟨w.heap.size,2,none⟩) (.inr (Nat.le_refl _)) _).setCell (p:=⟨w.heap.size,3,none⟩) (.inr (Nat.le_refl _)) _).setCell (p:=⟨w.heap.size,4,none⟩) (.inr (Nat.le_refl _)) _).setCell (p:=⟨w.heap.size,5,none⟩) (.inr (Nat.le_refl _)) _
  have l:∀ (y:Kv),((((((wr.setCell ⟨w.heap.size,0,none⟩ (.string y.key)).setCell ⟨w.heap.size,1,none⟩ (.string y.value)).setCell ⟨w.heap.size,2,none⟩ (.int .i64 y.create)).setCell ⟨w.heap.size,3,none⟩ (.int .i64 y.mod)).setCell ⟨w.heap.size,4,none⟩ (.int .i64 y.version)).setCell ⟨w.heap.size,5,none⟩ (.int .i64 y.lease)).heap[w.heap.size]?=some (.cells #[.string y.key,.string y.value,.int .i64 y.create,.int .i64 y.mod,.int .i64 y.version,.int .i64 y.lease] 99 (0,0)):=fun y=>by
   have z1:=zab c.out 0 (.string y.key);have X:=zab z1 1 (.string y.value);have R:=zab X 2 (.int .i64 y.create);have V:=zab R 3 (.int .i64 y.mod);have U:=zab V 4 (.int .i64 y.version);have T:=zab U 5 (.int .i64 y.lease);simpa using T
  have r:=H_ f;have o:=H_ l;clear f l
  cases gk with
  | zero =>
    have t:¬ (i:Int)<(L.length:Int):=(by omega);have m:(hasL L key).getD kv0=kv0:=(by rw [s.out,List.drop_of_length_le (by omega)];rfl);have q:=H_ m;clear m;go_wp2;rw [q.out];exact bodyPost_ret (results_cell_row rfl _ _ w.heap.size 99 _ (0,0) _ rfl (o.out kv0) Tryz.underlying99 rfl (by kernel_rfl)) rfl ⟨rfl,r.out kv0⟩
  | succ g =>
    have t:(i:Int)<(L.length:Int):=(by omega);obtain ⟨x,d⟩:∃ x,L[i]?=some x:=⟨_,List.getElem?_eq_getElem (by omega)⟩;obtain ⟨ga,oa,rfl⟩:=HA.out (by omega)
    have u:L.drop i=x :: L.drop (i+1):=by
     obtain ⟨i1,S⟩:=List.getElem?_eq_some_iff.1 d;rw [<-S];exact List.drop_eq_getElem_cons i1
    have b:=s.out;rw [u] at b;unfold hasL at b;rw [List.find?_cons] at b;have a:=Q.out.fr0 z.out;have B:=a.cell0 zae i d rfl;have K:=a.cell zae i 1 d rfl;have O:=a.cell zae i 2 d rfl;have D:=a.cell zae i 3 d rfl;have P:=a.cell zae i 4 d rfl;have F:=a.cell zae i 5 d rfl;have lf:=World.block_lt_of_cell? _ _ B
    cases hk:keq x.key key with
    | true =>
      rw [hk] at b;dsimp only at b;have m:(hasL L key).getD kv0=x:=(by unfold hasL;rw [b];rfl);have q:=H_ m;have n:(x.key.toList==key.toList)=true:=hk;clear m b d a u hk s;obtain ⟨H,E,I,J,M,G⟩:=x;dsimp only at B K O D P F n;go_wp2;rw [q.out];exact bodyPost_ret (results_cell_row rfl _ _ w.heap.size 99 _ (0,0) _ rfl (o.out ⟨H,E,I,J,M,G⟩) Tryz.underlying99 rfl (by kernel_rfl)) rfl ⟨rfl,r.out ⟨H,E,I,J,M,G⟩⟩
    | false =>
      rw [hk] at b;dsimp only at b;have q:Hid (hasL L key=hasL (L.drop (i+1)) key):=H_ (by unfold hasL;exact b);have n:(x.key.toList==key.toList)=false:=hk;clear b d a u hk s Y b1 b2 b3 Z b5 bf K O D P F;generalize x.key=xk at *;go_wp2;go_roundg g
      case rel=>exact ⟨i+1,by go_num,by omega,q,z,c⟩
      case measure=>omega
end Go.Proofs.YthljnnjpmdgkoaaGreat