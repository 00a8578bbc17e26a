/- Own lemmas. -/
import Derived.Test.YtdgkdfmfoonbpaaGreatQ31
import Derived.StringKeys
import Derived.Maps.Keyed
import Derived.Deep.CutBlock
namespace Go.Proofs.YtdgkdfmfoonbpaaGreat
open Go Go.Proofs Go.RowKit
structure KeysOk (D:Doc):Prop where
 kvs:∀ k∈D.kvs,keyE k.key=0
 evs:∀ e∈D.events,keyE e.kv.key=0
theorem KeysOk.at {D:Doc} (h:KeysOk D) (hs:KSorted D.kvs) {r:Int} {y:Kv} (hy:y∈D.at r):keyE y.key=0:=by
 rcases Doc.mem_at hs hy with a | ⟨e,a,_,rfl⟩
 · exact h.kvs y a
 exact h.evs e a
theorem KeysOk.cut {D:Doc} (h:KeysOk D) (hs:KSorted D.kvs) (R:Int):KeysOk (D.cut R) :=
 ⟨fun _k hk=>h.at hs hk,fun e he=>h.evs e (gF_ he).1⟩
theorem KeysOk.adds {D:Doc} (h:KeysOk D) {E:List Ev} (hE:∀ e∈E,keyE e.kv.key=0):KeysOk (D.adds E):=by
 obtain ⟨a,b,c⟩:=Doc.adds_parts D E;refine ⟨by rw [b];exact h.kvs,fun e d=>?_⟩;rw [c] at d;rcases gA_ d with d | d
 · exact h.evs e d
 exact hE e d
theorem zyk {o:Opr} (h:oneE o=0) (hk:o.kind=1):keyE o.rg.key=0:=by
 unfold oneE at h;rw [if_neg (by rw [hk];decide),if_neg (by rw [hk];decide),if_pos hk] at h
 split at h
 · rename_i hn;exact absurd h hn
 rename_i hn;exact Classical.not_not.1 hn
theorem RunOk.ks {c n:Nat} {D:Doc} {P:List Opr} {S:St} {E:List Ev} (h:RunOk c n D P S E):KSorted D.kvs:=by
 have:=h.cpl.ks
 rwa [(Doc.adds_parts D E).2.1] at this
theorem zwk {c n:Nat} {D:Doc} {P:List Opr} {r:Run} (h:RunOk c n D P r.S r.E) (hD:KeysOk D) (hmk:D.mark<=D.rev) (o:Opr) (ho:oneE o=0) (hE:∀ e∈r.E,keyE e.kv.key=0) :
 ∀ e∈(stepR (D.rev+1) r o).E,keyE e.kv.key=0:=by
 have b:=h.ks;unfold stepR;by_cases h1:o.kind=1
 · rw [if_pos h1]
   intro e a;rcases gA_ a with a | a
   · exact hE e a
   rw [gI_ a]
   exact zyk ho h1
 rw [if_neg h1]
 by_cases h2:o.kind=2
 · rw [if_pos h2]
   intro e a;dsimp only at a;rw [zpo] at a;rcases gA_ a with a | a
   · exact hE e a
   obtain ⟨x,d,rfl⟩:=List.mem_map.1 a
   rw [h.between hmk] at d;exact KeysOk.at (y:=x) (hD.adds hE) (by rw [(Doc.adds_parts D r.E).2.1];exact b) (gF_ d).1
 rw [if_neg h2]
 split <;> exact hE
theorem Good.keys_does {k:Nat} {S:St} {D:Doc} (h:Good k S D) (hk:k<=70) {q:CalQ} (hq:fewCal q=true) (hD:KeysOk D):KeysOk (doD S D q):=by
 obtain ⟨l,v,m,w,z⟩:=zdx hq;have j:=h.cpl.m0;unfold doD;by_cases h4:kindN q.1.kind=4
 · rw [if_pos h4];exact hD
 rw [if_neg h4]
 by_cases h5:kindN q.1.kind=5
 · rw [if_pos h5]
   split
   · exact hD.cut h.cpl.ks _
   exact hD
 rw [if_neg h5]
 by_cases h6:kindN q.1.kind=6
 · rw [if_pos h6];exact hD
 rw [if_neg h6]
 by_cases h7:kindN q.1.kind=7
 · rw [if_pos h7]
   refine hD.adds ?_
   have key:∀ i≤ q.2.2.length,∀ e∈(dropTo (D.rev+1) S q.2.2 i).2,keyE e.kv.key=0:=by
    intro i
    induction i with
    | zero=>intro _ e b;simp [dropTo] at b
    | succ i ih =>
      intro n;obtain ⟨x,s⟩:∃ x,q.2.2[i]?=some x:=⟨_,gG_ (by omega)⟩;obtain ⟨a,_⟩:=h.drops hk q.2.2 m i (by omega);have c:=ih (by omega);rw [zeq _ _ _ s];unfold dropR
      split
      · rename_i hlv
        intro e b;rcases gA_ b with b | b
        · exact c e b
        rw [gI_ b]
        show keyE x=0
        have r:=a.cpl.lives x (D.rev+1) (by rw [(Doc.adds_parts D _).1];omega)
        cases hh:hasL ((D.adds (dropTo (D.rev+1) S q.2.2 i).2).at (D.rev+1)) x with
        | none=>rw [r,hh] at hlv;cases hlv
        | some y =>
          have d:KSorted (D.adds (dropTo (D.rev+1) S q.2.2 i).2).kvs:=(by rw [(Doc.adds_parts D _).2.1];exact h.cpl.ks);obtain ⟨t,u⟩:=(zbo (Doc.at_sorted d _) x y).1 hh;rw [<-u];exact (hD.adds c).at d t
      exact c
   have:=key q.2.2.length (Nat.le_refl _);have b:dropTo (D.rev+1) S q.2.2 q.2.2.length=q.2.2.foldl (dropR (D.rev+1)) (S,[]):=(by unfold dropTo;rw [List.take_length]);rw [b] at this;exact this
 rw [if_neg h7]
 by_cases ha:applyE S q.2.1=0
 · rw [if_pos ha]
   refine hD.adds ?_;obtain ⟨_,f,_⟩:=zdg (zbf ha).1
   have key:∀ i≤ q.2.1.length,∀ e∈(runR (D.rev+1) ⟨S,[],[]⟩ (q.2.1.take i)).E,keyE e.kv.key=0:=by
    intro i
    induction i with
    | zero=>intro _ e b;simp [runR] at b
    | succ i ih =>
      intro n;obtain ⟨o,g⟩:∃ o,q.2.1[i]?=some o:=⟨_,gG_ (by omega)⟩;obtain ⟨⟨a,_⟩,_⟩:=h.runs hk (zbf ha).1 (fun o g=>by have:=(l o g).1;omega) i (by omega);rw [zii _ _ _ g];exact zwk a hD j.2 o (f o (gM_ g)) (ih (by omega))
   have:=key q.2.1.length (Nat.le_refl _);rw [List.take_length] at this;exact this
 rw [if_neg ha];exact hD
theorem ziv {k:ByteArray} (h:keyE k=0):inB k ⟨#[1]⟩ ⟨#[0]⟩=true/\k.size<=64:=by
 have f:¬ (runes k<1\/0<=firstIdx k 0)/\¬ 64<k.size:=by
  unfold keyE at h
  split at h
  · cases h
  rename_i d
  split at h
  · cases h
  rename_i b;exact ⟨d,b⟩
 refine ⟨?_,by omega⟩
 have e:k.data.toList.any (· == 0)=false:=by
  rw [<-Go.firstIdx_nonneg];simp only [decide_eq_false_iff_not];exact fun h=>f.1 (.inr h)
 have i:¬ runes k<1:=fun h=>f.1 (.inl h)
 have c:klt k ⟨#[1]⟩=false:=by
  rw [Bool.eq_false_iff];intro c;have d:=zdo.1 c
  cases hl:k.data.toList with
  | nil =>
    refine i ?_
    have:k.size=0:=by
     have:=congrArg List.length hl;simpa using this
    unfold runes;rw [this]
    show (0:Int)<1
    decide
  | cons a t =>
    rw [hl] at d e;simp only [List.any_cons,Bool.or_eq_false_iff,beq_eq_false_iff_ne] at e;have b:a :: t < [1]:=d;rw [List.cons_lt_cons_iff] at b;rcases b with b | ⟨_,b⟩
    · refine e.1 ?_
      rw [UInt8.lt_iff_toNat_lt] at b
      have g:a.toNat=0:=by
       have:(1:UInt8).toNat=1:=rfl;omega
      exact UInt8.toNat_inj.1 g
    exact absurd b (List.not_lt_nil _)
 unfold inB;rw [if_neg (by rw [Lib.toList_data];simp),if_pos (by rw [Lib.toList_data];rfl)];have:Op.bytesLess k.toList (⟨#[1]⟩:ByteArray).toList=klt k ⟨#[1]⟩:=rfl;rw [this,c]
 rfl
theorem zmk {k:Nat} {S:St} {D:Doc} (h:Good k S D):zap S S.T S.mark=D.kvs:=by
 have c:=h.cpl.mark;have a:=h.cpl.between h.srt ⟨#[]⟩ ⟨#[]⟩ (r:=D.mark) (Int.le_refl _);rw [zgz] at a;rw [c,a]
 have b:(D.at D.mark).filter (fun y=>rgB ⟨#[]⟩ ⟨#[]⟩ y.key)=D.at D.mark:=by
  rw [List.filter_eq_self];intro y _;unfold rgB;rw [znl];simp [Lib.toList_data]
 rw [b]
 unfold Doc.at;have:(D.events.filter fun e=>decide (D.mark<e.kv.mod)&&decide (e.kv.mod<=D.mark)) = []:=List.filter_eq_nil_iff.2 fun e _=>by simp <;> omega
 rw [this]
 rfl
def revAt (D:Doc) (i:Nat):Int:=if i=0 then max D.mark 1-1 else match D.events[i-1]? with
 | some p=>p.kv.mod
 | none=>0
def foldTo (D:Doc) (i:Nat):List Kv:=((D.events.take i).filter fun y=>decide (D.mark<y.kv.mod)).foldl doneL D.kvs
theorem zco {l:List Ev} (h:ESorted l) {i j:Nat} {a b:Ev} (hi:l[i]?=some a) (hj:l[j]?=some b) (hij:i<=j):a.kv.mod<=b.kv.mod:=by
 obtain ⟨f,d⟩:=gS_ hi;obtain ⟨g,c⟩:=gS_ hj;rcases Nat.lt_or_eq_of_le hij with e | e
 · have:=List.pairwise_iff_getElem.1 h i j f g e
   rw [d,c] at this;exact this
 subst e
 rw [d] at c;rw [c];exact Int.le_refl _
theorem DocOk.chain {n:Nat} {D:Doc} (h:DocOk n D) (hm0:0<=D.mark) {i:Nat} {e:Ev} (he:D.events[i]?=some e):e.kv.mod=revAt D i\/e.kv.mod=revAt D i+1:=by
 have q:=h.lo e (gM_ he);unfold revAt;by_cases hi:i=0
 · rw [if_pos hi]
   subst hi
   right
   have m:max D.mark 1<=e.kv.mod:=(by omega);rcases Int.lt_or_le (max D.mark 1) e.kv.mod with d | c
   · exfalso
     obtain ⟨y,f,g⟩:=h.full (max D.mark 1) (by omega) (by omega) (by omega);obtain ⟨j,a⟩:=List.mem_iff_getElem?.1 f;have:=zco h.es he a (Nat.zero_le _);omega
   omega
 rw [if_neg hi]
 have o:=(gS_ he).1;obtain ⟨p,b⟩:∃ p,D.events[i-1]?=some p:=⟨_,gG_ (by omega)⟩;rw [b];dsimp only;have l:=h.lo p (gM_ b);have r:=zco h.es b he (by omega);rcases Int.lt_or_le (p.kv.mod+1) e.kv.mod with d | c
 · exfalso
   obtain ⟨y,f,g⟩:=h.full (p.kv.mod+1) (by omega) (by omega) (by omega);obtain ⟨j,a⟩:=List.mem_iff_getElem?.1 f;rcases Nat.lt_or_ge j i with k | k
   · have:=zco h.es a b (by omega);omega
   have:=zco h.es he a k;omega
 omega
theorem zjz {D:Doc} {i:Nat} {e:Ev} (he:D.events[i]?=some e):revAt D (i+1)=e.kv.mod:=by
 unfold revAt;rw [if_neg (by omega),Nat.add_sub_cancel,he]
theorem DocOk.revAt_last {n:Nat} {D:Doc} (h:DocOk n D) (hm0:0<=D.mark) (hm1:D.mark<=D.rev):revAt D D.events.length=D.rev:=by
 rcases Nat.eq_zero_or_pos D.events.length with c | c
 · have l:D.rev=0:=by
    rcases Int.lt_or_le D.rev 1 with a | a
    · omega
    obtain ⟨y,b,_⟩:=h.full D.rev a hm1 (Int.le_refl _)
    rw [gN_ c] at b;cases b
   unfold revAt;rw [if_pos c];omega
 obtain ⟨e,d⟩:∃ e,D.events[D.events.length-1]?=some e:=⟨_,gG_ (by omega)⟩
 have a:=zjz d;rw [Nat.sub_add_cancel (by omega)] at a;rw [a];have i:=h.lo e (gM_ d);obtain ⟨y,b,k⟩:=h.full D.rev (by omega) hm1 (Int.le_refl _);obtain ⟨j,f⟩:=List.mem_iff_getElem?.1 b;have g:=(gS_ f).1;have:=zco h.es f d (by omega);omega
theorem zli {D:Doc} (h:KSorted D.kvs) (i:Nat):KSorted (foldTo D i):=zbt h _
theorem zpq (D:Doc):foldTo D 0=D.kvs:=by simp [foldTo]
theorem zpr {D:Doc} {i:Nat} {e:Ev} (he:D.events[i]?=some e) (hm:¬ D.mark<e.kv.mod):foldTo D (i+1)=foldTo D i:=by
 unfold foldTo;rw [gK_,he,List.filter_append];simp [hm]
theorem zps {D:Doc} {i:Nat} {e:Ev} (he:D.events[i]?=some e) (hm:D.mark<e.kv.mod):foldTo D (i+1)=doneL (foldTo D i) e:=by
 unfold foldTo;rw [gK_,he,List.filter_append,List.foldl_append];simp [hm]
theorem DocOk.prev_at {n:Nat} {D:Doc} (h:DocOk n D) {i:Nat} {e:Ev} (he:D.events[i]?=some e) (hm:D.mark<e.kv.mod):e.prev=(hasL (foldTo D i) e.kv.key).getD kv0:=by
 obtain ⟨a,b⟩:=gS_ he;refine h.prev (D.events.take i) e (D.events.drop (i+1)) ?_ hm;have:=List.take_append_drop i D.events;rw [List.drop_eq_getElem_cons a,b] at this;exact this.symm
theorem DocOk.uniq_at {n:Nat} {D:Doc} (h:DocOk n D) {i j:Nat} {a b:Ev} (hi:D.events[i]?=some a) (hj:D.events[j]?=some b) (hij:i<j) (he:a.kv.mod=b.kv.mod):a.kv.key≠b.kv.key:=by
 obtain ⟨c,d⟩:=gS_ hi;obtain ⟨e,f⟩:=gS_ hj;have:=List.pairwise_iff_getElem.1 h.uniq i j c e hij;rw [d,f] at this;exact this he
def sameB (x y:Kv):Bool:=keq x.key y.key&&(keq x.value y.value&&(x.create==y.create&&(x.mod==y.mod&&(x.version==y.version&&x.lease==y.lease))))
theorem zlc (a:ByteArray):keq a a=true:=zau.2 rfl
theorem zvj {x y:Kv}:sameB x y=true↔x=y:=by
 obtain ⟨a,b,c,d,e,f⟩:=x;obtain ⟨g,i,j,k,l,m⟩:=y;unfold sameB;simp only [Bool.and_eq_true,beq_iff_eq,zau,Kv.mk.injEq]
theorem zfu (x:Kv):sameB x x=true:=zvj.2 rfl
theorem zxa (l:List Kv) (x:Ev):(doneL l x).length<=l.length+1:=by
 induction l with
 | nil=>unfold doneL;split <;> simp
 | cons k l ih =>
   unfold doneL
   split
   · simp only [List.length_cons];omega
   simp only [List.length_append,List.length_cons]
   split <;> split <;> simp <;> omega
def mayB (x:Kv) (rev:Int):Bool :=
 if keyE x.key≠0\/1024<x.value.size\/x.lease<0\/x.create<1\/x.mod<x.create\/rev<x.mod then false
 else if x.mod=x.create then x.version==1 else decide (2<=x.version)&&decide (x.version<=x.mod-x.create+1)
def madeB (x:Ev) (was:Kv) (rev:Int):Bool :=
 if keyE x.kv.key≠0\/x.kv.mod≠rev\/sameB x.prev was=false then false
 else if x.kind=2 then decide (0<was.version)&&sameB x.kv ⟨x.kv.key,ByteArray.empty,0,rev,0,0⟩
 else (x.kind==1)&&((x.kv.create==if was.version=0 then rev else was.create)&&((x.kv.version==wrap64 (was.version+1))&&(decide (x.kv.value.size<=1024)&&decide (0<=x.kv.lease))))
def zem (x:Ev) (l:List Kv) (mark:Int):Bool :=
 if (sameB x.prev kv0=false/\(keq x.prev.key x.kv.key=false\/mayB x.prev (mark-1)=false))\/madeB x x.prev mark=false then false
 else if x.kind=1 then sameB ((hasL l x.kv.key).getD kv0) x.kv else ((hasL l x.kv.key).getD kv0).version==0
structure KvOk (D:Doc) (i:Nat) (k:Kv):Prop where
 may:mayB k D.mark=true
 up:∀ k',0<i->D.kvs[i-1]?=some k'->klt k'.key k.key=true
structure EvOk (D:Doc) (i:Nat) (x:Ev):Prop where
 lo:max D.mark 1<=x.kv.mod
 ge:revAt D i<=x.kv.mod
 le:x.kv.mod<=revAt D i+1
 one:∀ j y,j<i->D.events[j]?=some y->y.kv.mod=x.kv.mod->keq y.kv.key x.kv.key=false
 mkd:x.kv.mod=D.mark->zem x D.kvs D.mark=true
 md:x.kv.mod≠D.mark->madeB x ((hasL (foldTo D i) x.kv.key).getD kv0) x.kv.mod=true
def freshK (D:Doc) (i:Nat):Nat:=((D.kvs.take i).filter fun k=>k.mod==D.mark).length
def freshE (D:Doc) (i:Nat):Nat:=((D.events.take i).filter fun x=>x.kv.mod==D.mark&&x.kind==1).length
structure zbk (D:Doc):Prop where
 m0:0<=D.mark
 mr:D.mark<=D.rev
 top:D.rev<=1099511627776
 kvs:∀ i k,D.kvs[i]?=some k->KvOk D i k
 evs:∀ i x,D.events[i]?=some x->EvOk D i x
 last:revAt D D.events.length=D.rev
 fresh:freshK D D.kvs.length=freshE D D.events.length
theorem zen (D:Doc) {i:Nat} {k:Kv} (h:D.kvs[i]?=some k):freshK D (i+1)=freshK D i+(if k.mod==D.mark then 1 else 0):=by
 unfold freshK;rw [gK_,h,List.filter_append,gL_];simp only [Option.toList_some,List.filter_cons,List.filter_nil]
 split <;> simp
theorem zpp (D:Doc) {i:Nat} {x:Ev} (h:D.events[i]?=some x):freshE D (i+1)=freshE D i+(if x.kv.mod==D.mark&&x.kind==1 then 1 else 0):=by
 unfold freshE;rw [gK_,h,List.filter_append,gL_];simp only [Option.toList_some,List.filter_cons,List.filter_nil]
 split <;> simp
theorem zwu (D:Doc) (i:Nat):freshK D i<=i:=nT_ (List.length_filter_le _ _) (List.length_take_le _ _)
theorem zwv (D:Doc) (i:Nat):freshE D i<=i:=nT_ (List.length_filter_le _ _) (List.length_take_le _ _)
structure DocSm (D:Doc):Prop where
 kvs:∀ k∈D.kvs,k.key.size<=1099511627776
 evs:∀ x∈D.events,x.kv.key.size<=1099511627776/\x.prev.key.size<=1099511627776
 len:D.kvs.length+D.events.length<=100000000
theorem zkm {l:List Kv} (h:∀ i k k',0<i->l[i]?=some k->l[i-1]?=some k'->klt k'.key k.key=true):KSorted l:=by
 induction l with
 | nil=>exact List.Pairwise.nil
 | cons a l ih =>
   have d:=ih fun i k k' hi hk hk'=>by
    refine h (i+1) k k' (by omega) (by simpa using hk) ?_;rw [show i+1-1=(i-1)+1 by omega];simpa using hk'
   refine List.pairwise_cons.2 ⟨fun y e=>?_,d⟩
   cases l with
   | nil=>cases e
   | cons b l =>
     have c:klt a.key b.key=true:=h 1 b a (by omega) rfl rfl;rcases List.mem_cons.1 e with rfl | e
     · exact c
     exact zca c ((gP_ d).1 y e)
theorem ziz:∀ (l:List Ev) (k:List Kv),(l.foldl doneL k).length<=k.length+l.length:=by
 intro l
 induction l with
 | nil=>intro k;exact Nat.le_refl _
 | cons e l ih=>intro k;rw [List.foldl_cons];have:=ih (doneL k e);have:=zxa k e;simp only [List.length_cons];omega
theorem ztf (D:Doc) (i:Nat):(foldTo D i).length<=D.kvs.length+i:=by
 unfold foldTo;have:=ziz ((D.events.take i).filter fun y=>decide (D.mark<y.kv.mod)) D.kvs;have a:=List.length_filter_le (fun y:Ev=>decide (D.mark<y.kv.mod)) (D.events.take i);have b:(D.events.take i).length<=i:=List.length_take_le _ _;omega
def MayP (x:Kv) (rev:Int):Prop:=keyE x.key=0/\x.value.size<=1024/\0<=x.lease/\1<=x.create/\x.create<=x.mod/\x.mod<=rev/\(x.mod=x.create->x.version=1)/\(x.mod≠x.create->2<=x.version/\x.version<=x.mod-x.create+1)
theorem zrl {x:Kv} {rev:Int}:mayB x rev=true↔MayP x rev:=by
 unfold mayB MayP;by_cases h:keyE x.key≠0\/1024<x.value.size\/x.lease<0\/x.create<1\/x.mod<x.create\/rev<x.mod
 · rw [if_pos h]
   constructor
   · intro e;cases e
   rintro ⟨a,b,c,d,e,f,_⟩
   rcases h with h | h | h | h | h | h
   · exact absurd a h
   all_goals omega
 rw [if_neg h]
 simp only [not_or,Int.not_lt,Nat.not_lt,Decidable.not_not] at h;obtain ⟨a,b,c,d,e,f⟩:=h;by_cases hm:x.mod=x.create
 · rw [if_pos hm,beq_iff_eq]
   exact ⟨fun h=>⟨a,b,c,d,e,f,fun _=>h,fun hn=>absurd hm hn⟩,fun h=>h.2.2.2.2.2.2.1 hm⟩
 rw [if_neg hm,Bool.and_eq_true,decide_eq_true_eq,decide_eq_true_eq]
 exact ⟨fun h=>⟨a,b,c,d,e,f,fun hn=>absurd hn hm,fun _=>h⟩,fun h=>h.2.2.2.2.2.2.2 hm⟩
theorem MayP.mono {x:Kv} {r r':Int} (h:MayP x r) (hr:r<=r'):MayP x r':=by
 obtain ⟨a,b,c,d,e,f,g⟩:=h;exact ⟨a,b,c,d,e,by omega,g⟩
theorem MayP.ver {x:Kv} {r:Int} (h:MayP x r):1<=x.version/\x.mod<=r/\1<=x.mod:=by
 obtain ⟨a,b,c,d,e,f,g,i⟩:=h;by_cases hm:x.mod=x.create
 · have:=g hm;omega
 have:=i hm;omega
def EvW (e:Ev):Prop :=
 (e.kind=1/\e.kv.value.size<=1024/\0<=e.kv.lease/\e.kv.create=(if e.prev.version=0 then e.kv.mod else e.prev.create)/\e.kv.version=e.prev.version+1) ∨
 (e.kind=2/\0<e.prev.version/\e.kv=⟨e.kv.key,ByteArray.empty,0,e.kv.mod,0,0⟩)
def PrevW (e:Ev):Prop:=e.prev=kv0\/(e.prev.key=e.kv.key/\MayP e.prev (e.kv.mod-1))
theorem zwf {e:Ev} (h:EvW e) (h1:e.kind=1) (hk:keyE e.kv.key=0) (hm:1<=e.kv.mod) (hp:PrevW e):MayP e.kv e.kv.mod:=by
 rcases h with ⟨_,a,b,c,d⟩ | ⟨f,_⟩
 · rcases hp with hp | ⟨_,hp⟩
   · rw [hp] at c d
     have g:e.kv.create=e.kv.mod:=c;have i:e.kv.version=1:=d;exact ⟨hk,a,b,by omega,by omega,Int.le_refl _,fun _=>i,fun hn=>absurd g.symm hn⟩
   have l:=hp.ver
   obtain ⟨m,n,o,q,r,s,j,k⟩:=hp;rw [if_neg (by omega)] at c;refine ⟨hk,a,b,by omega,by omega,Int.le_refl _,fun hn=>by omega,fun _=>⟨by omega,?_⟩⟩;by_cases hq:e.prev.mod=e.prev.create
   · have:=j hq;omega
   have:=k hq;omega
 rw [h1] at f;cases f
theorem zjr {l:List Kv} (hs:KSorted l) (A:List Ev) (e:Ev) (B:List Ev) (hB:∀ y∈B,y.kv.key≠e.kv.key):hasL ((A++e :: B).foldl doneL l) e.kv.key=if e.kind=1 then some e.kv else none:=by
 rw [List.foldl_append,List.foldl_cons];have a:KSorted (doneL (A.foldl doneL l) e):=zcw (zbt hs A) e
 have b:hasL (doneL (A.foldl doneL l) e) e.kv.key=if e.kind=1 then some e.kv else none:=by
  rw [zda (zbt hs A),if_pos (zau.2 rfl)]
 generalize doneL (A.foldl doneL l) e=m at *;rw [<-b];clear b
 induction B generalizing m with
 | nil=>rfl
 | cons y B ih =>
   rw [List.foldl_cons,ih (fun z hz=>hB z (List.mem_cons_of_mem _ hz)) _ (zcw a y),zda a,if_neg];intro c;exact hB y List.mem_cons_self (zau.1 c).symm
set_option maxRecDepth 100000
set_option maxHeartbeats 16000000
theorem zch (w:World) (x y:Kv):Calls Tryz.prog 51 #[kvV x,kvV y] w fun e w'=>e=.returned (.bool (sameB x y))/\Fr No w w':=by
 obtain ⟨f,g,i,j,k,l⟩:=x;obtain ⟨m,n,o,q,r,s⟩:=y;have C:∀ b,b=sameB ⟨f,g,i,j,k,l⟩ ⟨m,n,o,q,r,s⟩->Ending.returned (.bool b)=.returned (.bool (sameB ⟨f,g,i,j,k,l⟩ ⟨m,n,o,q,r,s⟩)):=fun b h=>by rw [h]
 have c:=H_ C;clear C;unfold kvV;dsimp only;generalize a:sameB ⟨f,g,i,j,k,l⟩ ⟨m,n,o,q,r,s⟩=D at *;unfold sameB keq at a;dsimp only at a;by_cases h1:(f.toList==m.toList)=true
 · by_cases h2:(g.toList==n.toList)=true
   · by_cases h3:(i==o)=true
     · by_cases h4:(j==q)=true
       · by_cases h5:(k==r)=true
         · by_cases h6:(l==s)=true
           · rw [h1,h2,h3,h4,h5,h6] at a
             have d:=H_ a;clear a;go_enter Tryz.func51,Tryz.ntmps51;go_wp2;go_ret;exact ⟨c.out _ (by rw [<-d.out];rfl),((Fr.refl No w).alloc _).alloc _⟩
           have B:(l==s)=false:=by simpa using h6
           clear h6;rw [h1,h2,h3,h4,h5,B] at a;have d:=H_ a;clear a;go_enter Tryz.func51,Tryz.ntmps51;go_wp2;go_ret;exact ⟨c.out _ (by rw [<-d.out];rfl),((Fr.refl No w).alloc _).alloc _⟩
         have A:(k==r)=false:=by simpa using h5
         clear h5;rw [h1,h2,h3,h4,A] at a;have d:=H_ a;clear a;go_enter Tryz.func51,Tryz.ntmps51;go_wp2;go_ret;exact ⟨c.out _ (by rw [<-d.out];rfl),((Fr.refl No w).alloc _).alloc _⟩
       have z:(j==q)=false:=by simpa using h4
       clear h4;rw [h1,h2,h3,z] at a;have d:=H_ a;clear a;go_enter Tryz.func51,Tryz.ntmps51;go_wp2;go_ret;exact ⟨c.out _ (by rw [<-d.out];rfl),((Fr.refl No w).alloc _).alloc _⟩
     have v:(i==o)=false:=by simpa using h3
     clear h3;rw [h1,h2,v] at a;have d:=H_ a;clear a;go_enter Tryz.func51,Tryz.ntmps51;go_wp2;go_ret;exact ⟨c.out _ (by rw [<-d.out];rfl),((Fr.refl No w).alloc _).alloc _⟩
   have u:(g.toList==n.toList)=false:=by simpa using h2
   clear h2;rw [h1,u] at a;have d:=H_ a;clear a;go_enter Tryz.func51,Tryz.ntmps51;go_wp2;go_ret;exact ⟨c.out _ (by rw [<-d.out];rfl),((Fr.refl No w).alloc _).alloc _⟩
 have t:(f.toList==m.toList)=false:=by simpa using h1
 clear h1;rw [t] at a;have d:=H_ a;clear a;go_enter Tryz.func51,Tryz.ntmps51;go_wp2;go_ret;exact ⟨c.out _ (by rw [<-d.out];rfl),((Fr.refl No w).alloc _).alloc _⟩
theorem zhg (w:World) (v:Value) (L:List Kv) (hv:SlR w 6 kvC v L) (hl:L.length<=1099511627) (key:ByteArray) :
 Calls Tryz.prog 67 #[v,.string key] w fun e w'=>e=.returned (kvV ((hasL L key).getD kv0))/\Fr No w w':=by
 obtain ⟨va,I,rfl,h1,h2,H⟩:=hv.shape;have S:=H_ hv;have Q:=H_ H;have m:=zad w (Obj.cells #[.string ByteArray.empty,.string ByteArray.empty,.int .i64 0,.int .i64 0,.int .i64 0,.int .i64 0] 70) _ rfl;have t:=H_ m;have R:Hid (kvV kv0=.agg #[.string ByteArray.empty,.string ByteArray.empty,.int .i64 0,.int .i64 0,.int .i64 0,.int .i64 0]):=H_ rfl;clear hv H m;go_enter Tryz.func67,Tryz.ntmps67;go_wp2
 go_loopg [5] L.length (fun g s5 wr=>∃ i:Nat,s5=.int .i64 i/\i+g=L.length/\Hid (hasL L key=hasL (L.drop i) key)/\Hid (Fr No w wr)/\Hid (wr.heap[w.heap.size]?=some (.cells #[.string ByteArray.empty,.string ByteArray.empty,.int .i64 0,.int .i64 0,.int .i64 0,.int .i64 0] 70 (0,0))))
 case atStart=>exact ⟨0,rfl,by simp,H_ rfl,H_ ((Fr.refl No w).alloc _),t⟩
 case round =>
  obtain ⟨i,rfl,hi,s,u,c⟩:=hrel;have lb:=zab c.out;have X:∀ j,wr.frozen? ⟨w.heap.size,j,none⟩=false:=fun j=>by simp [World.frozen?,c.out]
  have T:wr.cell? ⟨w.heap.size,0,none⟩=some (.string ByteArray.empty):=(by simp [World.cell?,c.out]);have b1:wr.cell? ⟨w.heap.size,1,none⟩=some (.string ByteArray.empty):=(by simp [World.cell?,c.out]);have b2:wr.cell? ⟨w.heap.size,2,none⟩=some (.int .i64 0):=(by simp [World.cell?,c.out]);have U:wr.cell? ⟨w.heap.size,3,none⟩=some (.int .i64 0):=(by simp [World.cell?,c.out]);have V:wr.cell? ⟨w.heap.size,4,none⟩=some (.int .i64 0):=(by simp [World.cell?,c.out]);have W:wr.cell? ⟨w.heap.size,5,none⟩=some (.int .i64 0):=(by simp [World.cell?,c.out])
  have r:∀ (y:Kv),Fr No w ((((((wr.setCell ⟨w.heap.size,0,none⟩ (.string y.key)).setCell ⟨w.heap.size,1,none⟩ (.string y.value)).setCell ⟨w.heap.size,2,none⟩ (.int .i64 y.create)).setCell ⟨w.heap.size,3,none⟩ (.int .i64 y.mod)).setCell ⟨w.heap.size,4,none⟩ (.int .i64 y.version)).setCell ⟨w.heap.size,5,none⟩ (.int .i64 y.lease)):=fun y =>
   (((((u.out.setCell (p:=⟨w.heap.size,0,none⟩) (.inr (Nat.le_refl _)) _).setCell (p:=⟨w.heap.size,1,none⟩) (.inr (Nat.le_refl _)) _).setCell (p:=⟨w.heap.size,2,none⟩) (.inr (Nat.le_refl _)) _).setCell (p:=⟨w.heap.size,3,none⟩) (.inr (Nat.le_refl _)) _).setCell (p:=⟨w.heap.size,4,none⟩) (.inr (Nat.le_refl _)) _).setCell (p:=⟨w.heap.size,5,none⟩) (.inr (Nat.le_refl _)) _
  have n:∀ (y:Kv),((((((wr.setCell ⟨w.heap.size,0,none⟩ (.string y.key)).setCell ⟨w.heap.size,1,none⟩ (.string y.value)).setCell ⟨w.heap.size,2,none⟩ (.int .i64 y.create)).setCell ⟨w.heap.size,3,none⟩ (.int .i64 y.mod)).setCell ⟨w.heap.size,4,none⟩ (.int .i64 y.version)).setCell ⟨w.heap.size,5,none⟩ (.int .i64 y.lease)).heap[w.heap.size]?=some (.cells #[.string y.key,.string y.value,.int .i64 y.create,.int .i64 y.mod,.int .i64 y.version,.int .i64 y.lease] 70 (0,0)):=fun y=>by
   have z1:=zac c.out 0 (.string y.key);have z2:=zac z1 1 (.string y.value);have z3:=zac z2 2 (.int .i64 y.create);have z4:=zac z3 3 (.int .i64 y.mod);have z5:=zac z4 4 (.int .i64 y.version);have z6:=zac z5 5 (.int .i64 y.lease);simpa using z6
  have l:=H_ r;have f:=H_ n;clear r n
  cases gk with
  | zero =>
    have A:¬ (i:Int)<(L.length:Int):=(by omega);have q:(hasL L key).getD kv0=kv0:=(by rw [s.out,List.drop_of_length_le (by omega)];rfl);have k:=H_ q;clear q;go_wp2;rw [k.out];exact bodyPost_ret (results_cell_row rfl _ _ w.heap.size 70 _ (0,0) _ rfl (f.out kv0) Tryz.underlying70 rfl (by kernel_rfl)) rfl ⟨rfl,l.out kv0⟩
  | succ g =>
    have A:(i:Int)<(L.length:Int):=(by omega);obtain ⟨x,d⟩:∃ x,L[i]?=some x:=⟨_,gG_ (by omega)⟩;obtain ⟨ga,oa,rfl⟩:=Q.out (by omega)
    have z:L.drop i=x :: L.drop (i+1):=by
     obtain ⟨Y,Z⟩:=gS_ d;rw [<-Z];exact List.drop_eq_getElem_cons Y
    have b:=s.out;rw [z] at b;unfold hasL at b;rw [List.find?_cons] at b;have a:=S.out.fr0 u.out;have B:=a.cell0 zah i d rfl;have C:=a.cell zah i 1 d rfl;have D:=a.cell zah i 2 d rfl;have E:=a.cell zah i 3 d rfl;have F:=a.cell zah i 4 d rfl;have G:=a.cell zah i 5 d rfl;have lf:=gB_ _ _ B
    cases hk:keq x.key key with
    | true =>
      rw [hk] at b;dsimp only at b;have q:(hasL L key).getD kv0=x:=(by unfold hasL;rw [b];rfl);have k:=H_ q;have o:(x.key.toList==key.toList)=true:=hk;clear q b d a z hk s;obtain ⟨J,K,M,N,O,P⟩:=x;dsimp only at B C D E F G o;go_wp2;rw [k.out];exact bodyPost_ret (results_cell_row rfl _ _ w.heap.size 70 _ (0,0) _ rfl (f.out ⟨J,K,M,N,O,P⟩) Tryz.underlying70 rfl (by kernel_rfl)) rfl ⟨rfl,l.out ⟨J,K,M,N,O,P⟩⟩
    | false =>
      rw [hk] at b;dsimp only at b;have k:Hid (hasL L key=hasL (L.drop (i+1)) key):=H_ (by unfold hasL;exact b);have o:(x.key.toList==key.toList)=false:=hk;clear b d a z hk s T b1 b2 U V W X C D E F G;generalize x.key=xk at *;go_wp2;go_roundg g
      case rel=>exact ⟨i+1,by go_num,by omega,k,u,c⟩
      case measure=>omega
end Go.Proofs.YtdgkdfmfoonbpaaGreat