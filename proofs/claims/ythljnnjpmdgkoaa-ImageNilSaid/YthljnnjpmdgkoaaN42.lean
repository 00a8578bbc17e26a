/- Own lemmas and contracts that the claim's proof needs, laid together. The conditions stand in each. -/
import Derived.Test.YthljnnjpmdgkoaaN18
import Derived.Test.YthljnnjpmdgkoaaN24
import Derived.Test.YthljnnjpmdgkoaaN33
import Derived.Test.YthljnnjpmdgkoaaN34
import Derived.Test.YthljnnjpmdgkoaaN41
import Derived.Test.YthljnnjpmdgkoaaN35
import Derived.Test.YthljnnjpmdgkoaaN30
import Derived.Test.YthljnnjpmdgkoaaN40
import Derived.Test.YthljnnjpmdgkoaaN21
import Derived.Laws.IdiomStrings
namespace Go.Proofs.Ythljnnjpmdgkoaa
open Go Go.Proofs Go.RowKit
def docB (D:Doc):List UInt8:=stB D.rev D.mark D.kvs D.events
set_option maxRecDepth 100000
theorem zts (D:Doc):docB D≠[]:=stB_ne _ _ _ _
theorem zsj {S:St} {D:Doc} (hc:Cpl S D) (hs:Sorted S.T):zah S S.T S.mark=D.kvs:=by
 have hm:=hc.mark;have h1:=hc.between hs ⟨#[]⟩ ⟨#[]⟩ (r:=D.mark) (Int.le_refl _);rw [zfn] at h1;rw [hm,h1]
 have h2:(D.at D.mark).filter (fun y=>rgB ⟨#[]⟩ ⟨#[]⟩ y.key)=D.at D.mark:=by
  rw [List.filter_eq_self];intro y _;unfold rgB;rw [zhr];simp [Lib.toList_data]
 rw [h2]
 unfold Doc.at;have:(D.events.filter fun e=>decide (D.mark < e.kv.mod) && decide (e.kv.mod<=D.mark)) = []:=List.filter_eq_nil_iff.2 fun e _=>by simp <;> omega
 rw [this]
 rfl
theorem zll {TA:zan} (hT:TreeOk TA 1000000) {n:Nat} {S:St} {D:Doc} (hc:Cpl S D) (hs:Sorted S.T) (hr:S.rev=D.rev) (hn:n<=1099511627) (hok:StOk n S) (hN:S.T.length<=1099511627) (w:World) (s:Nat) (F:Nat->Prop) (hS:zaj TA w s S F) :
 Calls Try.prog 37 #[.pointer (some ⟨s,0,none⟩)] w fun e w'=>∃ a1 c1 a2 c2,e = .returned (stateV D.rev D.mark (.slice a1 D.kvs.length c1) (.slice a2 D.events.length c2))/\SlF w' 57 6 kvC (.slice a1 D.kvs.length c1) D.kvs/\SlF w' 73 13 evC (.slice a2 D.events.length c2) D.events/\Fr No w w'/\(∀ b,(Value.slice a1 D.kvs.length c1).ownBlock=some b->w.heap.size<=b)/\(∀ b,(Value.slice a2 D.events.length c2).ownBlock=some b->w.heap.size<=b):=by
 refine (zmz hT hn w s S F hS hok hN).mono ?_;rintro e w' ⟨kv,ev,rfl,h1,h2,h3,h4,h5⟩;rw [zsj hc hs] at h1;rw [hc.events] at h2;obtain ⟨a1,c1,rfl,_,_,_⟩:=h1.shape;obtain ⟨a2,c2,rfl,_,_,_⟩:=h2.shape;exact ⟨a1,c1,a2,c2,by rw [hr,hc.mark],h1,h2,h3,h4,h5⟩
set_option maxHeartbeats 4000000 in
theorem zlj {TA:zan} (hT:TreeOk TA 1000000) {n:Nat} {S:St} {D:Doc} (hc:Cpl S D) (hs:Sorted S.T) (hr:S.rev=D.rev) (hn:n<=1099511627) (hok:StOk n S) (hN:S.T.length<=1099511627) (hsz:(docB D).length<=140737488355328) (hl:D.kvs.length+D.events.length<=1000000) (w:World) (s:Nat) (F:Nat->Prop) (hS:zaj TA w s S F) :
 Calls Try.prog 25 #[.pointer (some ⟨s,0,none⟩)] w fun e w'=>e = .returned (.string ⟨(docB D).toArray⟩)/\Fr No w w':=by
 have hst:=zll hT hc hs hr hn hok hN w s F hS;have HST:=H_ hst;have HSZ:=H_ hsz;clear hst hsz hc hs hr hn hok hN hS;go_enter Try.func25,Try.ntmps25
 go_wp2_with (first
  | (go_at_call 37;(with_reducible refine HST.out.mono ?_);rintro e w1 ⟨a1,c1,a2,c2,rfl,k1,e1,f1,o1,o2⟩
     have hW:=zew w1 D.rev D.mark (.slice a1 D.kvs.length c1) (.slice a2 D.events.length c2) D.kvs D.events k1 e1 (SlF.apart k1 e1 (by decide)) HSZ.out (by omega) (by omega);have HW:=H_ hW;have HO1:=H_ o1;have HO2:=H_ o2;have HF1:=H_ f1;clear hW k1 e1 o1 o2 f1)
  | (go_at_call 64;(with_reducible refine HW.out.mono ?_);rintro e w2 ⟨rfl,f2⟩))
 go_ret;refine ⟨rfl,HF1.out.trans f2 fun j hj h=>?_⟩;rcases h with h | h
 · have:=HO1.out j h;omega
 have:=HO2.out j h;omega
theorem zie {TA:zan} (hT:TreeOk TA 1000000) {k:Nat} {S:St} {D:Doc} (h:Good k S D) (hk:k<=70) (hsz:(docB D).length<=140737488355328) (hl:D.kvs.length+D.events.length<=1000000) (w:World) (s:Nat) (F:Nat->Prop) (hS:zaj TA w s S F) :
 Calls Try.prog 25 #[.pointer (some ⟨s,0,none⟩)] w fun e w'=>e = .returned (.string ⟨(docB D).toArray⟩)/\Fr No w w' :=
 zlj hT h.cpl h.srt h.rev (n:=20000 * k) (by omega) h.ok (by have:=h.size;omega) hsz hl w s F hS
theorem zel (w:World):Calls Try.prog 25 #[.pointer none] w fun e w'=>e = .returned (.string ⟨#[]⟩)/\Fr No w w':=by
 go_enter Try.func25,Try.ntmps25;go_wp2;go_ret;exact ⟨rfl,Fr.refl _ _⟩
structure DocImg (D:Doc):Prop where
 right:zar D
 n64:DocN64 D
 big:D.mark<=D.rev->D.rev<=1099511627776->D.mark<=1099510000000
 rev:N64 D.rev
 mark:N64 D.mark
 kvs:∀ x∈D.kvs,KvN x
 evs:∀ x∈D.events,EvN x
 len:(docB D).length<=9000000000
def LoadY (TA:zan) (D:Doc) (w:World) (e:Ending) (w':World):Prop :=
 ∃ a S F,e = .returned (.tuple #[.pointer (some ⟨a,0,none⟩),.int .i64 0])/\zaj TA w' a S F/\MadeOk D S/\(∀ b,F b->w.heap.size<=b)/\Fr No w w'
theorem zfd {TA:zan} (hT:TreeOk TA 1000000) {D:Doc} (h:DocImg D) (w:World):Calls Try.prog 24 #[.string ⟨(docB D).toArray⟩] w (LoadY TA D w):=by
 have hl:=h.n64.len;have hb:=h.len;have hst:=StW.rd h.rev h.mark h.kvs h.evs (by omega) (by omega) [];rw [List.append_nil] at hst;refine (zfr hT w (docB D) (by omega) _ _ ([],false) D (by omega) (by omega) hst fun _ _=>⟨h.n64,h.big,by show (docB D).length<=_;omega⟩).mono fun e w' hr=>?_;unfold LoadR at hr;rw [if_neg (by simp),if_neg (by simp),if_pos ⟨h.right,rfl⟩] at hr;exact hr
theorem zip {TA:zan} (hT:TreeOk TA 1000000) {D:Doc} (h:DocImg D) (q:List UInt8) (hq:q≠[]) (hl2:q.length<=1000000000) (w:World):Calls Try.prog 24 #[.string ⟨(docB D++q).toArray⟩] w fun e w'=>e = .returned (.tuple #[.pointer none,.int .i64 12])/\Fr No w w':=by
 have hl:=h.n64.len;have hb:=h.len;have hst:=StW.rd h.rev h.mark h.kvs h.evs (by omega) (by omega) q;refine (zfr hT w (docB D++q) (by rw [List.length_append];omega) _ _ (q,false) D (by omega) (by omega) hst fun _ h2=>absurd h2 hq).mono fun e w' hr=>?_;unfold LoadR at hr;rw [if_neg (by simp),if_pos hq] at hr;exact hr
theorem zjo {TA:zan} (hT:TreeOk TA 1000000) {D:Doc} (h:DocImg D) (p q:List UInt8) (hpq:p++q=docB D) (hq:q≠[]) (w:World):Calls Try.prog 24 #[.string ⟨p.toArray⟩] w fun e w'=>e = .returned (.tuple #[.pointer none,.int .i64 10])/\Fr No w w':=by
 have hl:=h.n64.len;have hb:=h.len;rw [<-hpq,List.length_append] at hb;obtain ⟨g,k,s',r,m,ks,es,hst,h1,h2,_,_⟩:=StW.ends (p,false);have hbad:=StW.cut h.rev h.mark h.kvs h.evs (by omega) (by omega) hpq hq hst;dsimp only at h1 h2;refine (zfr hT w p (by omega) g k s' ⟨r,m,ks,es⟩ (by omega) (by omega) hst fun h3 _=>by rw [hbad] at h3;cases h3).mono fun e w' hr=>?_;unfold LoadR at hr;rw [if_pos hbad] at hr;exact hr
structure LeaN (D:Doc):Prop where
 kvs:∀ k∈D.kvs,k.lease<=9223372036854775807
 evs:∀ e∈D.events,e.kv.lease<=9223372036854775807
 prev:∀ e∈D.events,e.prev.lease<=9223372036854775807
def LeaQ (q:CalQ):Prop:=∀ o∈q.2.1,o.lease<=9223372036854775807
theorem zsm {l:List Kv} {k:ByteArray}:(hasL l k).getD kv0=kv0\/(hasL l k).getD kv0∈l:=by
 unfold hasL
 cases h:l.find? fun x=>keq x.key k with
 | none=>exact .inl rfl
 | some y=>exact .inr (List.mem_of_find?_eq_some h)
theorem LeaN.cut {D:Doc} (h:LeaN D) (hs:KSorted D.kvs) (R:Int):LeaN (D.cut R) :=
 ⟨fun k hk=>by
   rcases Doc.mem_at hs hk with h1 | ⟨e,h1,_,rfl⟩
   · exact h.kvs k h1
   exact h.evs e h1,fun e he=>h.evs e (List.mem_filter.1 he).1,fun e he=>h.prev e (List.mem_filter.1 he).1⟩
theorem LeaN.adds {n:Nat} {D:Doc} {E:List Ev} (h:LeaN D) (hs:KSorted D.kvs) (hd:DocOk n (D.adds E)) (hm:∀ e∈E,e.kv.mod=D.rev+1) (hmr:D.mark<=D.rev) (hE:∀ e∈E,e.kv.lease<=9223372036854775807):LeaN (D.adds E):=by
 obtain ⟨a,b,c⟩:=Doc.adds_parts D E
 have hev:∀ e∈(D.adds E).events,e.kv.lease<=9223372036854775807:=fun e he=>by
  rw [c] at he;rcases List.mem_append.1 he with h1 | h1
  · exact h.evs e h1
  exact hE e h1
 have hkv:∀ k∈(D.adds E).kvs,k.lease<=9223372036854775807:=by rw [b];exact h.kvs
 refine ⟨hkv,hev,fun e he=>?_⟩;have he':=he;rw [c] at he';rcases List.mem_append.1 he' with h1 | h1
 · exact h.prev e h1
 obtain ⟨A,B,hAB⟩:=List.append_of_mem he
 rw [hd.prev A e B hAB (by rw [a,hm e h1];omega)];rcases zsm (l:=(A.filter fun y=>decide ((D.adds E).mark < y.kv.mod)).foldl doneL (D.adds E).kvs) (k:=e.kv.key) with h2 | h2
 · rw [h2];decide
 rcases zbi (by rw [b];exact hs) _ _ h2 with h3 | ⟨x,h3,_,h4⟩
 · exact hkv _ h3
 rw [h4]
 exact hev x (by rw [hAB];exact List.mem_append_left _ (List.mem_filter.1 h3).1)
theorem zrw (D:Doc) (ops:List Opr) (hl:∀ o∈ops,o.lease<=9223372036854775807):∀ i≤ ops.length,∀ e∈(runD D (ops.take i)).E,e.kv.lease<=9223372036854775807:=by
 intro i
 induction i with
 | zero=>intro _ e he;simp [runD] at he
 | succ i ih =>
   intro hi;have ih':=ih (by omega);obtain ⟨o,ho⟩:∃ o,ops[i]? = some o:=⟨_,List.getElem?_eq_getElem (by omega)⟩;have hom:=hl o (List.mem_of_getElem? ho);rw [zhe _ _ ho];generalize runD D (ops.take i)=q at *;unfold stepD
   split
   · intro e he
     rcases List.mem_append.1 he with he | he
     · exact ih' e he
     rw [List.mem_singleton.1 he]
     exact hom
   split
   · exact ih'
   intro e he
   rcases List.mem_append.1 he with he | he
   · exact ih' e he
   obtain ⟨x,hx,rfl⟩:=List.mem_map.1 he
   show (0:Int)<=_
   decide
theorem zox (D:Doc) (keys:List ByteArray):∀ i≤ keys.length,∀ e∈(dropsQ D (keys.take i)).2,e.kv.lease<=9223372036854775807:=by
 intro i
 induction i with
 | zero=>intro _ e he;simp [dropsQ] at he
 | succ i ih =>
   intro hi;have ih':=ih (by omega);obtain ⟨x,hx⟩:∃ x,keys[i]? = some x:=⟨_,List.getElem?_eq_getElem (by omega)⟩;rw [zet _ _ hx];unfold dropQ
   split
   · intro e he
     rcases List.mem_append.1 he with he | he
     · exact ih' e he
     rw [List.mem_singleton.1 he]
     show (0:Int)<=_
     decide
   exact ih'
theorem zsh {k:Nat} {S:St} {D:Doc} (h:Good k S D) (hk:k<=70) {q:CalQ} (hq:fewCal q=true) (hl:LeaQ q) (hD:LeaN D):LeaN (doD S D q):=by
 obtain ⟨f1,f2,f3,f4,f5⟩:=zdz hq;have hm0:=h.cpl.m0;unfold doD;by_cases h4:kindN q.1.kind=4
 · rw [if_pos h4];exact hD
 rw [if_neg h4]
 by_cases h5:kindN q.1.kind=5
 · rw [if_pos h5]
   split
   · exact hD.cut h.cpl.ks _
   exact hD
 rw [if_neg h5]
 by_cases h6:kindN q.1.kind=6
 · rw [if_pos h6];exact hD
 rw [if_neg h6]
 by_cases h7:kindN q.1.kind=7
 · rw [if_pos h7]
   obtain ⟨a,_⟩:=h.drops hk q.2.2 f3 q.2.2.length (Nat.le_refl _);obtain ⟨_,hq2,_⟩:=h.dropDoc hk q.2.2 f3;have he:dropTo (D.rev+1) S q.2.2 q.2.2.length=q.2.2.foldl (dropR (D.rev+1)) (S,[]):=(by unfold dropTo;rw [List.take_length]);rw [he] at a;have hev:=zox D q.2.2 q.2.2.length (Nat.le_refl _);rw [List.take_length,<-hq2,h.rev] at hev;exact hD.adds h.cpl.ks a.doc a.mods hm0.2 hev
 rw [if_neg h7]
 by_cases ha:applyE S q.2.1=0
 · rw [if_pos ha]
   have hks:∀ o∈q.2.1,o.rg.key.size<=1099511627776:=fun o ho=>by have:=(f1 o ho).1;omega
   obtain ⟨e1,e2⟩:=zbp ha;obtain ⟨⟨a,_⟩,_⟩:=h.runs hk e1 hks q.2.1.length (Nat.le_refl _);obtain ⟨_,_,hq3⟩:=h.runD hk e1 e2 hks q.2.1.length (Nat.le_refl _);have hev:=zrw D q.2.1 hl q.2.1.length (Nat.le_refl _);rw [hq3] at hev;rw [List.take_length] at a hev;exact hD.adds h.cpl.ks a.doc a.mods hm0.2 hev
 rw [if_neg ha];exact hD
theorem zrf {l:List CalQ} (h:zbo l=true) (hl:∀ q∈l,LeaQ q):∀ i≤ l.length,LeaN (donesT l i).2:=by
 obtain ⟨h1,h2⟩:=zav h;have hg:=zbf h;intro i
 induction i with
 | zero=>intro _;exact ⟨fun k hk=>by simp [donesT,newD] at hk,fun e he=>by simp [donesT,newD] at he,fun e he=>by simp [donesT,newD] at he⟩
 | succ i ih =>
   intro hi;obtain ⟨q,hq⟩:∃ q,l[i]? = some q:=⟨_,List.getElem?_eq_getElem (by omega)⟩;rw [zcn l hq];exact zsh (hg i (by omega)) (by omega) (h2 q (List.mem_of_getElem? hq)) (hl q (List.mem_of_getElem? hq)) (ih (by omega))
theorem MayP.kvN {x:Kv} {r:Int} (h:MayP x r) (hr:r<=1000000) (hl:x.lease<=9223372036854775807):KvN x/\(kvB x).length<=1200:=by
 have hs:=zhl h;obtain ⟨a1,a2,a3,a4,a5,a6,a7,a8⟩:=h;have hk:=(zdw a1).2
 have hv:0<=x.version:=by
  by_cases e:x.mod=x.create
  · have:=a7 e;omega
  have:=a8 e;omega
 refine ⟨⟨by omega,by omega,⟨by omega,by omega⟩,⟨by omega,by omega⟩,⟨by omega,by omega⟩,⟨by omega,by omega⟩⟩,?_⟩;have e1:x.key.data.toList.length=x.key.size:=Array.length_toList;have e2:x.value.data.toList.length=x.value.size:=Array.length_toList;unfold kvB txtB;simp only [List.length_append,zay,e1,e2];omega
theorem kv0N:KvN kv0/\(kvB kv0).length<=1200:=by
 refine ⟨⟨by decide,by decide,by unfold N64 kv0;decide,by unfold N64 kv0;decide,by unfold N64 kv0;decide,by unfold N64 kv0;decide⟩,?_⟩;unfold kvB txtB;simp only [List.length_append,zay]
 decide
theorem goneN {k:ByteArray} {m:Int} (hk:keyE k=0) (h1:0<=m) (h2:m<=1000000):KvN ⟨k,ByteArray.empty,0,m,0,0⟩/\(kvB ⟨k,ByteArray.empty,0,m,0,0⟩).length<=1200:=by
 have hk:=(zdw hk).2;refine ⟨⟨by show k.size<=_;omega,by show ByteArray.empty.size<=_;decide,⟨by show _<=(0:Int);decide,by show (0:Int)<=_;decide⟩,⟨by show _<=m;omega,by show m<=_;omega⟩,⟨by show _<=(0:Int);decide,by show (0:Int)<=_;decide⟩,⟨by show _<=(0:Int);decide,by show (0:Int)<=_;decide⟩⟩,?_⟩;have e1:k.data.toList.length=k.size:=Array.length_toList;have e2:ByteArray.empty.data.toList.length=0:=rfl;unfold kvB txtB;simp only [List.length_append,zay,e1,e2];omega
theorem zer {α:Type} (f:α->List UInt8) (n:Nat):∀ (l:List α),(∀ x∈l,(f x).length<=n)->(l.flatMap f).length<=l.length * n
 | [],_=>by simp
 | x :: l,h=>by
   have:=zer f n l fun y hy=>h y (List.mem_cons_of_mem _ hy);have h1:=h x List.mem_cons_self;rw [List.flatMap_cons,List.length_append,List.length_cons,Nat.succ_mul];omega
theorem zmn {l:List CalQ} (h:zbo l=true) (hl:∀ q∈l,LeaQ q) :
 (∀ x∈(donesT l l.length).2.kvs,KvN x/\(kvB x).length<=1200)/\∀ x∈(donesT l l.length).2.events,EvN x/\(evB x).length<=2500:=by
 have h30:=(zav h).1;have hG:=zbf h l.length (Nat.le_refl _);have hR:=zft h l.length (Nat.le_refl _);have hK:=zcz h l.length (Nat.le_refl _);have hL:=zrf h hl l.length (Nat.le_refl _);generalize donesT l l.length=SD at *;obtain ⟨S,D⟩:=SD;dsimp only at hG hR hK hL ⊢
 have hm:=hG.cpl.m0;have hr:=hG.rev1;have hkv:∀ x∈D.kvs,KvN x/\(kvB x).length<=1200:=fun x hx=>(hR.kv x hx).kvN (by omega) (hL.kvs x hx)
 have hev:∀ x∈D.events,EvN x/\(evB x).length<=2500:=fun x hx=>by
  have h1:=hG.doc.lo x hx;have hp:=hR.prevM hG.doc hK hG.cpl.ks hx
  have hP:KvN x.prev/\(kvB x.prev).length<=1200:=by
   rcases hp with e | ⟨_,e⟩
   · rw [e];exact kv0N
   exact e.kvN (by omega) (hL.prev x hx)
  have hV:KvN x.kv/\(kvB x.kv).length<=1200:=by
   have hw:=hR.ev x hx;by_cases hk1:x.kind=1
   · exact (zmb hw hk1 (hK.evs x hx) (by omega) hp).kvN (by omega) (hL.evs x hx)
   rcases hw with ⟨e,_⟩ | ⟨_,_,e⟩
   · exact absurd e hk1
   rw [e];exact goneN (hK.evs x hx) (by omega) (by omega)
  have hkd:N64 x.kind:=by
   rcases hG.doc.kind x hx with e | e <;> rw [e] <;> exact ⟨by decide,by decide⟩
  refine ⟨⟨hkd,hV.1,hP.1⟩,?_⟩;have h2:=hV.2;have h3:=hP.2;unfold evB;simp only [List.length_append,zay];omega
 exact ⟨hkv,hev⟩
theorem zlh {l:List CalQ} (h:zbo l=true) (hl:∀ q∈l,LeaQ q):DocImg (donesT l l.length).2:=by
 have h30:=(zav h).1;have hG:=zbf h l.length (Nat.le_refl _);have hN:=zre h;have hRt:=zmo h;obtain ⟨hkv,hev⟩:=zmn h hl;generalize donesT l l.length=SD at *;obtain ⟨S,D⟩:=SD;dsimp only at hG hN hRt hkv hev ⊢
 have hm:=hG.cpl.m0;have hr:=hG.rev1;have hlen:=hN.len;have f1:=zer kvB 1200 D.kvs fun x hx=>(hkv x hx).2;have f2:=zer evB 2500 D.events fun x hx=>(hev x hx).2;refine ⟨hRt,hN,fun _ _=>by omega,⟨by omega,by omega⟩,⟨by omega,by omega⟩,fun x hx=>(hkv x hx).1,fun x hx=>(hev x hx).1,?_⟩;unfold docB stB;simp only [List.length_append,zay];omega
def sumS (h:Int) (c:UInt8):Int:=IntKind.u64.wrap (bits BinOp.xor IntKind.u64 h (IntKind.u64.wrap (c.toNat:Int)) * 1099511628211)
def sumL (l:List UInt8):Int:=l.foldl sumS 14695981039346656037
theorem zpy {ks:List UInt8} {k:Nat} (hk:k < ks.length):sumL (ks.take (k+1))=sumS (sumL (ks.take k)) (ks[k]?.getD 0):=by
 rw [List.take_add_one,List.getElem?_eq_getElem hk,Option.toList_some];unfold sumL;rw [List.foldl_append]
 rfl
set_option maxHeartbeats 4000000 in
theorem zpx (w:World) (v:Option Addr) (ks:List UInt8) (hl:ks.length<=140737488355328) (hB:Calls Try.prog 25 #[.pointer v] w fun e w'=>e = .returned (.string ⟨ks.toArray⟩)/\Fr No w w') :
 Calls Try.prog 26 #[.pointer v] w fun e w'=>e = .returned (.int .u64 (sumL ks))/\Fr No w w':=by
 have hks:(⟨ks.toArray⟩:ByteArray).size=ks.length:=by simp [ByteArray.size]
 have HB:=H_ hB;clear hB;go_enter Try.func26,Try.ntmps26;go_wp2_with (go_at_call 25;refine HB.out.mono ?_;rintro en w1 ⟨rfl,a3⟩;have hcv:=Lib.run_convert_string_bytes (P:=Try.prog) w1 9 109 5 ⟨ks.toArray⟩ Try.underlying9 Try.underlying109 Try.underlying5);have hbw:Fr No w1 (Lib.bytesWorld w1 5 ⟨ks.toArray⟩):=((Fr.refl No w1).drew.alloc _).freezeAt _ _ (.inr (Nat.le_refl _));have hbc:=fun j (hj:j < (⟨ks.toArray⟩:ByteArray).size)=>Lib.bytesWorld_cell w1 5 ⟨ks.toArray⟩ j hj;clear hcv;generalize Lib.bytesWorld w1 5 ⟨ks.toArray⟩=W2 at *;have HBC:=H_ hbc;have HA3:=H_ (a3.trans0 hbw);clear hbc a3 hbw
 go_loopg [3,10] ks.length (fun q s3 s10 wr=>∃ k:Nat,s3 = .int .u64 (sumL (ks.take k))/\s10 = .int .i64 k/\k+q=ks.length/\wr=W2)
 case atStart=>exact ⟨0,rfl,rfl,by simp,rfl⟩
 case round =>
  obtain ⟨k,rfl,rfl,hk,rfl⟩:=hrel
  cases gk with
  | zero =>
    have hkl:¬ (k:Int) < (ks.length:Int):=(by omega);have hke:ks.take k=ks:=List.take_of_length_le (by omega);rw [hke];go_wp2_with fail;go_ret;exact ⟨rfl,HA3.out⟩
  | succ q =>
    have hkl:(k:Int) < (ks.length:Int):=(by omega);have hbk:=HBC.out k (by rw [hks];omega);have lbk:=World.block_lt_of_cell? _ _ hbk;have HNX:=H_ (zpy (ks:=ks) (k:=k) (by omega));go_wp2_with fail;go_roundg q
    case rel=>exact ⟨k+1,by rw [HNX.out];rfl,by go_num,by omega,rfl⟩
    case measure=>omega
theorem zfv (w:World):Calls Try.prog 26 #[.pointer none] w fun e w'=>e = .returned (.int .u64 14695981039346656037)/\Fr No w w':=zpx w none [] (by simp) (zel w)
def o13:Opr:=putO ⟨#[97]⟩ ⟨#[49]⟩
def l13:List CalQ:=[(⟨0,.slice none 0 0,rg0 ByteArray.empty,0,0,.slice none 0 0⟩,[o13],[])]
def S13:St:=(donesT l13 l13.length).1
def D13:Doc:=(donesT l13 l13.length).2
theorem few13:zbo l13=true:=by kernel_rfl
theorem lea13:∀ q∈l13,LeaQ q:=fun q hq o ho=>by
 rw [List.mem_singleton.1 hq] at ho;rw [List.mem_singleton.1 ho]
 show (0:Int)<=_
 decide
theorem img13:DocImg D13:=zlh few13 lea13
theorem good13:Good 1 S13 D13:=zbf few13 1 (Nat.le_refl _)
theorem ap13:applyE newS [o13] = 0:=by kernel_rfl
theorem S13_eq:S13=applyS newS [o13]:=by kernel_rfl
theorem zty:D13.rev=1:=good13.rev.symm.trans (by kernel_rfl)
theorem imgN:DocImg newD:=zlh (l:=[]) (by kernel_rfl) (fun q hq=>by cases hq)
theorem zjr:docB newD=List.replicate 32 0:=by kernel_rfl
theorem len13:D13.kvs.length+D13.events.length<=1000000:=by have:=img13.n64.len;omega
theorem cat13 (l:List UInt8):(⟨(l++[120]).toArray⟩:ByteArray)=(⟨l.toArray⟩:ByteArray)++(⟨#[120]⟩:ByteArray):=by
 apply ByteArray.ext;rw [ByteArray.data_append];simp
theorem zsx {TA:zan} (hT:TreeOk TA 1000000) (W:World) (s p:Nat) (F0:Nat->Prop) (hS:zaj TA W s st0 F0) (hp:W.heap[p]? = some (.cells (opC o13).toArray 87 (0,0))) (np:¬ F0 p) :
 Calls Try.prog 41 #[.pointer (some ⟨s,0,none⟩),.slice (some ⟨p,0,none⟩) 1 1] W fun e w'=>∃ av ev F1,e = .returned (.tuple #[av,ev,.int .i64 0])/\zaj TA w' s S13 F1/\Fr F0 W w'/\(∀ b,F1 b->F0 b\/W.heap.size<=b):=by
 have h:=zln hT Good.new (by omega) W s F0 hS _ [o13] (zru hp) (fun _ b hb=>by simp [Value.ownBlock] at hb;rw [<-hb];exact np) (by decide) (by decide);rw [ap13] at h;simp only [if_true] at h;refine h.mono ?_;rintro e w' ⟨av,ev,rfl,F1,Z,h1,h2,h3,h4,h5,h6⟩;exact ⟨av,ev,F1,rfl,by rw [S13_eq];exact h1,h5,h6⟩
set_option maxHeartbeats 8000000 in
theorem zjs {TA:zan} (hT:TreeOk TA 1000000) (w:World):Calls Try.prog 27 #[] w fun e w'=>e = .returned (.bool true)/\Fr No w w':=by
 have hr1:=fun W=>zfd hT imgN W;have hr2:=fun W=>zip hT imgN [120] (by simp) (by simp) W;simp only [cat13] at hr2;have hr3:=fun W=>zfd hT img13 W;have hbn:=fun W s F hS=>zie hT Good.new (by decide) (by rw [zjr];decide) (by decide) W s F hS;have hb3:=fun W s F hS=>zie hT good13 (by decide) (Nat.le_trans img13.len (by decide)) len13 W s F hS;generalize (⟨(docB D13).toArray⟩:ByteArray)=Y at hr3 hb3;have HL2:=H_ hr2;have HL3:=H_ hr3;have HL1:=H_ hr1;have HB3:=H_ hb3;clear hr1 hr2 hr3 hb3;have hmk:∀ W,(Instr.makeSlice 109 (.int .i64 32) (.int .i64 32)).run Try.prog W = .ok (.slice (some ⟨W.heap.size,0,none⟩) 32 32) (W.alloc (.cells (Array.replicate 32 (.int .u8 0)) 5)):=fun _=>by kernel_rfl
 have hcv:(convert 109 9 (.slice (some ⟨w.heap.size,0,none⟩) 32 32)).run Try.prog (w.alloc (.cells (Array.replicate 32 (.int .u8 0)) 5)) = .ok (.string ⟨(docB newD).toArray⟩) (w.alloc (.cells (Array.replicate 32 (.int .u8 0)) 5)):=by
  rw [zjr];refine run_convert_bytes_back (P:=Try.prog) _ 109 9 5 ⟨w.heap.size,0,none⟩ 32 (List.replicate 32 0) Try.underlying109 Try.underlying5 Try.underlying9 fun j hj=>?_;have hj':j < 32:=(by simpa using hj);have h0:(w.alloc (.cells (Array.replicate 32 (.int .u8 0)) 5)).heap[w.heap.size]? = some (.cells (Array.replicate 32 (.int .u8 0)) 5 (0,0)):=zac w _ _ rfl;have h1:=cellAt (i:=j) (v:=.int .u8 0) h0 (by rw [Array.getElem?_replicate,if_pos hj'])
  have e:(⟨w.heap.size,0,none⟩:Addr).add j=⟨w.heap.size,j,none⟩:=by
   unfold Addr.add;by_cases h:j=0
   · simp [h]
   simp [h]
  rw [e,h1,List.getElem_replicate]
  rfl
 have hf0:Fr No w (w.alloc (.cells (Array.replicate 32 (.int .u8 0)) 5)):=(Fr.refl No w).alloc _;obtain ⟨Z,hZ⟩:∃ Z,docB newD=Z:=⟨_,rfl⟩;rw [hZ] at HL1 HL2 hcv hbn;have HBN:=H_ hbn;clear hbn;have HZ:=H_ hZ;have hzl:Z.length=32:=by rw [<-hZ,zjr];rfl
 have hzs:(⟨Z.toArray⟩:ByteArray).size=32:=by rw [<-hzl];exact List.size_toArray
 clear hZ;go_enter Try.func27,Try.ntmps27;go_upto_region 2 with fail;generalize w.alloc (.cells (Array.replicate 32 (.int .u8 0)) 5)=W0 at *;clear hcv hmk;go_upto_region 3 with (go_at_call 24;(with_reducible refine (HL1.out W0).mono ?_);rintro e w1 ⟨a1,T1,F1,rfl,s1,m1,n1,f1⟩);have HS1:=H_ s1;have HN1:=H_ n1;have HF1:=H_ (hf0.trans0 f1);have hrv:T1.rev=0:=m1.rev;have HRV:=H_ hrv;clear s1 n1 f1 hf0 m1 hrv;go_upto_region 4 with (go_at_call 24;(with_reducible refine (HL2.out w1).mono ?_);rintro e w2 ⟨rfl,f2⟩);have HF2:=H_ f2;clear f2
 go_upto_region 6 with (first
  | (go_at_call 31;refine (zcu hT _).mono ?_;rintro e w3 ⟨s,rfl,F0,hs3,hf3,hn3⟩)
  | (go_at_call 41
     refine (zsx hT _ s _ F0 (hs3.fr0 hT ((Fr.refl No w3).alloc _)) (zac _ _ _ rfl) (fun h=>by have:=hs3.lt hT _ h;omega)).mono ?_;rintro e w4 ⟨av,ev,F4,rfl,hs4,hf4,hn4⟩))
 have hw4:Fr No w2 w4:=(hf3.alloc _).trans hf4 fun b hb h=>by have:=hn3 b h;omega
 have HW4:=H_ (HF2.out.trans0 hw4);have HS4:=H_ hs4;clear hs3 hf3 hn3 hs4 hf4 hn4 hw4
 go_upto_region 7 with (first
  | (go_at_call 25;(with_reducible refine (HB3.out _ _ _ HS4.out).mono ?_);rintro e w5 ⟨rfl,f5⟩)
  | (go_at_call 24;(with_reducible refine (HL3.out w5).mono ?_);rintro e w6 ⟨a6,T6,F6,rfl,s6,m6,n6,f6⟩))
 have hrv6:T6.rev=1:=by rw [m6.rev,zty]
 have HW6:=H_ ((HW4.out.trans0 f5).trans0 f6);have HS6:=H_ s6;have HV6:=H_ hrv6;clear s6 m6 n6 f5 f6 hrv6
 go_wp2_with (first
  | (go_at_call 31;refine (zcu hT _).mono ?_;rintro e w7 ⟨s7,rfl,F7,hs7,hf7,hn7⟩)
  | (go_at_call 25;(with_reducible refine (HBN.out _ _ _ hs7).mono ?_);rintro e w8 ⟨rfl,f8⟩)
  | (go_at_call 33;refine (zem w8 a1 T1 F1 (HS1.out.fr0 hT ((HW6.out.trans0 hf7).trans0 f8))).mono ?_;rintro e w9 ⟨rfl,rfl⟩;rw [HRV.out])
  | (go_at_call 33;refine (zem w8 a6 T6 F6 (HS6.out.fr0 hT (hf7.trans0 f8))).mono ?_;rintro e w9 ⟨rfl,rfl⟩;rw [HV6.out])
  | (go_at_call 26;refine (zfv w8).mono ?_;rintro e w10 ⟨rfl,f10⟩))
 go_ret;exact ⟨rfl,((((HF1.out.trans0 HW6.out).trans0 hf7).trans0 f8).trans0 f10)⟩
end Go.Proofs.Ythljnnjpmdgkoaa