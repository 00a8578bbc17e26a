/- Own lemmas and contracts that the claim's proof needs, laid together. The conditions stand in each. -/
import Derived.Test.YthljnnjpmdgkoaaN17
namespace Go.Proofs.Ythljnnjpmdgkoaa
open Go Go.Proofs Go.RowKit
set_option maxRecDepth 100000
def Gone1 {σ:Type} (C:Cod σ) (w:World) (F:Nat->Prop) (g:Nat) (e:TypeId) (s':σ) (cs':List Value) (w':World):Prop :=
 ∃ F',C.At w' s' F'/\w'.heap[g]? = some (.cells cs'.toArray e (0,0))/\Fr (fun b=>F b\/b=g) w w'/\(∀ b,F' b->F b\/w.heap.size<=b)
theorem Gone1.more {σ:Type} {C:Cod σ} {w w1 w2 w3:World} {F F1:Nat->Prop} {g:Nat} {e:TypeId} {s2:σ} {cs2:List Value} (hf:Fr (fun b=>F b\/b=g) w w1) (hn:∀ b,F1 b->F b\/w.heap.size<=b) (h12:Fr No w1 w2)
 (h:Gone1 C w2 F1 g e s2 cs2 w3):Gone1 C w F g e s2 cs2 w3:=by
 obtain ⟨F3,a1,a2,a3,a4⟩:=h;have l1:=hf.size;have l2:=h12.size;refine ⟨F3,a1,a2,(hf.trans0 h12).trans a3 fun b hb h=>?_,fun b hb=>?_⟩
 · rcases h with h | h
   · rcases hn b h with h | h
     · exact .inl h
     omega
   exact .inr h
 rcases a4 b hb with h | h
 · exact hn b h
 exact .inr (by omega)
theorem CodOk.at0 {σ:Type} {C:Cod σ} (K:CodOk C) {w w':World} {s:σ} {F:Nat->Prop} (h:C.At w s F) (hf:Fr No w w'):C.At w' s F:=K.fr _ _ _ _ _ h hf fun _ h=>h.elim
set_option maxHeartbeats 8000000 in
theorem zev {σ:Type} {C:Cod σ} (K:CodOk C) (w:World) (s:σ) (F:Nat->Prop) (g:Nat) (e:TypeId) (cs:List Value) (o:Nat) (x:Kv) (hA:C.At w s F) (hg:w.heap[g]? = some (.cells cs.toArray e (0,0)))
 (hc:∀ j u,(kvC x)[j]? = some u->cs[o+j]? = some u) (nF:¬ F g) (hsm:C.small (kvS C s x).1) :
 Calls Try.prog 96 #[.pointer (some ⟨C.c,0,none⟩),.pointer (some ⟨g,o,none⟩)] w fun en w'=>en = .returned (.tuple #[])/\Gone1 C w F g e (kvS C s x).1 (putAt cs o (kvC (kvS C s x).2)) w':=by
 obtain ⟨key,value,create,mod,version,lease⟩:=x;have enf:=K.enf;have etf:=K.etf;have q0:cs[o]? = some (.string key):=hc 0 _ rfl;have q1:cs[o+1]? = some (.string value):=hc 1 _ rfl
 have q2:∀ j n,[create,mod,version,lease][j]? = some n->cs[o+2+j]? = some (.int .i64 n):=by
  intro j n hj;rw [show o+2+j=o+(2+j) by omega];refine hc (2+j) _ ?_
  match j,hj with
  | 0,hj=>simp at hj;subst hj;rfl
  | 1,hj=>simp at hj;subst hj;rfl
  | 2,hj=>simp at hj;subst hj;rfl
  | 3,hj=>simp at hj;subst hj;rfl
 have hk0:=K.cell _ _ _ hA;have c1:=hk0.cell 1 rfl;have lc:=hk0.lt;have lg:=zab hg;have s2:C.small (C.txt (C.txt s key).1 value).1:=K.snum _ _ (K.snum _ _ (K.snum _ _ (K.snum _ _ hsm)));have s1:C.small (C.txt s key).1:=K.stxt _ _ s2;have hT1:=fun W (h:Fr No w W)=>K.txt W s F g e cs o key (K.at0 hA h) (h.heap hg id) q0 nF s1;have H1:=H_ hT1;have HG:=H_ hg;have HSM:=H_ hsm;clear hT1 hk0 hg hA hc;go_enter Try.func96,Try.ntmps96;go_wp2_with fail
 go_still_tail 7,(by kernel_rfl)
 go_wp2_with (go_at_fn C.tf;refine (H1.out _ (Fr.refl No w).drew).mono ?_;rintro en w1 ⟨rfl,F1,a1,g1,f1,n1⟩);have hk1:=K.cell _ _ _ a1;have d1:=hk1.cell 1 rfl;have lc1:=hk1.lt;have lg1:=zab g1
 have nF1:¬ F1 g:=fun h=>by
  rcases n1 g h with h | h
  · exact nF h
  have h':w.heap.size<=g:=h;omega
 have f1':Fr (fun b=>F b\/b=g) w w1:=(Fr.drew (Fr.refl _ w)).trans f1 fun _ _ h=>h;have q1':(cs.set o (.string (C.txt s key).2))[o+1]? = some (.string value):=by rw [List.getElem?_set_ne (by omega)];exact q1
 have hT2:=fun W (h:Fr No w1 W)=>K.txt W _ F1 g e _ (o+1) value (K.at0 a1 h) (h.heap g1 id) q1' nF1 s2;have H2:=H_ hT2;have N1:=H_ n1;have FF1:=H_ f1';clear hT2 hk1 a1 g1 f1 n1 f1' H1;go_wp2_with fail
 go_still_tail 7,(by kernel_rfl)
 go_wp2_with (go_at_fn C.tf;refine (H2.out _ (Fr.refl No w1).drew).mono ?_;rintro en w2 ⟨rfl,F2,a2,g2,f2,n2⟩);have lc2:=(K.cell _ _ _ a2).lt;have lg2:=zab g2
 have nF2:¬ F2 g:=fun h=>by
  rcases n2 g h with h | h
  · exact nF1 h
  have h':w1.heap.size<=g:=h;omega
 have f2':Fr (fun b=>F1 b\/b=g) w1 w2:=(Fr.drew (Fr.refl _ w1)).trans f2 fun _ _ h=>h;have hlen:((cs.set o (.string (C.txt s key).2)).set (o+1) (.string (C.txt (C.txt s key).1 value).2)).length=cs.length:=by simp
 have q2':∀ j n,[create,mod,version,lease][j]? = some n->((cs.set o (.string (C.txt s key).2)).set (o+1) (.string (C.txt (C.txt s key).1 value).2))[o+2+j]? = some (.int .i64 n):=fun j n hj=>by
  rw [List.getElem?_set_ne (by omega),List.getElem?_set_ne (by omega)];exact q2 j n hj
 have hT3:=fun W (h:Fr No w2 W)=>zfc K W _ F2 g e _ (o+2) [create,mod,version,lease] w2.heap.size 108 (K.at0 a2 h) (h.heap g2 id) q2' nF2 HSM.out (by simp);have H3:=H_ hT3;have hnew:¬ F2 w2.heap.size:=fun h=>by have:=K.lt _ _ _ a2 _ h;omega
 have N2:=H_ n2;have FF2:=H_ f2';clear hT3 a2 g2 f2 n2 f2' H2;go_wp2_with fail
 go_region_held3 (fun W=>True)
  (exact trivial)
  (first | (go_at_call 94;refine (H3.out _ ((Fr.refl No w2).drew.alloc _) (zac _ _ _ rfl) hnew (by omega)).mono ?_;rintro e w3 ⟨rfl,F3,a3,g3,f3,n3⟩))
 go_wp2_with fail;refine bodyPost_end (results_none rfl _ _ _) rfl ⟨rfl,?_⟩;have f3':Fr (fun b=>F2 b\/b=g) w2 w3:=((Fr.drew (Fr.refl _ w2)).alloc _).trans f3 fun _ _ h=>h;refine Gone1.more FF1.out N1.out (Fr.refl No w1) (Gone1.more FF2.out N2.out (Fr.refl No w2) ⟨F3,a3,g3,f3',fun b hb=>?_⟩);rcases n3 b hb with h | h
 · exact .inl h
 simp at h;exact .inr (by omega)
set_option maxHeartbeats 8000000 in
theorem zmr {σ:Type} {C:Cod σ} (K:CodOk C) (w:World) (s:σ) (F:Nat->Prop) (g:Nat) (e:TypeId) (cs:List Value) (o:Nat) (x:Ev) (hA:C.At w s F) (hg:w.heap[g]? = some (.cells cs.toArray e (0,0)))
 (hc:∀ j u,(evC x)[j]? = some u->cs[o+j]? = some u) (nF:¬ F g) (hsm:C.small (evS C s x).1) :
 Calls Try.prog 98 #[.pointer (some ⟨C.c,0,none⟩),.pointer (some ⟨g,o,none⟩)] w fun en w'=>en = .returned (.tuple #[])/\Gone1 C w F g e (evS C s x).1 (putAt cs o (evC (evS C s x).2)) w':=by
 obtain ⟨kind,kv,prev⟩:=x;have enf:=K.enf;have q0:cs[o]? = some (.int .i64 kind):=hc 0 _ rfl
 have q1:∀ j u,(kvC kv)[j]? = some u->cs[o+1+j]? = some u:=by
  intro j u hj;have hjl:j < 6:=(by have:=(List.getElem?_eq_some_iff.1 hj).1;rwa [zag] at this);rw [show o+1+j=o+(1+j) by omega];refine hc (1+j) _ ?_;unfold evC;rw [Nat.add_comm 1 j,List.getElem?_cons_succ,List.getElem?_append_left (by rw [zag];omega)];exact hj
 have q2:∀ j u,(kvC prev)[j]? = some u->cs[o+7+j]? = some u:=by
  intro j u hj;rw [show o+7+j=o+(7+j) by omega];refine hc (7+j) _ ?_;unfold evC;rw [show 7+j=(6+j)+1 by omega,List.getElem?_cons_succ,List.getElem?_append_right (by rw [zag];omega),zag,show 6+j - 6=j by omega];exact hj
 have hk0:=K.cell _ _ _ hA;have c1:=hk0.cell 0 rfl;have lc:=hk0.lt;have lg:=zab hg;have s2:C.small (kvS C (C.num s kind).1 kv).1:=zcl K _ _ hsm;have s1:C.small (C.num s kind).1:=zcl K _ _ s2;have hT1:=fun W (h:Fr No w W)=>K.num W s F g e cs o kind (K.at0 hA h) (h.heap hg id) q0 nF s1;have H1:=H_ hT1;have HSM:=H_ hsm;have Q1:=H_ q1;have Q2:=H_ q2;clear hT1 hk0 hg hA hc q1 q2;go_enter Try.func98,Try.ntmps98;go_wp2_with fail
 go_still_tail 7,(by kernel_rfl)
 go_wp2_with (first
  | (go_at_fn C.nf;refine (H1.out _ (Fr.refl No w).drew).mono ?_;rintro en w1 ⟨rfl,F1,a1,g1,f1,n1⟩
     have lc1:=(K.cell _ _ _ a1).lt;have lg1:=zab g1
     have nF1:¬ F1 g:=fun h=>by
      rcases n1 g h with h | h
      · exact nF h
      have h':w.heap.size<=g:=h;omega
     have f1':Fr (fun b=>F b\/b=g) w w1:=(Fr.drew (Fr.refl _ w)).trans f1 fun _ _ h=>h;have q1':∀ j u,(kvC kv)[j]? = some u->(cs.set o (.int .i64 (C.num s kind).2))[o+1+j]? = some u:=fun j u hj=>by rw [List.getElem?_set_ne (by omega)];exact Q1.out j u hj
     have HK1:=H_ (zev K w1 _ F1 g e _ (o+1) kv a1 g1 q1' nF1 s2))
  | (go_at_call 96;(with_reducible refine HK1.out.mono ?_);rintro en w2 ⟨rfl,F2,a2,g2,f2,n2⟩
     have lc2:=(K.cell _ _ _ a2).lt;have lg2:=zab g2
     have nF2:¬ F2 g:=fun h=>by
      rcases n2 g h with h | h
      · exact nF1 h
      have h':w1.heap.size<=g:=h;omega
     have q2':∀ j u,(kvC prev)[j]? = some u->(putAt (cs.set o (.int .i64 (C.num s kind).2)) (o+1) (kvC (kvS C (C.num s kind).1 kv).2))[o+7+j]? = some u:=fun j u hj=>by
      rw [zgj _ _ _ _ (by rw [zag];omega),List.getElem?_set_ne (by omega)];exact Q2.out j u hj
     have HK2:=H_ (zev K w2 _ F2 g e _ (o+7) prev a2 g2 q2' nF2 HSM.out))
  | (go_at_call 96;(with_reducible refine HK2.out.mono ?_);rintro en w3 ⟨rfl,G3⟩))
 refine bodyPost_end (results_none rfl _ _ _) rfl ⟨rfl,?_⟩;have:=Gone1.more f1' n1 (Fr.refl No w1) (Gone1.more f2 n2 (Fr.refl No w2) G3);exact this
def beN:Nat->Nat->List UInt8
 | 0,_=>[]
 | k+1,m=>beN k (m / 256)++[UInt8.ofNat (m % 256)]
def valN (l:List UInt8):Nat:=l.foldl (fun v d=>v * 256+d.toNat) 0
theorem zkb (l:List UInt8) (d:UInt8):valN (l++[d])=valN l * 256+d.toNat:=by
 unfold valN;rw [List.foldl_append]
 rfl
theorem zja:∀ k m,(beN k m).length=k
 | 0,_=>rfl
 | k+1,m=>by unfold beN;rw [List.length_append,zja k];rfl
theorem znd:∀ k m,valN (beN k m)=m % 256 ^ k
 | 0,m=>by rw [Nat.pow_zero,Nat.mod_one];rfl
 | k+1,m=>by
   unfold beN;rw [zkb,znd k,Nat.pow_succ,Nat.mul_comm (256 ^ k) 256,Nat.mod_mul]
   have:(UInt8.ofNat (m % 256)).toNat=m % 256:=by
    rw [UInt8.toNat_ofNat'];omega
   rw [this];omega
def numB (n:Int):List UInt8:=beN 8 (n % 18446744073709551616).toNat
theorem zay (n:Int):(numB n).length=8:=zja _ _
def numR (l:List UInt8):Int:=wrap64 (valN l)
theorem zqo {n:Int} (h0 : -9223372036854775808<=n) (h1:n<=9223372036854775807):numR (numB n)=n:=by
 unfold numR numB;rw [znd,wrap64];rw [show (256:Nat) ^ 8=18446744073709551616 from rfl];omega
def txtB (t:ByteArray):List UInt8:=numB t.size++t.data.toList
def kvB (x:Kv):List UInt8:=txtB x.key++txtB x.value++numB x.create++numB x.mod++numB x.version++numB x.lease
def evB (x:Ev):List UInt8:=numB x.kind++kvB x.kv++kvB x.prev
def stB (rev mark:Int) (kvs:List Kv) (evs:List Ev):List UInt8 :=
 numB rev++numB mark++numB kvs.length++kvs.flatMap kvB++numB evs.length++evs.flatMap evB
def N64 (n:Int):Prop:=-9223372036854775808<=n/\n<=9223372036854775807
def KvN (x:Kv):Prop:=x.key.size<=9223372036854775807/\x.value.size<=9223372036854775807/\N64 x.create/\N64 x.mod/\N64 x.version/\N64 x.lease
def EvN (x:Ev):Prop:=N64 x.kind/\KvN x.kv/\KvN x.prev
abbrev Rd:=List UInt8 × Bool
def rdN (s:Rd):Rd × Int:=if s.1.length < 8 then ((s.1,true),0) else ((s.1.drop 8,s.2),numR (s.1.take 8))
def rdT (s:Rd):Rd × ByteArray :=
 let a:=rdN s
 if a.2 < 0\/(a.1.1.length:Int) < a.2 then ((a.1.1,true),ByteArray.empty) else ((a.1.1.drop a.2.toNat,a.1.2),⟨(a.1.1.take a.2.toNat).toArray⟩)
structure Way (σ:Type) where
 num:σ->Int->σ × Int
 txt:σ->ByteArray->σ × ByteArray
 bad:σ->Bool
def wrW:Way (List UInt8):=⟨fun s n=>(s++numB n,n),fun s t=>(s++txtB t,t),fun _=>false⟩
def rdW:Way Rd:=⟨fun s _=>rdN s,fun s _=>rdT s,fun s=>s.2⟩
section
variable {σ:Type} (C:Way σ)
def kvW (s:σ) (x:Kv):σ × Kv :=
 let k:=C.txt s x.key
 let v:=C.txt k.1 x.value
 let a:=C.num v.1 x.create
 let b:=C.num a.1 x.mod
 let c:=C.num b.1 x.version
 let d:=C.num c.1 x.lease
 (d.1,⟨k.2,v.2,a.2,b.2,c.2,d.2⟩)
def evW (s:σ) (x:Ev):σ × Ev :=
 let k:=C.num s x.kind
 let a:=kvW C k.1 x.kv
 let b:=kvW C a.1 x.prev
 (b.1,⟨k.2,a.2,b.2⟩)
inductive Lst {α:Type} (ea:σ->α->σ × α) (z:α) (n:Int):Nat->σ->List α->Nat->σ->List α->Prop
 | stop (s:σ) (L:List α) (i:Nat) (h:¬ ((i:Int) < n/\C.bad s=false)):Lst ea z n 0 s L i s L
 | step (g:Nat) (s:σ) (L L1:List α) (i:Nat) (x:α) (s':σ) (L':List α) (h:(i:Int) < n/\C.bad s=false) (h1:L1=if i=L.length then L++[z] else L) (hx:L1[i]? = some x)
    (hr:Lst ea z n g (ea s x).1 (L1.set i (ea s x).2) (i+1) s' L'):Lst ea z n (g+1) s L i s' L'
structure StW (g k:Nat) (s:σ) (rev mark:Int) (kvs:List Kv) (evs:List Ev) (s':σ) (rev' mark':Int) (kvs':List Kv) (evs':List Ev):Prop where
 mid:∃ s3,Lst C (kvW C) kv0 (C.num (C.num (C.num s rev).1 mark).1 kvs.length).2 g (C.num (C.num (C.num s rev).1 mark).1 kvs.length).1 kvs 0 s3 kvs' ∧
  Lst C (evW C) ⟨0,kv0,kv0⟩ (C.num s3 evs.length).2 k (C.num s3 evs.length).1 evs 0 s' evs'
 e1:rev'=(C.num s rev).2
 e2:mark'=(C.num (C.num s rev).1 mark).2
end
theorem Lst.det {σ α:Type} {C:Way σ} {ea:σ->α->σ × α} {z:α} {n:Int} {g:Nat} {s:σ} {L:List α} {i:Nat} {s':σ} {L':List α} (h:Lst C ea z n g s L i s' L') :
 ∀ {g2 s2 L2},Lst C ea z n g2 s L i s2 L2->g=g2/\s'=s2/\L'=L2:=by
 induction h with
 | stop s L i h =>
   intro g2 s2 L2 h2
   cases h2 with
   | stop _ _ _ _=>exact ⟨rfl,rfl,rfl⟩
   | step _ _ _ _ _ _ _ _ h3=>exact absurd h3 h
 | step g s L L1 i x s' L' h h1 hx _ ih =>
   intro g2 s2 L2 h2
   cases h2 with
   | stop _ _ _ h3=>exact absurd h h3
   | step g2 _ _ L12 _ x2 _ _ _ h12 hx2 hr2 =>
     subst h1 h12;rw [hx] at hx2;obtain rfl:=Option.some.inj hx2;obtain ⟨a,b,c⟩:=ih hr2;exact ⟨by rw [a],b,c⟩
/-! Writing leaves what is written as it was. -/
theorem kvW_wr (s:List UInt8) (x:Kv):kvW wrW s x=(s++kvB x,x):=by
 simp [kvW,wrW,kvB]
theorem evW_wr (s:List UInt8) (x:Ev):evW wrW s x=(s++evB x,x):=by
 simp [evW,kvW_wr];simp [wrW,evB]
theorem Lst.wr {α:Type} {ea:List UInt8->α->List UInt8 × α} {f:α->List UInt8} (he:∀ s x,ea s x=(s++f x,x)) (z:α) (L:List α) :
 ∀ (g i:Nat) (s:List UInt8),i+g=L.length->Lst wrW ea z L.length g s L i (s++(L.drop i).flatMap f) L
 | 0,i,s,h=>by
   rw [List.drop_of_length_le (by omega)];simp only [List.flatMap_nil,List.append_nil];exact .stop s L i (by omega)
 | g+1,i,s,h=>by
   obtain ⟨x,hx⟩:∃ x,L[i]? = some x:=⟨_,List.getElem?_eq_getElem (by omega)⟩;refine .step g s L L i x _ _ ⟨by omega,rfl⟩ (by rw [if_neg (by omega)]) hx ?_;rw [he];dsimp only
   have hset:L.set i x=L:=by
    apply List.ext_getElem?;intro j;by_cases hj:i=j
    · subst hj
      rw [List.getElem?_set_self (by omega),hx]
    rw [List.getElem?_set_ne hj]
   rw [hset];have:=Lst.wr he z L g (i+1) (s++f x) (by omega);rw [List.append_assoc] at this
   have hd:L.drop i=x :: L.drop (i+1):=by
    rw [<-List.getElem_cons_drop (by omega:i < L.length)];rw [List.getElem?_eq_getElem (by omega)] at hx;rw [Option.some.inj hx]
   rw [hd,List.flatMap_cons];exact this
theorem StW.wr (rev mark:Int) (kvs:List Kv) (evs:List Ev):StW wrW kvs.length evs.length [] rev mark kvs evs (stB rev mark kvs evs) rev mark kvs evs where
 mid:=⟨numB rev++numB mark++numB kvs.length++kvs.flatMap kvB,by
  have:=Lst.wr (f:=kvB) kvW_wr kv0 kvs kvs.length 0 (numB rev++numB mark++numB kvs.length) (by omega)
  simpa [wrW] using this,by
  have:=Lst.wr (f:=evB) evW_wr ⟨0,kv0,kv0⟩ evs evs.length 0 (numB rev++numB mark++numB kvs.length++kvs.flatMap kvB++numB evs.length) (by omega);simpa [wrW,stB] using this⟩
 e1:=rfl
 e2:=rfl
/-! Reading what was written. -/
theorem zdc {n:Int} (h:N64 n) (l:List UInt8) (b:Bool):rdN (numB n++l,b)=((l,b),n):=by
 unfold rdN;dsimp only;have:=zay n;rw [if_neg (by rw [List.length_append];omega),List.drop_left' this,List.take_left' this,zqo h.1 h.2]
theorem zrx {t:ByteArray} (h:t.size<=9223372036854775807) (l:List UInt8) (b:Bool):rdT (txtB t++l,b)=((l,b),t):=by
 unfold rdT txtB;rw [List.append_assoc,zdc ⟨by omega,by omega⟩];dsimp only;have ht:t.data.toList.length=t.size:=rfl;rw [if_neg (by rw [List.length_append];omega),Int.toNat_natCast,List.drop_left' ht,List.take_left' ht]
theorem kvW_rd {x:Kv} (h:KvN x) (y:Kv) (l:List UInt8) (b:Bool):kvW rdW (kvB x++l,b) y=((l,b),x):=by
 obtain ⟨h1,h2,h3,h4,h5,h6⟩:=h;simp [kvW,rdW,kvB,zrx,zdc, *]
theorem evW_rd {x:Ev} (h:EvN x) (y:Ev) (l:List UInt8) (b:Bool):evW rdW (evB x++l,b) y=((l,b),x):=by
 obtain ⟨h1,h2,h3⟩:=h;simp only [evW,evB,List.append_assoc];simp only [rdW,zdc h1];have:=kvW_rd h2 y.kv (kvB x.prev++l) b;have h2:=kvW_rd h3 y.prev l b;simp only [rdW] at this h2;rw [this];dsimp only;rw [h2]
theorem Lst.rd {α:Type} {ea:Rd->α->Rd × α} {f:α->List UInt8} {P:α->Prop} (he:∀ x,P x->∀ y l b,ea (f x++l,b) y=((l,b),x)) (z:α) (L:List α) (hL:∀ x∈L,P x) (l:List UInt8) :
 ∀ (g i:Nat),i+g=L.length->Lst rdW ea z L.length g ((L.drop i).flatMap f++l,false) (L.take i) i (l,false) L
 | 0,i,h=>by
   rw [List.drop_of_length_le (by omega),List.take_of_length_le (by omega)];exact .stop _ L i (by omega)
 | g+1,i,h=>by
   obtain ⟨x,hx⟩:∃ x,L[i]? = some x:=⟨_,List.getElem?_eq_getElem (by omega)⟩
   have hd:L.drop i=x :: L.drop (i+1):=by
    rw [<-List.getElem_cons_drop (by omega:i < L.length)];rw [List.getElem?_eq_getElem (by omega)] at hx;rw [Option.some.inj hx]
   have hl:(L.take i).length=i:=(by rw [List.length_take];omega);have hxm:=hL x (List.mem_of_getElem? hx);refine .step g _ (L.take i) (L.take i++[z]) i z _ _ ⟨by omega,rfl⟩ (by rw [if_pos hl.symm]) (by rw [List.getElem?_append_right (by omega),hl,Nat.sub_self];rfl) ?_;rw [hd,List.flatMap_cons,List.append_assoc,he x hxm];dsimp only
   have hs:(L.take i++[z]).set i x=L.take (i+1):=by
    rw [List.take_add_one,hx,List.set_append_right _ _ (by omega),hl,Nat.sub_self]
    rfl
   rw [hs];exact Lst.rd he z L hL l g (i+1) (by omega)
theorem StW.rd {rev mark:Int} {kvs:List Kv} {evs:List Ev} (h1:N64 rev) (h2:N64 mark) (h3:∀ x∈kvs,KvN x) (h4:∀ x∈evs,EvN x) (h5:kvs.length<=9223372036854775807) (h6:evs.length<=9223372036854775807) (l:List UInt8) :
 StW rdW kvs.length evs.length (stB rev mark kvs evs++l,false) 0 0 [] [] (l,false) rev mark kvs evs:=by
 have a1:∀ X,rdN (numB rev++X,false)=((X,false),rev):=fun X=>zdc h1 X false;have a2:∀ X,rdN (numB mark++X,false)=((X,false),mark):=fun X=>zdc h2 X false;have a3:∀ X,rdN (numB kvs.length++X,false)=((X,false),(kvs.length:Int)):=fun X=>zdc ⟨by omega,by omega⟩ X false;have a4:∀ X,rdN (numB evs.length++X,false)=((X,false),(evs.length:Int)):=fun X=>zdc ⟨by omega,by omega⟩ X false
 have hst:stB rev mark kvs evs++l=numB rev++(numB mark++(numB kvs.length++(kvs.flatMap kvB++(numB evs.length++(evs.flatMap evB++l))))):=by
  unfold stB;simp only [List.append_assoc]
 rw [hst];have b1:=Lst.rd (f:=kvB) (P:=KvN) (ea:=kvW rdW) (fun x hx y l b=>kvW_rd hx y l b) kv0 kvs h3 (numB evs.length++(evs.flatMap evB++l)) kvs.length 0 (by omega);have b2:=Lst.rd (f:=evB) (P:=EvN) (ea:=evW rdW) (fun x hx y l b=>evW_rd hx y l b) ⟨0,kv0,kv0⟩ evs h4 l evs.length 0 (by omega);simp only [List.drop_zero,List.take_zero] at b1 b2;generalize evs.flatMap evB++l=T4 at *;generalize hT3:kvs.flatMap kvB++(numB evs.length++T4)=T3 at *;have c1:rdW.num (numB rev++(numB mark++(numB kvs.length++T3)),false) 0=((numB mark++(numB kvs.length++T3),false),rev):=a1 _;have c2:rdW.num (numB mark++(numB kvs.length++T3),false) 0=((numB kvs.length++T3,false),mark):=a2 _;have c3:rdW.num (numB kvs.length++T3,false) ((List.length ([]:List Kv):Nat):Int)=((T3,false),(kvs.length:Int)):=a3 _
 have c4:rdW.num (numB evs.length++T4,false) ((List.length ([]:List Ev):Nat):Int)=((T4,false),(evs.length:Int)):=a4 _;refine ⟨⟨(numB evs.length++T4,false),?_,?_⟩,?_,?_⟩
 · rw [c1];dsimp only;rw [c2];dsimp only;rw [c3]
   exact b1
 · rw [c4]
   exact b2
 · rw [c1]
 rw [c1];dsimp only;rw [c2]
/-! More behind it is left as it is, unless there was too little. -/
theorem zdd (l q:List UInt8) (b:Bool) (h:(rdN (l,b)).1.2=false):b=false/\rdN (l++q,b)=(((rdN (l,b)).1.1++q,false),(rdN (l,b)).2):=by
 unfold rdN at h ⊢
 dsimp only at h ⊢
 by_cases hl:l.length < 8
 · rw [if_pos hl] at h;cases h
 rw [if_neg hl] at h ⊢
 have hb:b=false:=h;subst hb;rw [if_neg (by rw [List.length_append];omega),List.drop_append_of_le_length (by omega),List.take_append_of_le_length (by omega)];exact ⟨rfl,rfl⟩
theorem zry (l q:List UInt8) (b:Bool) (h:(rdT (l,b)).1.2=false):b=false/\rdT (l++q,b)=(((rdT (l,b)).1.1++q,false),(rdT (l,b)).2):=by
 have hN:=zdd l q b;unfold rdT at h ⊢
 dsimp only at h ⊢
 generalize rdN (l,b)=A at *;obtain ⟨⟨l',b'⟩,n⟩:=A;dsimp only at *;by_cases hl:n < 0\/(l'.length:Int) < n
 · rw [if_pos hl] at h;cases h
 rw [if_neg hl] at h ⊢
 have hb:b'=false:=h;obtain ⟨e1,e2⟩:=hN hb;rw [e2];dsimp only;simp only [not_or,Int.not_lt] at hl;rw [if_neg (by rw [List.length_append];omega),List.drop_append_of_le_length (by omega),List.take_append_of_le_length (by omega)];exact ⟨e1,rfl⟩
def More {α:Type} (ea:Rd->α->Rd × α):Prop:=∀ l q b x,(ea (l,b) x).1.2=false->b=false/\ea (l++q,b) x=(((ea (l,b) x).1.1++q,false),(ea (l,b) x).2)
theorem zqt:More (kvW rdW):=by
 intro l q b x h;have n1:=fun l b=>zdd l q b;have t1:=fun l b=>zry l q b;unfold kvW at h ⊢
 simp only [rdW] at h ⊢
 generalize hk:rdT (l,b)=K at *;obtain ⟨⟨lk,bk⟩,k⟩:=K;dsimp only at *;generalize hv:rdT (lk,bk)=V at *;obtain ⟨⟨lv,bv⟩,v⟩:=V;dsimp only at *;generalize ha:rdN (lv,bv)=A at *;obtain ⟨⟨la,ba⟩,a⟩:=A;dsimp only at *;generalize hb:rdN (la,ba)=B at *;obtain ⟨⟨lb,bb⟩,b'⟩:=B;dsimp only at *;generalize hc:rdN (lb,bb)=C at *;obtain ⟨⟨lc,bc⟩,c⟩:=C;dsimp only at *;generalize hd:rdN (lc,bc)=D at *;obtain ⟨⟨ld,bd⟩,d⟩:=D;dsimp only at *;subst h;obtain ⟨e6,f6⟩:=n1 lc bc (by rw [hd]);subst e6;obtain ⟨e5,f5⟩:=n1 lb bb (by rw [hc]);subst e5;obtain ⟨e4,f4⟩:=n1 la ba (by rw [hb]);subst e4;obtain ⟨e3,f3⟩:=n1 lv bv (by rw [ha]);subst e3;obtain ⟨e2,f2⟩:=t1 lk bk (by rw [hv]);subst e2;obtain ⟨e1,f1⟩:=t1 l b (by rw [hk]);subst e1
 rw [hk] at f1;rw [hv] at f2;rw [ha] at f3;rw [hb] at f4;rw [hc] at f5;rw [hd] at f6;dsimp only at f1 f2 f3 f4 f5 f6;rw [f1];dsimp only;rw [f2];dsimp only;rw [f3];dsimp only;rw [f4];dsimp only;rw [f5];dsimp only;rw [f6];exact ⟨rfl,rfl⟩
theorem zto:More (evW rdW):=by
 intro l q b x h;have n1:=zdd l q b;have k1:=fun l b x=>zqt l q b x;unfold evW at h ⊢
 dsimp only at h ⊢
 have hnum:∀ s n,rdW.num s n=rdN s:=fun _ _=>rfl;simp only [hnum] at h ⊢
 generalize hk:rdN (l,b)=K at *;obtain ⟨⟨lk,bk⟩,k⟩:=K;dsimp only at *;generalize hv:kvW rdW (lk,bk) x.kv=V at *;obtain ⟨⟨lv,bv⟩,v⟩:=V;dsimp only at *;generalize ha:kvW rdW (lv,bv) x.prev=A at *;obtain ⟨⟨la,ba⟩,a⟩:=A;dsimp only at *;subst h;obtain ⟨e3,f3⟩:=k1 lv bv x.prev (by rw [ha]);subst e3;obtain ⟨e2,f2⟩:=k1 lk bk x.kv (by rw [hv]);subst e2;obtain ⟨e1,f1⟩:=n1 rfl;subst e1;rw [hv] at f2;rw [ha] at f3;dsimp only at f1 f2 f3;rw [f1];dsimp only;rw [f2];dsimp only;rw [f3];exact ⟨rfl,rfl⟩
theorem Lst.more {α:Type} {ea:Rd->α->Rd × α} (he:More ea) {z:α} {n:Int} {g:Nat} {s:Rd} {L:List α} {i:Nat} {s':Rd} {L':List α} (h:Lst rdW ea z n g s L i s' L') (q:List UInt8) (hb:s'.2=false) :
 s.2=false/\Lst rdW ea z n g (s.1++q,false) L i (s'.1++q,false) L':=by
 induction h with
 | stop s L i h =>
   refine ⟨hb,.stop _ L i fun h2=>h ⟨h2.1,hb⟩⟩
 | step g s L L1 i x s' L' h h1 hx _ ih =>
   obtain ⟨e1,e2⟩:=ih hb;have hs:s.2=false:=h.2;obtain ⟨l,b⟩:=s;dsimp only at hs;subst hs;obtain ⟨_,e3⟩:=he l q false x e1;refine ⟨rfl,.step g _ L L1 i x _ _ ⟨h.1,rfl⟩ h1 hx ?_⟩;dsimp only;rw [e3];exact e2
theorem StW.more {g k:Nat} {s:Rd} {rev mark:Int} {kvs:List Kv} {evs:List Ev} {s':Rd} {rev' mark':Int} {kvs':List Kv} {evs':List Ev} (h:StW rdW g k s rev mark kvs evs s' rev' mark' kvs' evs') (q:List UInt8) (hb:s'.2=false) :
 StW rdW g k (s.1++q,false) rev mark kvs evs (s'.1++q,false) rev' mark' kvs' evs':=by
 obtain ⟨⟨s3,h1,h2⟩,h3,h4⟩:=h;have hnum:∀ s n,rdW.num s n=rdN s:=fun _ _=>rfl;simp only [hnum] at h1 h2 h3 h4;obtain ⟨a1,a2⟩:=h2.more zto q hb;obtain ⟨b1,b2⟩:=zdd s3.1 q s3.2 a1;obtain ⟨c1,c2⟩:=h1.more zqt q b1;obtain ⟨l,b⟩:=s;generalize hn1:rdN (l,b)=N1 at *;obtain ⟨⟨l1,b1'⟩,v1⟩:=N1;dsimp only at *;generalize hn2:rdN (l1,b1')=N2 at *;obtain ⟨⟨l2,b2'⟩,v2⟩:=N2;dsimp only at *;obtain ⟨d1,d2⟩:=zdd l2 q b2' c1;subst d1;obtain ⟨e1,e2⟩:=zdd l1 q b1' (by rw [hn2]);subst e1;obtain ⟨f1,f2⟩:=zdd l q b (by rw [hn1]);subst f1;rw [hn1] at f2;rw [hn2] at e2;dsimp only at e2 f2;refine ⟨⟨(s3.1++q,false),?_,?_⟩,?_,?_⟩
 · show Lst rdW (kvW rdW) kv0 (rdN (rdN (rdN _).1).1).2 _ (rdN (rdN (rdN _).1).1).1 kvs 0 _ kvs'
   rw [f2];dsimp only;rw [e2];dsimp only;rw [d2];exact c2
 · show Lst rdW (evW rdW) ⟨0,kv0,kv0⟩ (rdN _).2 _ (rdN _).1 evs 0 _ evs'
   obtain ⟨l3,b3⟩:=s3;dsimp only at *;subst b1;rw [b2];exact a2
 · show rev'=(rdN _).2
   rw [f2];exact h3
 show mark'=(rdN (rdN _).1).2
 rw [f2];dsimp only;rw [e2];exact h4
theorem StW.det {σ:Type} {C:Way σ} {g k g2 k2:Nat} {s:σ} {rev mark:Int} {kvs:List Kv} {evs:List Ev} {s' s2:σ} {rev' mark' rev2 mark2:Int} {kvs' kvs2:List Kv} {evs' evs2:List Ev}
 (h:StW C g k s rev mark kvs evs s' rev' mark' kvs' evs') (h2:StW C g2 k2 s rev mark kvs evs s2 rev2 mark2 kvs2 evs2):g=g2/\k=k2/\s'=s2/\rev'=rev2/\mark'=mark2/\kvs'=kvs2/\evs'=evs2:=by
 obtain ⟨⟨s3,a1,a2⟩,a3,a4⟩:=h;obtain ⟨⟨s4,b1,b2⟩,b3,b4⟩:=h2;obtain ⟨rfl,rfl,rfl⟩:=a1.det b1;obtain ⟨rfl,rfl,rfl⟩:=a2.det b2;exact ⟨rfl,rfl,rfl,a3.trans b3.symm,a4.trans b4.symm,rfl,rfl⟩
/-! Whatever bytes there are, reading them ends. -/
theorem zce (s:Rd):(rdN s).1.1.length<=s.1.length/\((rdN s).1.2=false->(rdN s).1.1.length+8<=s.1.length):=by
 unfold rdN
 split
 · exact ⟨Nat.le_refl _,fun h=>by cases h⟩
 dsimp only
 rw [List.length_drop];exact ⟨by omega,fun _=>by omega⟩
theorem zlz (s:Rd):(rdT s).1.1.length<=s.1.length/\((rdT s).1.2=false->(rdT s).1.1.length+8<=s.1.length):=by
 have h:=zce s;unfold rdT;dsimp only
 split
 · exact ⟨h.1,fun h=>by cases h⟩
 dsimp only
 rw [List.length_drop];exact ⟨by omega,fun e=>by have:=h.2 e;omega⟩
def Less {α:Type} (ea:Rd->α->Rd × α):Prop:=∀ s x,(ea s x).1.1.length<=s.1.length/\((ea s x).1.2=false->(ea s x).1.1.length+8<=s.1.length)
theorem zmf:Less (kvW rdW):=by
 intro s x;unfold kvW;simp only [rdW];have h1:=zlz s;generalize rdT s=K at *;have h2:=zlz K.1;generalize rdT K.1=V at *;have h3:=zce V.1;generalize rdN V.1=A at *;have h4:=zce A.1;generalize rdN A.1=B at *;have h5:=zce B.1;generalize rdN B.1=C at *;have h6:=zce C.1;generalize rdN C.1=D at *;exact ⟨by omega,fun e=>by have:=h6.2 e;omega⟩
theorem ztp:Less (evW rdW):=by
 intro s x;unfold evW;have hnum:∀ s n,rdW.num s n=rdN s:=fun _ _=>rfl;simp only [hnum];have h1:=zce s;generalize rdN s=K at *;have h2:=zmf K.1 x.kv;generalize kvW rdW K.1 x.kv=V at *;have h3:=zmf V.1 x.prev;generalize kvW rdW V.1 x.prev=A at *;exact ⟨by omega,fun e=>by have:=h3.2 e;omega⟩
theorem Lst.ends {α:Type} {ea:Rd->α->Rd × α} (he:Less ea) (z:α) (n:Int):∀ (m:Nat) (s:Rd) (L:List α) (i:Nat),s.1.length < m->i<=L.length->∃ g s' L',Lst rdW ea z n g s L i s' L'/\g<=m/\s'.1.length<=s.1.length/\L'.length<=L.length+g:=by
 intro m
 induction m with
 | zero=>intro s L i h;omega
 | succ m ih =>
   intro s L i h hi;by_cases hc:(i:Int) < n/\rdW.bad s=false
   · obtain ⟨L1,hL1⟩:∃ L1,L1=if i=L.length then L++[z] else L:=⟨_,rfl⟩
     have hl1:i < L1.length/\L1.length<=L.length+1:=by
      rw [hL1]
      split
      · rw [List.length_append,List.length_singleton];omega
      omega
     obtain ⟨x,hx⟩:∃ x,L1[i]? = some x:=⟨_,List.getElem?_eq_getElem (by omega)⟩;obtain ⟨e1,e2⟩:=he s x;by_cases hb:(ea s x).1.2=false
     · obtain ⟨g,s',L',h1,h2,h3,h4⟩:=ih (ea s x).1 (L1.set i (ea s x).2) (i+1) (by have:=e2 hb;omega) (by rw [List.length_set];omega)
       rw [List.length_set] at h4;exact ⟨g+1,s',L',.step g s L L1 i x s' L' hc hL1 hx h1,by omega,by omega,by omega⟩
     refine ⟨1,_,_,.step 0 s L L1 i x _ _ hc hL1 hx (.stop _ _ _ fun h=>hb h.2),by omega,e1,?_⟩
     rw [List.length_set];omega
   exact ⟨0,s,L,.stop s L i hc,by omega,Nat.le_refl _,by omega⟩
theorem StW.ends (s:Rd):∃ g k s' rev' mark' kvs' evs',StW rdW g k s 0 0 [] [] s' rev' mark' kvs' evs'/\g<=s.1.length+1/\k<=s.1.length+1/\kvs'.length<=s.1.length+1/\evs'.length<=s.1.length+1:=by
 have l1:=(zce s).1;have l2:=(zce (rdN s).1).1;have l3:=(zce (rdN (rdN s).1).1).1;obtain ⟨g,s3,kvs',a1,a2,a3,a4⟩:=Lst.ends zmf kv0 (rdN (rdN (rdN s).1).1).2 ((rdN (rdN (rdN s).1).1).1.1.length+1) (rdN (rdN (rdN s).1).1).1 [] 0 (by omega) (Nat.le_refl _);have l4:=(zce s3).1;obtain ⟨k,s',evs',b1,b2,b3,b4⟩:=Lst.ends ztp ⟨0,kv0,kv0⟩ (rdN s3).2 ((rdN s3).1.1.length+1) (rdN s3).1 [] 0 (by omega) (Nat.le_refl _);simp only [List.length_nil,Nat.zero_add] at a4 b4;exact ⟨g,k,s',_,_,kvs',evs',⟨⟨s3,a1,b1⟩,rfl,rfl⟩,by omega,by omega,by omega,by omega⟩
theorem StW.cut {rev mark:Int} {kvs:List Kv} {evs:List Ev} (h1:N64 rev) (h2:N64 mark) (h3:∀ x∈kvs,KvN x) (h4:∀ x∈evs,EvN x) (h5:kvs.length<=9223372036854775807) (h6:evs.length<=9223372036854775807)
 {p q:List UInt8} (hp:p++q=stB rev mark kvs evs) (hq:q≠[]) {g k:Nat} {s':Rd} {rev' mark':Int} {kvs':List Kv} {evs':List Ev} (h:StW rdW g k (p,false) 0 0 [] [] s' rev' mark' kvs' evs'):s'.2=true:=by
 cases hb:s'.2 with
 | true=>rfl
 | false =>
   have a:=h.more q hb;dsimp only at a;rw [hp] at a;have b:=StW.rd h1 h2 h3 h4 h5 h6 [];rw [List.append_nil] at b;obtain ⟨_,_,e,_⟩:=a.det b;have:s'.1++q = []:=congrArg Prod.fst e;rw [List.append_eq_nil_iff] at this;exact absurd this.2 hq
end Go.Proofs.Ythljnnjpmdgkoaa