/- Own lemmas. -/
import Derived.Test.YthljnnjpmdgkoaaGreatI15
namespace Go.Proofs.YthljnnjpmdgkoaaGreat
open Go Go.Proofs Go.RowKit
set_option maxRecDepth 100000
def Gone1 {σ:Type} (C:Cod σ) (w:World) (F:Nat->Prop) (g:Nat) (e:TypeId) (s':σ) (cs':List Value) (w':World):Prop :=
 ∃ F',C.At w' s' F'/\w'.heap[g]?=some (.cells cs'.toArray e (0,0))/\Fr (fun b=>F b\/b=g) w w'/\(∀ b,F' b->F b\/w.heap.size<=b)
theorem Gone1.more {σ:Type} {C:Cod σ} {w w1 w2 w3:World} {F F1:Nat->Prop} {g:Nat} {e:TypeId} {s2:σ} {cs2:List Value} (hf:Fr (fun b=>F b\/b=g) w w1) (hn:∀ b,F1 b->F b\/w.heap.size<=b) (h12:Fr No w1 w2)
 (h:Gone1 C w2 F1 g e s2 cs2 w3):Gone1 C w F g e s2 cs2 w3:=by
 obtain ⟨a,c,d,f,i⟩:=h;have j:=hf.size;have k:=h12.size;refine ⟨a,c,d,(hf.trans0 h12).trans f fun b hb h=>?_,fun b hb=>?_⟩
 · rcases h with h | h
   · rcases hn b h with h | h
     · exact .inl h
     omega
   exact .inr h
 rcases i b hb with h | h
 · exact hn b h
 exact .inr (by omega)
theorem CodOk.at0 {σ:Type} {C:Cod σ} (K:CodOk C) {w w':World} {s:σ} {F:Nat->Prop} (h:C.At w s F) (hf:Fr No w w'):C.At w' s F:=K.fr _ _ _ _ _ h hf fun _ h=>h.elim
set_option maxHeartbeats 8000000 in
theorem zhe {σ:Type} {C:Cod σ} (K:CodOk C) (w:World) (s:σ) (F:Nat->Prop) (g:Nat) (e:TypeId) (cs:List Value) (o:Nat) (x:Kv) (hA:C.At w s F) (hg:w.heap[g]?=some (.cells cs.toArray e (0,0)))
 (hc:∀ j u,(kvC x)[j]?=some u->cs[o+j]?=some u) (nF:¬ F g) (hsm:C.small (kvS C s x).1) :
 Calls Tryz.prog 141 #[.pointer (some ⟨C.c,0,none⟩),.pointer (some ⟨g,o,none⟩)] w fun en w'=>en=.returned (.tuple #[])/\Gone1 C w F g e (kvS C s x).1 (putAt cs o (kvC (kvS C s x).2)) w':=by
 obtain ⟨key,a,f,q,d,k⟩:=x;have a9:=K.enf;have aa:=K.etf;have q0:cs[o]?=some (.string key):=hc 0 _ rfl;have q1:cs[o+1]?=some (.string a):=hc 1 _ rfl
 have q2:∀ j n,[f,q,d,k][j]?=some n->cs[o+2+j]?=some (.int .i64 n):=by
  intro j n i;rw [show o+2+j=o+(2+j) by omega];refine hc (2+j) _ ?_
  match j,i with
  | 0,i=>simp at i;subst i;rfl
  | 1,i=>simp at i;subst i;rfl
  | 2,i=>simp at i;subst i;rfl
  | 3,i=>simp at i;subst i;rfl
 have m:=K.cell _ _ _ hA;have c1:=m.cell 1 rfl;have lc:=m.lt;have lg:=zab hg;have s2:C.small (C.txt (C.txt s key).1 a).1:=K.snum _ _ (K.snum _ _ (K.snum _ _ (K.snum _ _ hsm)));have s1:C.small (C.txt s key).1:=K.stxt _ _ s2;have v:=fun W (h:Fr No w W)=>K.txt W s F g e cs o key (K.at0 hA h) (h.heap hg id) q0 nF s1;have U:=H_ v;have HG:=H_ hg;have J:=H_ hsm;clear v m hg hA hc;go_enter Tryz.func141,Tryz.ntmps141;go_wp2_with fail
 go_still_tail 7,(by kernel_rfl)
 go_wp2_with (go_at_fn C.tf;refine (U.out _ (Fr.refl No w).drew).mono ?_;rintro en w1 ⟨rfl,G,L,N,X,P⟩);have p:=K.cell _ _ _ L;have d1:=p.cell 1 rfl;have af:=p.lt;have ah:=zab N
 have B:¬ G g:=fun h=>by
  rcases P g h with h | h
  · exact nF h
  have h':w.heap.size<=g:=h;omega
 have r:Fr (fun b=>F b\/b=g) w w1:=(Fr.drew (Fr.refl _ w)).trans X fun _ _ h=>h;have S:(cs.set o (.string (C.txt s key).2))[o+1]?=some (.string a):=by rw [List.getElem?_set_ne (by omega)];exact q1
 have y:=fun W (h:Fr No w1 W)=>K.txt W _ G g e _ (o+1) a (K.at0 L h) (h.heap N id) S B s2;have V:=H_ y;have N1:=H_ P;have H:=H_ r;clear y p L N X P r U;go_wp2_with fail
 go_still_tail 7,(by kernel_rfl)
 go_wp2_with (go_at_fn C.tf;refine (V.out _ (Fr.refl No w1).drew).mono ?_;rintro en l ⟨rfl,D,E,O,Y,Q⟩);have ag:=(K.cell _ _ _ E).lt;have ai:=zab O
 have R:¬ D g:=fun h=>by
  rcases Q g h with h | h
  · exact B h
  have h':w1.heap.size<=g:=h;omega
 have t:Fr (fun b=>G b\/b=g) w1 l:=(Fr.drew (Fr.refl _ w1)).trans Y fun _ _ h=>h;have Z:((cs.set o (.string (C.txt s key).2)).set (o+1) (.string (C.txt (C.txt s key).1 a).2)).length=cs.length:=by simp
 have T:∀ j n,[f,q,d,k][j]?=some n->((cs.set o (.string (C.txt s key).2)).set (o+1) (.string (C.txt (C.txt s key).1 a).2))[o+2+j]?=some (.int .i64 n):=fun j n i=>by
  rw [List.getElem?_set_ne (by omega),List.getElem?_set_ne (by omega)];exact q2 j n i
 have z:=fun W (h:Fr No l W)=>zhp K W _ D g e _ (o+2) [f,q,d,k] l.heap.size 158 (K.at0 E h) (h.heap O id) T R J.out (by simp);have H3:=H_ z;have A:¬ D l.heap.size:=fun h=>by have:=K.lt _ _ _ E _ h;omega
 have N2:=H_ Q;have I:=H_ t;clear z E O Y Q t V;go_wp2_with fail
 go_region_held3 (fun W=>True)
  (exact trivial)
  (first | (go_at_call 139;refine (H3.out _ ((Fr.refl No l).drew.alloc _) (zad _ _ _ rfl) A (by omega)).mono ?_;rintro e w3 ⟨rfl,F3,a3,g3,f3,n3⟩))
 go_wp2_with fail;refine bodyPost_end (results_none rfl _ _ _) rfl ⟨rfl,?_⟩;have M:Fr (fun b=>D b\/b=g) l w3:=((Fr.drew (Fr.refl _ l)).alloc _).trans f3 fun _ _ h=>h;refine Gone1.more H.out N1.out (Fr.refl No w1) (Gone1.more I.out N2.out (Fr.refl No l) ⟨F3,a3,g3,M,fun b hb=>?_⟩);rcases n3 b hb with h | h
 · exact .inl h
 simp at h;exact .inr (by omega)
set_option maxHeartbeats 8000000 in
theorem zrz {σ:Type} {C:Cod σ} (K:CodOk C) (w:World) (s:σ) (F:Nat->Prop) (g:Nat) (e:TypeId) (cs:List Value) (o:Nat) (x:Ev) (hA:C.At w s F) (hg:w.heap[g]?=some (.cells cs.toArray e (0,0)))
 (hc:∀ j u,(evC x)[j]?=some u->cs[o+j]?=some u) (nF:¬ F g) (hsm:C.small (evS C s x).1) :
 Calls Tryz.prog 143 #[.pointer (some ⟨C.c,0,none⟩),.pointer (some ⟨g,o,none⟩)] w fun en w'=>en=.returned (.tuple #[])/\Gone1 C w F g e (evS C s x).1 (putAt cs o (evC (evS C s x).2)) w':=by
 obtain ⟨a,kv,d⟩:=x;have R:=K.enf;have q0:cs[o]?=some (.int .i64 a):=hc 0 _ rfl
 have I:∀ j u,(kvC kv)[j]?=some u->cs[o+1+j]?=some u:=by
  intro j u f;have V:j<6:=(by have:=(List.getElem?_eq_some_iff.1 f).1;rwa [zak] at this);rw [show o+1+j=o+(1+j) by omega];refine hc (1+j) _ ?_;unfold evC;rw [Nat.add_comm 1 j,List.getElem?_cons_succ,List.getElem?_append_left (by rw [zak];omega)];exact f
 have J:∀ j u,(kvC d)[j]?=some u->cs[o+7+j]?=some u:=by
  intro j u f;rw [show o+7+j=o+(7+j) by omega];refine hc (7+j) _ ?_;unfold evC;rw [show 7+j=(6+j)+1 by omega,List.getElem?_cons_succ,List.getElem?_append_right (by rw [zak];omega),zak,show 6+j-6=j by omega];exact f
 have i:=K.cell _ _ _ hA;have c1:=i.cell 0 rfl;have lc:=i.lt;have lg:=zab hg;have L:C.small (kvS C (C.num s a).1 kv).1:=zdr K _ _ hsm;have s1:C.small (C.num s a).1:=zdr K _ _ L;have k:=fun W (h:Fr No w W)=>K.num W s F g e cs o a (K.at0 hA h) (h.heap hg id) q0 nF s1;have O:=H_ k;have p:=H_ hsm;have P:=H_ I;have Q:=H_ J;clear k i hg hA hc I J;go_enter Tryz.func143,Tryz.ntmps143;go_wp2_with fail
 go_still_tail 7,(by kernel_rfl)
 go_wp2_with (first
  | (go_at_fn C.nf;refine (O.out _ (Fr.refl No w).drew).mono ?_;rintro en w1 ⟨rfl,y,A,D,S,G⟩
     have X:=(K.cell _ _ _ A).lt;have Z:=zab D
     have l:¬ y g:=fun h=>by
      rcases G g h with h | h
      · exact nF h
      have U:w.heap.size<=g:=h;omega
     have q:Fr (fun b=>F b\/b=g) w w1:=(Fr.drew (Fr.refl _ w)).trans S fun _ _ h=>h;have t:∀ j u,(kvC kv)[j]?=some u->(cs.set o (.int .i64 (C.num s a).2))[o+1+j]?=some u:=fun j u f=>by rw [List.getElem?_set_ne (by omega)];exact P.out j u f
     have m:=H_ (zhe K w1 _ y g e _ (o+1) kv A D t l L))
  | (go_at_call 141;(with_reducible refine m.out.mono ?_);rintro en M ⟨rfl,z,B,E,T,H⟩
     have Y:=(K.cell _ _ _ B).lt;have a0:=zab E
     have r:¬ z g:=fun h=>by
      rcases H g h with h | h
      · exact l h
      have U:w1.heap.size<=g:=h;omega
     have v:∀ j u,(kvC d)[j]?=some u->(putAt (cs.set o (.int .i64 (C.num s a).2)) (o+1) (kvC (kvS C (C.num s a).1 kv).2))[o+7+j]?=some u:=fun j u f=>by
      rw [zjg _ _ _ _ (by rw [zak];omega),List.getElem?_set_ne (by omega)];exact Q.out j u f
     have n:=H_ (zhe K M _ z g e _ (o+7) d B E v r p.out))
  | (go_at_call 141;(with_reducible refine n.out.mono ?_);rintro en w3 ⟨rfl,N⟩))
 refine bodyPost_end (results_none rfl _ _ _) rfl ⟨rfl,?_⟩;have:=Gone1.more q G (Fr.refl No w1) (Gone1.more T H (Fr.refl No M) N);exact this
def beN:Nat->Nat->List UInt8
 | 0,_=>[]
 | k+1,m=>beN k (m / 256)++[UInt8.ofNat (m % 256)]
def valN (l:List UInt8):Nat:=l.foldl (fun v d=>v * 256+d.toNat) 0
theorem zol (l:List UInt8) (d:UInt8):valN (l++[d])=valN l * 256+d.toNat:=by
 unfold valN;rw [List.foldl_append]
 rfl
theorem zmq:∀ k m,(beN k m).length=k
 | 0,_=>rfl
 | k+1,m=>by unfold beN;rw [List.length_append,zmq k];rfl
theorem zsl:∀ k m,valN (beN k m)=m % 256 ^ k
 | 0,m=>by rw [Nat.pow_zero,Nat.mod_one];rfl
 | k+1,m=>by
   unfold beN;rw [zol,zsl k,Nat.pow_succ,Nat.mul_comm (256 ^ k) 256,Nat.mod_mul]
   have:(UInt8.ofNat (m % 256)).toNat=m % 256:=by
    rw [UInt8.toNat_ofNat'];omega
   rw [this];omega
def numB (n:Int):List UInt8:=beN 8 (n % 18446744073709551616).toNat
theorem zam (n:Int):(numB n).length=8:=zmq _ _
def numR (l:List UInt8):Int:=wrap64 (valN l)
theorem zkh {n:Int} (h0 : -9223372036854775808<=n) (h1:n<=9223372036854775807):numR (numB n)=n:=by
 unfold numR numB;rw [zsl,wrap64];rw [show (256:Nat) ^ 8=18446744073709551616 from rfl];omega
def txtB (t:ByteArray):List UInt8:=numB t.size++t.data.toList
def kvB (x:Kv):List UInt8:=txtB x.key++txtB x.value++numB x.create++numB x.mod++numB x.version++numB x.lease
def evB (x:Ev):List UInt8:=numB x.kind++kvB x.kv++kvB x.prev
def stB (rev mark:Int) (kvs:List Kv) (evs:List Ev):List UInt8 :=
 numB rev++numB mark++numB kvs.length++kvs.flatMap kvB++numB evs.length++evs.flatMap evB
def N64 (n:Int):Prop:=-9223372036854775808<=n/\n<=9223372036854775807
def KvN (x:Kv):Prop:=x.key.size<=9223372036854775807/\x.value.size<=9223372036854775807/\N64 x.create/\N64 x.mod/\N64 x.version/\N64 x.lease
def EvN (x:Ev):Prop:=N64 x.kind/\KvN x.kv/\KvN x.prev
abbrev Rd:=List UInt8×Bool
def rdN (s:Rd):Rd×Int:=if s.1.length<8 then ((s.1,true),0) else ((s.1.drop 8,s.2),numR (s.1.take 8))
def rdT (s:Rd):Rd×ByteArray :=
 let a:=rdN s
 if a.2<0\/(a.1.1.length:Int)<a.2 then ((a.1.1,true),ByteArray.empty) else ((a.1.1.drop a.2.toNat,a.1.2),⟨(a.1.1.take a.2.toNat).toArray⟩)
structure Way (σ:Type) where
 num:σ->Int->σ×Int
 txt:σ->ByteArray->σ×ByteArray
 bad:σ->Bool
def wrW:Way (List UInt8):=⟨fun s n=>(s++numB n,n),fun s t=>(s++txtB t,t),fun _=>false⟩
def rdW:Way Rd:=⟨fun s _=>rdN s,fun s _=>rdT s,fun s=>s.2⟩
section
variable {σ:Type} (C:Way σ)
def kvW (s:σ) (x:Kv):σ×Kv :=
 let k:=C.txt s x.key
 let v:=C.txt k.1 x.value
 let a:=C.num v.1 x.create
 let b:=C.num a.1 x.mod
 let c:=C.num b.1 x.version
 let d:=C.num c.1 x.lease
 (d.1,⟨k.2,v.2,a.2,b.2,c.2,d.2⟩)
def evW (s:σ) (x:Ev):σ×Ev :=
 let k:=C.num s x.kind
 let a:=kvW C k.1 x.kv
 let b:=kvW C a.1 x.prev
 (b.1,⟨k.2,a.2,b.2⟩)
inductive Lst {α:Type} (ea:σ->α->σ×α) (z:α) (n:Int):Nat->σ->List α->Nat->σ->List α->Prop
 | stop (s:σ) (L:List α) (i:Nat) (h:¬ ((i:Int)<n/\C.bad s=false)):Lst ea z n 0 s L i s L
 | step (g:Nat) (s:σ) (L L1:List α) (i:Nat) (x:α) (s':σ) (L':List α) (h:(i:Int)<n/\C.bad s=false) (h1:L1=if i=L.length then L++[z] else L) (hx:L1[i]?=some x)
    (hr:Lst ea z n g (ea s x).1 (L1.set i (ea s x).2) (i+1) s' L'):Lst ea z n (g+1) s L i s' L'
structure StW (g k:Nat) (s:σ) (rev mark:Int) (kvs:List Kv) (evs:List Ev) (s':σ) (rev' mark':Int) (kvs':List Kv) (evs':List Ev):Prop where
 mid:∃ s3,Lst C (kvW C) kv0 (C.num (C.num (C.num s rev).1 mark).1 kvs.length).2 g (C.num (C.num (C.num s rev).1 mark).1 kvs.length).1 kvs 0 s3 kvs' ∧
  Lst C (evW C) ⟨0,kv0,kv0⟩ (C.num s3 evs.length).2 k (C.num s3 evs.length).1 evs 0 s' evs'
 e1:rev'=(C.num s rev).2
 e2:mark'=(C.num (C.num s rev).1 mark).2
end
theorem Lst.det {σ α:Type} {C:Way σ} {ea:σ->α->σ×α} {z:α} {n:Int} {g:Nat} {s:σ} {L:List α} {i:Nat} {s':σ} {L':List α} (h:Lst C ea z n g s L i s' L') :
 ∀ {g2 s2 L2},Lst C ea z n g2 s L i s2 L2->g=g2/\s'=s2/\L'=L2:=by
 induction h with
 | stop s L i h =>
   intro g2 s2 L2 d
   cases d with
   | stop _ _ _ _=>exact ⟨rfl,rfl,rfl⟩
   | step _ _ _ _ _ _ _ _ h3=>exact absurd h3 h
 | step g s L L1 i x s' L' h h1 hx _ ih =>
   intro g2 s2 L2 d
   cases d with
   | stop _ _ _ h3=>exact absurd h h3
   | step g2 _ _ L12 _ x2 _ _ _ h12 hx2 hr2 =>
     subst h1 h12;rw [hx] at hx2;obtain rfl:=Option.some.inj hx2;obtain ⟨a,b,c⟩:=ih hr2;exact ⟨by rw [a],b,c⟩
/-! Writing leaves what is written as it was. -/
theorem kvW_wr (s:List UInt8) (x:Kv):kvW wrW s x=(s++kvB x,x):=by
 simp [kvW,wrW,kvB]
theorem evW_wr (s:List UInt8) (x:Ev):evW wrW s x=(s++evB x,x):=by
 simp [evW,kvW_wr];simp [wrW,evB]
theorem Lst.wr {α:Type} {ea:List UInt8->α->List UInt8×α} {f:α->List UInt8} (he:∀ s x,ea s x=(s++f x,x)) (z:α) (L:List α) :
 ∀ (g i:Nat) (s:List UInt8),i+g=L.length->Lst wrW ea z L.length g s L i (s++(L.drop i).flatMap f) L
 | 0,i,s,h=>by
   rw [List.drop_of_length_le (by omega)];simp only [List.flatMap_nil,List.append_nil];exact .stop s L i (by omega)
 | g+1,i,s,h=>by
   obtain ⟨x,hx⟩:∃ x,L[i]?=some x:=⟨_,List.getElem?_eq_getElem (by omega)⟩;refine .step g s L L i x _ _ ⟨by omega,rfl⟩ (by rw [if_neg (by omega)]) hx ?_;rw [he];dsimp only
   have hset:L.set i x=L:=by
    apply List.ext_getElem?;intro j;by_cases hj:i=j
    · subst hj
      rw [List.getElem?_set_self (by omega),hx]
    rw [List.getElem?_set_ne hj]
   rw [hset];have:=Lst.wr he z L g (i+1) (s++f x) (by omega);rw [List.append_assoc] at this
   have a:L.drop i=x :: L.drop (i+1):=by
    rw [<-List.getElem_cons_drop (by omega:i<L.length)];rw [List.getElem?_eq_getElem (by omega)] at hx;rw [Option.some.inj hx]
   rw [a,List.flatMap_cons];exact this
theorem StW.wr (rev mark:Int) (kvs:List Kv) (evs:List Ev):StW wrW kvs.length evs.length [] rev mark kvs evs (stB rev mark kvs evs) rev mark kvs evs where
 mid:=⟨numB rev++numB mark++numB kvs.length++kvs.flatMap kvB,by
  have:=Lst.wr (f:=kvB) kvW_wr kv0 kvs kvs.length 0 (numB rev++numB mark++numB kvs.length) (by omega)
  simpa [wrW] using this,by
  have:=Lst.wr (f:=evB) evW_wr ⟨0,kv0,kv0⟩ evs evs.length 0 (numB rev++numB mark++numB kvs.length++kvs.flatMap kvB++numB evs.length) (by omega);simpa [wrW,stB] using this⟩
 e1:=rfl
 e2:=rfl
/-! Reading what was written. -/
theorem zes {n:Int} (h:N64 n) (l:List UInt8) (b:Bool):rdN (numB n++l,b)=((l,b),n):=by
 unfold rdN;dsimp only;have:=zam n;rw [if_neg (by rw [List.length_append];omega),List.drop_left' this,List.take_left' this,zkh h.1 h.2]
theorem zyr {t:ByteArray} (h:t.size<=9223372036854775807) (l:List UInt8) (b:Bool):rdT (txtB t++l,b)=((l,b),t):=by
 unfold rdT txtB;rw [List.append_assoc,zes ⟨by omega,by omega⟩];dsimp only;have a:t.data.toList.length=t.size:=rfl;rw [if_neg (by rw [List.length_append];omega),Int.toNat_natCast,List.drop_left' a,List.take_left' a]
theorem kvW_rd {x:Kv} (h:KvN x) (y:Kv) (l:List UInt8) (b:Bool):kvW rdW (kvB x++l,b) y=((l,b),x):=by
 obtain ⟨a,c,d,e,f,g⟩:=h;simp [kvW,rdW,kvB,zyr,zes, *]
theorem evW_rd {x:Ev} (h:EvN x) (y:Ev) (l:List UInt8) (b:Bool):evW rdW (evB x++l,b) y=((l,b),x):=by
 obtain ⟨c,a,d⟩:=h;simp only [evW,evB,List.append_assoc];simp only [rdW,zes c];have:=kvW_rd a y.kv (kvB x.prev++l) b;have a:=kvW_rd d y.prev l b;simp only [rdW] at this a;rw [this];dsimp only;rw [a]
theorem Lst.rd {α:Type} {ea:Rd->α->Rd×α} {f:α->List UInt8} {P:α->Prop} (he:∀ x,P x->∀ y l b,ea (f x++l,b) y=((l,b),x)) (z:α) (L:List α) (hL:∀ x∈L,P x) (l:List UInt8) :
 ∀ (g i:Nat),i+g=L.length->Lst rdW ea z L.length g ((L.drop i).flatMap f++l,false) (L.take i) i (l,false) L
 | 0,i,h=>by
   rw [List.drop_of_length_le (by omega),List.take_of_length_le (by omega)];exact .stop _ L i (by omega)
 | g+1,i,h=>by
   obtain ⟨x,hx⟩:∃ x,L[i]?=some x:=⟨_,List.getElem?_eq_getElem (by omega)⟩
   have hd:L.drop i=x :: L.drop (i+1):=by
    rw [<-List.getElem_cons_drop (by omega:i<L.length)];rw [List.getElem?_eq_getElem (by omega)] at hx;rw [Option.some.inj hx]
   have a:(L.take i).length=i:=(by rw [List.length_take];omega);have c:=hL x (List.mem_of_getElem? hx);refine .step g _ (L.take i) (L.take i++[z]) i z _ _ ⟨by omega,rfl⟩ (by rw [if_pos a.symm]) (by rw [List.getElem?_append_right (by omega),a,Nat.sub_self];rfl) ?_;rw [hd,List.flatMap_cons,List.append_assoc,he x c];dsimp only
   have d:(L.take i++[z]).set i x=L.take (i+1):=by
    rw [List.take_add_one,hx,List.set_append_right _ _ (by omega),a,Nat.sub_self]
    rfl
   rw [d];exact Lst.rd he z L hL l g (i+1) (by omega)
theorem StW.rd {rev mark:Int} {kvs:List Kv} {evs:List Ev} (h1:N64 rev) (h2:N64 mark) (h3:∀ x∈kvs,KvN x) (h4:∀ x∈evs,EvN x) (h5:kvs.length<=9223372036854775807) (h6:evs.length<=9223372036854775807) (l:List UInt8) :
 StW rdW kvs.length evs.length (stB rev mark kvs evs++l,false) 0 0 [] [] (l,false) rev mark kvs evs:=by
 have i:∀ X,rdN (numB rev++X,false)=((X,false),rev):=fun X=>zes h1 X false;have j:∀ X,rdN (numB mark++X,false)=((X,false),mark):=fun X=>zes h2 X false;have k:∀ X,rdN (numB kvs.length++X,false)=((X,false),(kvs.length:Int)):=fun X=>zes ⟨by omega,by omega⟩ X false;have m:∀ X,rdN (numB evs.length++X,false)=((X,false),(evs.length:Int)):=fun X=>zes ⟨by omega,by omega⟩ X false
 have e:stB rev mark kvs evs++l=numB rev++(numB mark++(numB kvs.length++(kvs.flatMap kvB++(numB evs.length++(evs.flatMap evB++l))))):=by
  unfold stB;simp only [List.append_assoc]
 rw [e];have b1:=Lst.rd (f:=kvB) (P:=KvN) (ea:=kvW rdW) (fun x hx y l b=>kvW_rd hx y l b) kv0 kvs h3 (numB evs.length++(evs.flatMap evB++l)) kvs.length 0 (by omega);have b2:=Lst.rd (f:=evB) (P:=EvN) (ea:=evW rdW) (fun x hx y l b=>evW_rd hx y l b) ⟨0,kv0,kv0⟩ evs h4 l evs.length 0 (by omega);simp only [List.drop_zero,List.take_zero] at b1 b2;generalize evs.flatMap evB++l=c at *;generalize p:kvs.flatMap kvB++(numB evs.length++c)=a at *;have d:rdW.num (numB rev++(numB mark++(numB kvs.length++a)),false) 0=((numB mark++(numB kvs.length++a),false),rev):=i _;have g:rdW.num (numB mark++(numB kvs.length++a),false) 0=((numB kvs.length++a,false),mark):=j _;have n:rdW.num (numB kvs.length++a,false) ((List.length ([]:List Kv):Nat):Int)=((a,false),(kvs.length:Int)):=k _
 have o:rdW.num (numB evs.length++c,false) ((List.length ([]:List Ev):Nat):Int)=((c,false),(evs.length:Int)):=m _;refine ⟨⟨(numB evs.length++c,false),?_,?_⟩,?_,?_⟩
 · rw [d];dsimp only;rw [g];dsimp only;rw [n]
   exact b1
 · rw [o]
   exact b2
 · rw [d]
 rw [d];dsimp only;rw [g]
/-! More behind it is left as it is, unless there was too little. -/
theorem zet (l q:List UInt8) (b:Bool) (h:(rdN (l,b)).1.2=false):b=false/\rdN (l++q,b)=(((rdN (l,b)).1.1++q,false),(rdN (l,b)).2):=by
 unfold rdN at h ⊢
 dsimp only at h ⊢
 by_cases hl:l.length<8
 · rw [if_pos hl] at h;cases h
 rw [if_neg hl] at h ⊢
 have a:b=false:=h;subst a;rw [if_neg (by rw [List.length_append];omega),List.drop_append_of_le_length (by omega),List.take_append_of_le_length (by omega)];exact ⟨rfl,rfl⟩
theorem zys (l q:List UInt8) (b:Bool) (h:(rdT (l,b)).1.2=false):b=false/\rdT (l++q,b)=(((rdT (l,b)).1.1++q,false),(rdT (l,b)).2):=by
 have e:=zet l q b;unfold rdT at h ⊢
 dsimp only at h ⊢
 generalize rdN (l,b)=A at *;obtain ⟨⟨g,a⟩,n⟩:=A;dsimp only at *;by_cases hl:n<0\/(g.length:Int)<n
 · rw [if_pos hl] at h;cases h
 rw [if_neg hl] at h ⊢
 have f:a=false:=h;obtain ⟨c,d⟩:=e f;rw [d];dsimp only;simp only [not_or,Int.not_lt] at hl;rw [if_neg (by rw [List.length_append];omega),List.drop_append_of_le_length (by omega),List.take_append_of_le_length (by omega)];exact ⟨c,rfl⟩
def More {α:Type} (ea:Rd->α->Rd×α):Prop:=∀ l q b x,(ea (l,b) x).1.2=false->b=false/\ea (l++q,b) x=(((ea (l,b) x).1.1++q,false),(ea (l,b) x).2)
theorem zxb:More (kvW rdW):=by
 intro l q b x h;have e:=fun l b=>zet l q b;have L:=fun l b=>zys l q b;unfold kvW at h ⊢
 simp only [rdW] at h ⊢
 generalize E:rdT (l,b)=K at *;obtain ⟨⟨I,s⟩,k⟩:=K;dsimp only at *;generalize F:rdT (I,s)=V at *;obtain ⟨⟨J,t⟩,v⟩:=V;dsimp only at *;generalize u:rdN (J,t)=A at *;obtain ⟨⟨G,o⟩,a⟩:=A;dsimp only at *;generalize w:rdN (G,o)=B at *;obtain ⟨⟨lb,p⟩,S⟩:=B;dsimp only at *;generalize y:rdN (lb,p)=C at *;obtain ⟨⟨H,r⟩,c⟩:=C;dsimp only at *;generalize z:rdN (H,r)=D at *;obtain ⟨⟨U,T⟩,d⟩:=D;dsimp only at *;subst h;obtain ⟨R,n⟩:=e H r (by rw [z]);subst R;obtain ⟨Q,m⟩:=e lb p (by rw [y]);subst Q;obtain ⟨P,j⟩:=e G o (by rw [w]);subst P;obtain ⟨O,i⟩:=e J t (by rw [u]);subst O;obtain ⟨N,g⟩:=L I s (by rw [F]);subst N;obtain ⟨M,f⟩:=L l b (by rw [E]);subst M
 rw [E] at f;rw [F] at g;rw [u] at i;rw [w] at j;rw [y] at m;rw [z] at n;dsimp only at f g i j m n;rw [f];dsimp only;rw [g];dsimp only;rw [i];dsimp only;rw [j];dsimp only;rw [m];dsimp only;rw [n];exact ⟨rfl,rfl⟩
theorem zzau:More (evW rdW):=by
 intro l q b x h;have y:=zet l q b;have o:=fun l b x=>zxb l q b x;unfold evW at h ⊢
 dsimp only at h ⊢
 have c:∀ s n,rdW.num s n=rdN s:=fun _ _=>rfl;simp only [c] at h ⊢
 generalize B:rdN (l,b)=K at *;obtain ⟨⟨p,f⟩,k⟩:=K;dsimp only at *;generalize m:kvW rdW (p,f) x.kv=V at *;obtain ⟨⟨r,g⟩,v⟩:=V;dsimp only at *;generalize j:kvW rdW (r,g) x.prev=A at *;obtain ⟨⟨C,z⟩,a⟩:=A;dsimp only at *;subst h;obtain ⟨w,e⟩:=o r g x.prev (by rw [j]);subst w;obtain ⟨u,d⟩:=o p f x.kv (by rw [m]);subst u;obtain ⟨t,i⟩:=y rfl;subst t;rw [m] at d;rw [j] at e;dsimp only at i d e;rw [i];dsimp only;rw [d];dsimp only;rw [e];exact ⟨rfl,rfl⟩
theorem Lst.more {α:Type} {ea:Rd->α->Rd×α} (he:More ea) {z:α} {n:Int} {g:Nat} {s:Rd} {L:List α} {i:Nat} {s':Rd} {L':List α} (h:Lst rdW ea z n g s L i s' L') (q:List UInt8) (hb:s'.2=false) :
 s.2=false/\Lst rdW ea z n g (s.1++q,false) L i (s'.1++q,false) L':=by
 induction h with
 | stop s L i h =>
   refine ⟨hb,.stop _ L i fun h2=>h ⟨h2.1,hb⟩⟩
 | step g s L L1 i x s' L' h h1 hx _ ih =>
   obtain ⟨c,d⟩:=ih hb;have a:s.2=false:=h.2;obtain ⟨l,b⟩:=s;dsimp only at a;subst a;obtain ⟨_,e⟩:=he l q false x c;refine ⟨rfl,.step g _ L L1 i x _ _ ⟨h.1,rfl⟩ h1 hx ?_⟩;dsimp only;rw [e];exact d
theorem StW.more {g k:Nat} {s:Rd} {rev mark:Int} {kvs:List Kv} {evs:List Ev} {s':Rd} {rev' mark':Int} {kvs':List Kv} {evs':List Ev} (h:StW rdW g k s rev mark kvs evs s' rev' mark' kvs' evs') (q:List UInt8) (hb:s'.2=false) :
 StW rdW g k (s.1++q,false) rev mark kvs evs (s'.1++q,false) rev' mark' kvs' evs':=by
 obtain ⟨⟨j,o,p⟩,r,t⟩:=h;have f:∀ s n,rdW.num s n=rdN s:=fun _ _=>rfl;simp only [f] at o p r t;obtain ⟨x,y⟩:=p.more zzau q hb;obtain ⟨b1,b2⟩:=zet j.1 q j.2 x;obtain ⟨z,A⟩:=o.more zxb q b1;obtain ⟨l,b⟩:=s;generalize d:rdN (l,b)=v at *;obtain ⟨⟨u,a⟩,I⟩:=v;dsimp only at *;generalize e:rdN (u,a)=w at *;obtain ⟨⟨F,m⟩,J⟩:=w;dsimp only at *;obtain ⟨B,C⟩:=zet F q m z;subst B;obtain ⟨D,i⟩:=zet u q a (by rw [e]);subst D;obtain ⟨E,c⟩:=zet l q b (by rw [d]);subst E;rw [d] at c;rw [e] at i;dsimp only at i c;refine ⟨⟨(j.1++q,false),?_,?_⟩,?_,?_⟩
 · show Lst rdW (kvW rdW) kv0 (rdN (rdN (rdN _).1).1).2 _ (rdN (rdN (rdN _).1).1).1 kvs 0 _ kvs'
   rw [c];dsimp only;rw [i];dsimp only;rw [C];exact A
 · show Lst rdW (evW rdW) ⟨0,kv0,kv0⟩ (rdN _).2 _ (rdN _).1 evs 0 _ evs'
   obtain ⟨H,G⟩:=j;dsimp only at *;subst b1;rw [b2];exact y
 · show rev'=(rdN _).2
   rw [c];exact r
 show mark'=(rdN (rdN _).1).2
 rw [c];dsimp only;rw [i];exact t
theorem StW.det {σ:Type} {C:Way σ} {g k g2 k2:Nat} {s:σ} {rev mark:Int} {kvs:List Kv} {evs:List Ev} {s' s2:σ} {rev' mark' rev2 mark2:Int} {kvs' kvs2:List Kv} {evs' evs2:List Ev}
 (h:StW C g k s rev mark kvs evs s' rev' mark' kvs' evs') (h2:StW C g2 k2 s rev mark kvs evs s2 rev2 mark2 kvs2 evs2):g=g2/\k=k2/\s'=s2/\rev'=rev2/\mark'=mark2/\kvs'=kvs2/\evs'=evs2:=by
 obtain ⟨⟨i,a,b⟩,c,d⟩:=h;obtain ⟨⟨j,b1,b2⟩,e,f⟩:=h2;obtain ⟨rfl,rfl,rfl⟩:=a.det b1;obtain ⟨rfl,rfl,rfl⟩:=b.det b2;exact ⟨rfl,rfl,rfl,c.trans e.symm,d.trans f.symm,rfl,rfl⟩
/-! Whatever bytes there are, reading them ends. -/
theorem zcc (s:Rd):(rdN s).1.1.length<=s.1.length/\((rdN s).1.2=false->(rdN s).1.1.length+8<=s.1.length):=by
 unfold rdN
 split
 · exact ⟨Nat.le_refl _,fun h=>by cases h⟩
 dsimp only
 rw [List.length_drop];exact ⟨by omega,fun _=>by omega⟩
theorem znb (s:Rd):(rdT s).1.1.length<=s.1.length/\((rdT s).1.2=false->(rdT s).1.1.length+8<=s.1.length):=by
 have h:=zcc s;unfold rdT;dsimp only
 split
 · exact ⟨h.1,fun h=>by cases h⟩
 dsimp only
 rw [List.length_drop];exact ⟨by omega,fun e=>by have:=h.2 e;omega⟩
def Less {α:Type} (ea:Rd->α->Rd×α):Prop:=∀ s x,(ea s x).1.1.length<=s.1.length/\((ea s x).1.2=false->(ea s x).1.1.length+8<=s.1.length)
theorem zha:Less (kvW rdW):=by
 intro s x;unfold kvW;simp only [rdW];have b:=znb s;generalize rdT s=K at *;have c:=znb K.1;generalize rdT K.1=V at *;have d:=zcc V.1;generalize rdN V.1=A at *;have f:=zcc A.1;generalize rdN A.1=B at *;have g:=zcc B.1;generalize rdN B.1=C at *;have a:=zcc C.1;generalize rdN C.1=D at *;exact ⟨by omega,fun e=>by have:=a.2 e;omega⟩
theorem zrp:Less (evW rdW):=by
 intro s x;unfold evW;have a:∀ s n,rdW.num s n=rdN s:=fun _ _=>rfl;simp only [a];have c:=zcc s;generalize rdN s=K at *;have d:=zha K.1 x.kv;generalize kvW rdW K.1 x.kv=V at *;have b:=zha V.1 x.prev;generalize kvW rdW V.1 x.prev=A at *;exact ⟨by omega,fun e=>by have:=b.2 e;omega⟩
theorem Lst.ends {α:Type} {ea:Rd->α->Rd×α} (he:Less ea) (z:α) (n:Int):∀ (m:Nat) (s:Rd) (L:List α) (i:Nat),s.1.length<m->i<=L.length->∃ g s' L',Lst rdW ea z n g s L i s' L'/\g<=m/\s'.1.length<=s.1.length/\L'.length<=L.length+g:=by
 intro m
 induction m with
 | zero=>intro s L i h;omega
 | succ m ih =>
   intro s L i h p;by_cases hc:(i:Int)<n/\rdW.bad s=false
   · obtain ⟨a,b⟩:∃ a,a=if i=L.length then L++[z] else L:=⟨_,rfl⟩
     have k:i<a.length/\a.length<=L.length+1:=by
      rw [b]
      split
      · rw [List.length_append,List.length_singleton];omega
      omega
     obtain ⟨x,c⟩:∃ x,a[i]?=some x:=⟨_,List.getElem?_eq_getElem (by omega)⟩;obtain ⟨d,e⟩:=he s x;by_cases hb:(ea s x).1.2=false
     · obtain ⟨g,s',L',f,l,o,j⟩:=ih (ea s x).1 (a.set i (ea s x).2) (i+1) (by have:=e hb;omega) (by rw [List.length_set];omega)
       rw [List.length_set] at j;exact ⟨g+1,s',L',.step g s L a i x s' L' hc b c f,by omega,by omega,by omega⟩
     refine ⟨1,_,_,.step 0 s L a i x _ _ hc b c (.stop _ _ _ fun h=>hb h.2),by omega,d,?_⟩
     rw [List.length_set];omega
   exact ⟨0,s,L,.stop s L i hc,by omega,Nat.le_refl _,by omega⟩
theorem StW.ends (s:Rd):∃ g k s' rev' mark' kvs' evs',StW rdW g k s 0 0 [] [] s' rev' mark' kvs' evs'/\g<=s.1.length+1/\k<=s.1.length+1/\kvs'.length<=s.1.length+1/\evs'.length<=s.1.length+1:=by
 have j:=(zcc s).1;have l:=(zcc (rdN s).1).1;have m:=(zcc (rdN (rdN s).1).1).1;obtain ⟨g,a,kvs',b,e,f,c⟩:=Lst.ends zha kv0 (rdN (rdN (rdN s).1).1).2 ((rdN (rdN (rdN s).1).1).1.1.length+1) (rdN (rdN (rdN s).1).1).1 [] 0 (by omega) (Nat.le_refl _);have n:=(zcc a).1;obtain ⟨k,s',evs',b1,b2,i,d⟩:=Lst.ends zrp ⟨0,kv0,kv0⟩ (rdN a).2 ((rdN a).1.1.length+1) (rdN a).1 [] 0 (by omega) (Nat.le_refl _);simp only [List.length_nil,Nat.zero_add] at c d;exact ⟨g,k,s',_,_,kvs',evs',⟨⟨a,b,b1⟩,rfl,rfl⟩,by omega,by omega,by omega,by omega⟩
theorem StW.cut {rev mark:Int} {kvs:List Kv} {evs:List Ev} (h1:N64 rev) (h2:N64 mark) (h3:∀ x∈kvs,KvN x) (h4:∀ x∈evs,EvN x) (h5:kvs.length<=9223372036854775807) (h6:evs.length<=9223372036854775807)
 {p q:List UInt8} (hp:p++q=stB rev mark kvs evs) (hq:q≠[]) {g k:Nat} {s':Rd} {rev' mark':Int} {kvs':List Kv} {evs':List Ev} (h:StW rdW g k (p,false) 0 0 [] [] s' rev' mark' kvs' evs'):s'.2=true:=by
 cases hb:s'.2 with
 | true=>rfl
 | false =>
   have a:=h.more q hb;dsimp only at a;rw [hp] at a;have b:=StW.rd h1 h2 h3 h4 h5 h6 [];rw [List.append_nil] at b;obtain ⟨_,_,e,_⟩:=a.det b;have:s'.1++q = []:=congrArg Prod.fst e;rw [List.append_eq_nil_iff] at this;exact absurd this.2 hq
theorem SlF.row {α:Type} {f:α->List Value} {w:World} {e sz g o cap:Nat} {L:List α} (hf:∀ x,(f x).length=sz) (h:SlF w e sz f (.slice (some ⟨g,o,none⟩) L.length cap) L) :
 ∃ cs:List Value,w.heap[g]?=some (.cells cs.toArray e (0,0))/\o+cap * sz<=cs.length/\L.length<=cap/\cap<=maxLen/\(cs.drop o).take (L.length * sz)=L.flatMap f ∧
  ∀ (i:Nat) (x:α),L[i]?=some x->∀ (j:Nat) (u:Value),(f x)[j]?=some u->cs[o+i * sz+j]?=some u:=by
 have b:=h;rcases h.2 with ⟨b,_⟩ | ⟨r,s,c,a,q,k,l,m,n,p⟩
 · cases b
 cases q
 refine ⟨a.toList,by simpa using k,by simpa using n,l,m,p,fun i x hx j u hu=>?_⟩;have d:=b.cell hf i j hx hu;simp [World.cell?,k] at d;simpa using d
theorem SlF.laidAt {α:Type} {f:α->List Value} {w':World} {e sz g o cap:Nat} {L:List α} (hf:∀ x,(f x).length=sz) {cs:List Value} (h3:o+cap * sz<=cs.length) (h1:L.length<=cap) (h2:cap<=maxLen)
 (h4:(cs.drop o).take (L.length * sz)=L.flatMap f) {i:Nat} (hi:i<L.length) (x':α) (hw:w'.heap[g]?=some (.cells (putAt cs (o+i * sz) (f x')).toArray e (0,0))) :
 SlF w' e sz f (.slice (some ⟨g,o,none⟩) L.length cap) (L.set i x'):=by
 have m:L.length * sz<=cap * sz:=Nat.mul_le_mul_right _ h1
 have u:i * sz+sz<=L.length * sz:=by
  have:=Nat.mul_le_mul_right sz (show i+1<=L.length by omega);rw [Nat.add_mul,Nat.one_mul] at this;exact this
 have p:=hf x';unfold SlF Sl;rw [List.length_set];refine ⟨by rw [zaq hf,List.length_set],.inr ⟨g,o,cap,_,rfl,hw,h1,h2,by simpa [zin] using h3,?_⟩⟩;simp only;apply List.ext_getElem?;intro k;rw [List.getElem?_take];by_cases hk:k<L.length * sz
 · rw [if_pos hk,List.getElem?_drop]
   rcases Nat.eq_zero_or_pos sz with n | j
   · subst n;omega
   have c:k=k / sz * sz+k % sz:=(by rw [Nat.mul_comm];exact (Nat.div_add_mod k sz).symm);have d:k % sz<sz:=Nat.mod_lt _ j;generalize w:k / sz=q at c;generalize v:k % sz=r at c d
   have b:∀ x,L[q]?=some x->cs[o+(q * sz+r)]?=(f x)[r]?:=fun x hx=>by
    have l:=zjl hf L q r d;rw [hx,<-h4,List.getElem?_take,if_pos (by omega),List.getElem?_drop] at l;exact l
   have a:q<L.length:=by
    rcases Nat.lt_or_ge q L.length with h | h
    · exact h
    have:=Nat.mul_le_mul_right sz h
    omega
   rw [c,zjl hf _ q r d]
   show (putAt cs (o+i * sz) (f x'))[o+(q * sz+r)]?=_
   rcases Nat.lt_trichotomy q i with t | rfl | s
   · have:=Nat.mul_le_mul_right sz (show q+1<=i by omega)
     rw [Nat.add_mul,Nat.one_mul] at this;rw [zne _ _ _ _ (by omega),List.getElem?_set_ne (by omega),b _ (List.getElem?_eq_getElem a),List.getElem?_eq_getElem a]
     rfl
   · rw [show o+(q * sz+r)=o+q * sz+r by omega,zsu _ _ _ _ (by omega) (by omega),List.getElem?_set_self a]
     rfl
   have:=Nat.mul_le_mul_right sz (show i+1<=q by omega)
   rw [Nat.add_mul,Nat.one_mul] at this;rw [zjg _ _ _ _ (by omega),List.getElem?_set_ne (by omega),b _ (List.getElem?_eq_getElem a),List.getElem?_eq_getElem a]
   rfl
 rw [if_neg hk]
 symm
 rw [List.getElem?_eq_none_iff,zaq hf,List.length_set];omega
def Cod.way {σ:Type} (C:Cod σ):Way σ:=⟨C.num,C.txt,C.bad⟩
theorem Lst.small {σ α:Type} {C:Cod σ} {ea:σ->α->σ×α} (he:∀ s x,C.small (ea s x).1->C.small s) {z:α} {n:Int} {g:Nat} {s:σ} {L:List α} {i:Nat} {s':σ} {L':List α} (h:Lst C.way ea z n g s L i s' L') (hs:C.small s'):C.small s:=by
 induction h with
 | stop=>exact hs
 | step _ _ _ _ _ _ _ _ _ _ _ _ ih=>exact he _ _ (ih hs)
theorem zzap (y:Kv):∀ u∈kvC y,u.oneCell'=true:=by intro u a;simp [kvC] at a;rcases a with rfl | rfl | rfl | rfl | rfl | rfl <;> rfl
end Go.Proofs.YthljnnjpmdgkoaaGreat