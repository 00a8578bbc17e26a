/- Own lemmas. -/
import Derived.Test.YthljnnjpmdgkoaaGreatI15
import Derived.Test.YthljnnjpmdgkoaaGreatI18
import Derived.Test.YthljnnjpmdgkoaaGreatI13
import Derived.Test.YthljnnjpmdgkoaaGreatI14
import Derived.BigRegion
import Derived.Deep.DeepCutAuto
namespace Go.Proofs.YthljnnjpmdgkoaaGreat
open Go Go.Proofs Go.RowKit
set_option maxRecDepth 100000
def clash (o p:Opr):Bool:=(p.kind==1&&p.rg.key.toList==o.rg.key.toList)||(p.kind==2&&inB o.rg.key p.rg.key p.rg.end_)
theorem zsa (w:World) (o p:Opr) (b:Nat) (hb:w.heap[b]?=some (.cells (opC o).toArray 94 (0,0))) :
 Calls Tryz.prog 128 #[opV p,.pointer (some ⟨b,0,none⟩)] w fun e w'=>e=.returned (.bool (clash o p))/\Fr No w w':=by
 obtain ⟨a,⟨f,i,j,k,l,m,n⟩,r,s⟩:=p;unfold opV clash;dsimp only;have g:=zab hb;have t:w.cell? ⟨b,1,none⟩=some (.string o.rg.key):=by unfold World.cell?;simp only;rw [hb];rfl
 have q:=H_ hb;clear hb;by_cases h1:a=1
 · subst h1
   cases h2:(f.toList==o.rg.key.toList)
   · go_enter Tryz.func128,Tryz.ntmps128
     go_wp2;go_ret;exact ⟨by simp,(Fr.refl No w).alloc _⟩
   go_enter Tryz.func128,Tryz.ntmps128
   go_wp2;go_ret;exact ⟨by simp,(Fr.refl No w).alloc _⟩
 have c:(a==1)=false:=by simpa using h1
 by_cases h2:a=2
 · subst h2
   go_enter Tryz.func128,Tryz.ntmps128;go_wp2_with (go_at_call 129;refine (zzae _ _ _ _).mono ?_;rintro e w' ⟨rfl,rfl⟩);go_ret;exact ⟨by simp,(Fr.refl No w).alloc _⟩
 have d:(a==2)=false:=by simpa using h2
 go_enter Tryz.func128,Tryz.ntmps128;go_wp2;go_ret;exact ⟨by simp [c,d],(Fr.refl No w).alloc _⟩
def idxOp (P:Opr->Bool) (l:List Opr):Int:=if l.findIdx P=l.length then -1 else (l.findIdx P:Int)
theorem zjb (w:World) (v:Value) (l:List Opr) (o:Opr) (b:Nat) (hb:w.heap[b]?=some (.cells (opC o).toArray 94 (0,0))) (hv:SlR w 10 opC v l) (hl:l.length<=1099511627) :
 Calls Tryz.prog 165 #[v,.func (.func 128) #[] #[.pointer (some ⟨b,0,none⟩)]] w fun e w'=>e=.returned (.int .i64 (idxOp (clash o) l))/\Fr No w w':=by
 obtain ⟨a,cap,rfl,F,G,B⟩:=hv.shape;have E:=H_ hv;clear hv;have C:=H_ B;clear B;have D:=H_ hb;clear hb;go_enter Tryz.func165,Tryz.ntmps165;go_wp2
 go_loopg [8] l.length (fun g s8 wr=>∃ i:Nat,s8=.int .i64 i/\i+g=l.length/\Hid (∀ j,j<i->∀ p,l[j]?=some p->clash o p=false)/\Hid (Fr No w wr))
 case atStart=>exact ⟨0,rfl,by simp,H_ (by simp),H_ (Fr.refl No w)⟩
 case round =>
  obtain ⟨i,rfl,I,r,k⟩:=hrel
  cases gk with
  | zero =>
    have z:¬ (i:Int)<(l.length:Int):=(by omega);go_wp2;go_ret;refine ⟨?_,k.out⟩
    have A:l.findIdx (clash o)=l.length:=by
     rw [List.findIdx_eq_length];intro x d;obtain ⟨j,n,rfl⟩:=List.getElem_of_mem d;exact r.out j (by omega) _ (List.getElem?_eq_getElem n)
    unfold idxOp;rw [if_pos A]
    rfl
  | succ g =>
    obtain ⟨H,go,rfl⟩:=C.out (by omega);obtain ⟨p,d⟩:∃ p,l[i]?=some p:=⟨_,List.getElem?_eq_getElem (by omega)⟩;have c:=E.out.fr0 k.out;have J:=c.cell0 zaf i d rfl;have K:=c.cell zaf i 1 d rfl;have L:=c.cell zaf i 2 d rfl;have M:=c.cell zaf i 3 d rfl;have N:=c.cell zaf i 4 d rfl;have O:=c.cell zaf i 5 d rfl;have P:=c.cell zaf i 6 d rfl;have Q:=c.cell zaf i 7 d rfl;have R:=c.cell zaf i 8 d rfl;have S:=c.cell zaf i 9 d rfl;have z:(i:Int)<(l.length:Int):=(by omega);have f:=zsa wr o p b (k.out.heap D.out id);unfold opV at f;cases hp:clash o p
    · rw [hp] at f
      have t:=H_ d;have s:=H_ hp;clear d hp c;go_wp2_with (go_at_call 128;refine f.mono ?_;rintro e w1 ⟨rfl,u⟩);go_roundg g
      case rel=>exact ⟨i+1,by go_num,by omega,H_ (fun j n q hq=>by
       by_cases hji:j=i
       · subst hji;rw [t.out] at hq;cases hq;exact s.out
       exact r.out j (by omega) q hq),H_ (k.out.trans0 u)⟩
      case measure=>omega
    rw [hp] at f
    have t:=H_ d;have s:=H_ hp;clear d hp c;go_wp2_with (go_at_call 128;refine f.mono ?_;rintro e w1 ⟨rfl,u⟩);go_ret;refine ⟨?_,k.out.trans0 u⟩
    have A:l.findIdx (clash o)=i:=by
     have m:i<l.length:=(by omega);rw [List.findIdx_eq m];have y:l[i]=p:=(List.getElem?_eq_some_iff.1 t.out).2;refine ⟨by rw [y];exact s.out,fun j n=>?_⟩;exact r.out j n _ (List.getElem?_eq_getElem (by omega))
    unfold idxOp;rw [A,if_neg (by omega)]
    rfl
theorem zdv (w:World) (v:Value) (l:List Opr) (o:Opr) (b:Nat) (hb:w.heap[b]?=some (.cells (opC o).toArray 94 (0,0))) (hv:SlR w 10 opC v l) (hl:l.length<=1099511627) :
 Calls Tryz.prog 130 #[v,.func (.func 128) #[] #[.pointer (some ⟨b,0,none⟩)]] w fun e w'=>e=.returned (.bool (l.any (clash o)))/\Fr No w w':=by
 have a:=zjb w v l o b hb hv hl
 have f:(0<=idxOp (clash o) l/\l.any (clash o)=true)\/(¬ 0<=idxOp (clash o) l/\l.any (clash o)=false):=by
  unfold idxOp;by_cases h:l.findIdx (clash o)=l.length
  · rw [if_pos h]
    rw [List.findIdx_eq_length] at h;exact .inr ⟨by omega,by rw [List.any_eq_false];simpa using h⟩
  rw [if_neg h]
  refine .inl ⟨by omega,?_⟩;have c:l.findIdx (clash o)<l.length:=Nat.lt_of_le_of_ne List.findIdx_le_length h;rw [List.any_eq_true];exact ⟨_,List.getElem_mem c,List.findIdx_getElem⟩
 generalize idxOp (clash o) l=n at *;generalize l.any (clash o)=t at *;clear hv hb;rcases f with ⟨d,rfl⟩ | ⟨d,rfl⟩
 all_goals
  go_enter Tryz.func130,Tryz.ntmps130;go_wp2_with (go_at_call 165;refine a.mono ?_;rintro e w1 ⟨rfl,g⟩);go_ret;exact ⟨by first | rfl | (simp;omega),g⟩
def zfq (l:List Opr) (i:Nat):Bool:=match l[i]? with
 | some o=>o.kind==1&&((l.take i).any (clash o)||(l.drop (i+1)).any (clash o))
 | none=>false
def twice (l:List Opr):Bool:=(List.range l.length).any (zfq l)
def checkE (l:List Opr):Int:=if 16<l.length then 31 else match l.find? fun o=>oneE o != 0 with
 | some o=>oneE o
 | none=>if twice l then 34 else 0
set_option maxHeartbeats 4000000 in
theorem zlm (w:World) (v:Value) (l:List Opr) (hv:SlR w 10 opC v l) (hl:l.length<=1099511627) (hks:∀ o∈l,o.rg.key.size<=1099511627776) :
 Calls Tryz.prog 83 #[v] w fun e w'=>e=.returned (.int .i64 (checkE l))/\Fr No w w':=by
 obtain ⟨a,cap,rfl,az,aA,ha⟩:=hv.shape;have HV:=H_ hv;clear hv;have HA:=H_ ha;clear ha;have af:=H_ hks;clear hks;by_cases h16:16<l.length
 · have a2:(16:Int)<(l.length:Int):=by omega
   have:checkE l=31:=(by unfold checkE;rw [if_pos h16]);rw [this];go_enter Tryz.func83,Tryz.ntmps83;go_wp2;go_ret;exact ⟨rfl,Fr.refl No w⟩
 have a2:¬ (16:Int)<(l.length:Int):=by omega
 have hE:checkE l=match l.find? fun o=>oneE o != 0 with
  | some o=>oneE o
  | none=>if twice l then 34 else 0:=by unfold checkE;rw [if_neg h16]
 have HE:=H_ hE;clear hE;go_enter Tryz.func83,Tryz.ntmps83;go_wp2
 go_loopg [14] l.length (fun g s14 wr=>∃ i:Nat,s14=.int .i64 i/\i+g=l.length/\Hid (∀ j,j<i->∀ p,l[j]?=some p->oneE p=0)/\Hid (Fr No w wr))
 case atStart=>exact ⟨0,rfl,by simp,H_ (by simp),H_ (Fr.refl No w)⟩
 case round =>
  obtain ⟨i,rfl,hi,S,u⟩:=hrel
  cases gk with
  | zero =>
    have Y:¬ (i:Int)<(l.length:Int):=(by omega)
    have y:checkE l=if twice l then 34 else 0:=by
     rw [HE.out]
     have:l.find? (fun o=>oneE o != 0)=none:=by
      rw [List.find?_eq_none];intro x f;obtain ⟨j,Z,rfl⟩:=List.getElem_of_mem f;have:=S.out j (by omega) _ (List.getElem?_eq_getElem Z);simp [this]
     rw [this]
    have E:=H_ y;clear y;have ae:=u;clear S;have aG:∀ (fn:Fn) (first cap:Array Value) (w:World),(Instr.makeFunc fn first cap).run Tryz.prog w=.ok (.func fn first cap) w:=fun _ _ _ _=>rfl;go_wp2
    go_loopg [26] l.length (fun g s26 wr=>∃ i:Nat,s26=.int .i64 i/\i+g=l.length/\Hid (∀ j,j<i->zfq l j=false)/\Hid (Fr No w wr))
    case atStart=>exact ⟨0,rfl,by simp,H_ (by simp),ae⟩
    case round =>
     obtain ⟨i,rfl,hi,S,u⟩:=hrel
     cases gk with
     | zero =>
       have Y:¬ (i:Int)<(l.length:Int):=(by omega)
       have a3:checkE l=0:=by
        rw [E.out]
        have:twice l=false:=by
         unfold twice;rw [List.any_eq_false];intro j Z;simp at Z;simpa using S.out j (by omega)
        rw [this];rfl
       have ad:=H_ a3;clear a3;go_wp2;go_ret;exact ⟨by rw [ad.out];rfl,u.out⟩
     | succ g =>
       obtain ⟨gb,go,rfl⟩:=HA.out (by omega);obtain ⟨p,f⟩:∃ p,l[i]?=some p:=⟨_,List.getElem?_eq_getElem (by omega)⟩;have c:=HV.out.fr0 u.out;have x0:=c.cell0 zaf i f rfl;have x1:=c.cell zaf i 1 f rfl;have x2:=c.cell zaf i 2 f rfl;have x3:=c.cell zaf i 3 f rfl;have x4:=c.cell zaf i 4 f rfl;have x5:=c.cell zaf i 5 f rfl;have x6:=c.cell zaf i 6 f rfl;have x7:=c.cell zaf i 7 f rfl;have x8:=c.cell zaf i 8 f rfl;have x9:=c.cell zaf i 9 f rfl;have Y:(i:Int)<(l.length:Int):=(by omega);have a9:zfq l i=(p.kind==1&&((l.take i).any (clash p)||(l.drop (i+1)).any (clash p))):=(by unfold zfq;rw [f]);have a1:=H_ c;have a0:=H_ a9
       have N:∀ b:Bool,zfq l i=b->b=true->checkE l=34:=by
        intro b hb ai;rw [E.out,if_pos];unfold twice;rw [List.any_eq_true];exact ⟨i,by simp;omega,by rw [hb,ai]⟩
       have F:=H_ N;clear f c a9 N;obtain ⟨p1,⟨G,H,I,J,K,L,M⟩,O,P⟩:=p
       have B:∀ (wz:World),zfq l i=false->Fr No w wz->∃ k:Nat,Value.int .i64 ((i:Int)+1)=.int .i64 k/\k+g=l.length/\Hid (∀ j,j<k->zfq l j=false)/\Hid (Fr No w wz):=fun wz h s =>
        ⟨i+1,by go_num,by omega,H_ (fun j Z=>by
          by_cases hji:j=i
          · subst hji;exact h
          exact S.out j (by omega)),H_ s⟩
       have HN:=H_ B;clear B;by_cases h1:p1=1
       · subst h1
         have aC:(0:Int)<=(i:Int)+1:=(by omega);have aD:(i:Int)+1<=(l.length:Int):=(by omega);have aj:i<=l.length:=(by omega);have ak:i+1<=l.length:=(by omega);have aE:(i:Int)<=(cap:Int):=(by omega);have aF:i<=cap:=(by omega);have a8:=a1.out.take zaf i aj;have a7:=a1.out.drop zaf (i+1) ak;have V:=H_ a8;have U:=H_ a7;clear a8 a7;have aa:(l.take i).length=i:=(by simp;omega);have a5:(l.drop (i+1)).length=l.length-(i+1):=(by simp);have t:=fun W hb hv=>zdv W (.slice (some ⟨gb,go,none⟩) i cap) (l.take i) ⟨1,⟨G,H,I,J,K,L,M⟩,O,P⟩ wr.heap.size hb hv (by omega);have r:=fun W A hb hv=>zdv W (.slice A (l.length-(i+1)) (cap-(i+1))) (l.drop (i+1)) ⟨1,⟨G,H,I,J,K,L,M⟩,O,P⟩ wr.heap.size hb hv (by omega);have av:=H_ aa
         have au:=H_ a5;clear aa a5;generalize ay:(if cap=i+1 then some (⟨gb,go,none⟩:Addr) else some ⟨gb,go+(i+1) * 10,none⟩)=A1 at U;have d:=a0.out;simp only at d;cases ht1:(l.take i).any (clash ⟨1,⟨G,H,I,J,K,L,M⟩,O,P⟩)
         · rw [ht1] at t d
           have D:=H_ t;clear t ht1;cases ht2:(l.drop (i+1)).any (clash ⟨1,⟨G,H,I,J,K,L,M⟩,O,P⟩)
           · rw [ht2] at r d
             have R:=H_ r;have n:=H_ d;clear r ht2 d
             go_wp2_with (first
              | (go_at_call 130;refine (D.out _ (zad _ _ _ rfl) (V.out.alloc _)).mono ?_;rintro e w1 ⟨rfl,s⟩
                 have z:=s.heap (zad wr (.cells #[.int .i64 1,.string G,.string H,.int .i64 I,.int .i64 J,.bool K,.bool L,.bool M,.string O,.int .i64 P] 94) _ rfl) id;have C:=(U.out.alloc (.cells #[.int .i64 1,.string G,.string H,.int .i64 I,.int .i64 J,.bool K,.bool L,.bool M,.string O,.int .i64 P] 94)).fr0 s;have Q:=H_ z;have T:=H_ C;clear z C)
              | (go_at_call 130;refine (R.out _ _ Q.out T.out).mono ?_;rintro e w2 ⟨rfl,X⟩))
             go_roundg g
             case rel=>exact HN.out _ (by rw [n.out];rfl) (((u.out.alloc _).trans0 s).trans0 X)
             case measure=>omega
           rw [ht2] at r d
           have R:=H_ r;have n:=H_ d;clear r ht2 d
           go_wp2_with (first
            | (go_at_call 130;refine (D.out _ (zad _ _ _ rfl) (V.out.alloc _)).mono ?_;rintro e w1 ⟨rfl,s⟩
               have z:=s.heap (zad wr (.cells #[.int .i64 1,.string G,.string H,.int .i64 I,.int .i64 J,.bool K,.bool L,.bool M,.string O,.int .i64 P] 94) _ rfl) id;have C:=(U.out.alloc (.cells #[.int .i64 1,.string G,.string H,.int .i64 I,.int .i64 J,.bool K,.bool L,.bool M,.string O,.int .i64 P] 94)).fr0 s;have Q:=H_ z;have T:=H_ C;clear z C)
            | (go_at_call 130;refine (R.out _ _ Q.out T.out).mono ?_;rintro e w2 ⟨rfl,X⟩))
           go_ret;exact ⟨by rw [F.out _ n.out rfl];rfl,((u.out.alloc _).trans0 s).trans0 X⟩
         rw [ht1] at t d
         have D:=H_ t;have n:=H_ d;clear t ht1 r d;go_wp2_with (go_at_call 130;refine (D.out _ (zad _ _ _ rfl) (V.out.alloc _)).mono ?_;rintro e w1 ⟨rfl,s⟩);go_ret;exact ⟨by rw [F.out _ n.out rfl];rfl,(u.out.alloc _).trans0 s⟩
       have ah:(p1==1)=false:=by simpa using h1
       go_wp2;go_roundg g
       case rel=>exact HN.out _ (by rw [a0.out,ah];rfl) (u.out.alloc _)
       case measure=>omega
  | succ g =>
    obtain ⟨gb,go,rfl⟩:=HA.out (by omega);obtain ⟨p,f⟩:∃ p,l[i]?=some p:=⟨_,List.getElem?_eq_getElem (by omega)⟩;have c:=HV.out.fr0 u.out;have x0:=c.cell0 zaf i f rfl;have x1:=c.cell zaf i 1 f rfl;have x2:=c.cell zaf i 2 f rfl;have x3:=c.cell zaf i 3 f rfl;have x4:=c.cell zaf i 4 f rfl;have x5:=c.cell zaf i 5 f rfl;have x6:=c.cell zaf i 6 f rfl;have x7:=c.cell zaf i 7 f rfl;have x8:=c.cell zaf i 8 f rfl;have x9:=c.cell zaf i 9 f rfl;have Y:(i:Int)<(l.length:Int):=(by omega);have m:=fun W=>zwu W p (af.out p (List.mem_of_getElem? f));unfold opV at m;by_cases hp:oneE p=0
    · rw [hp] at m
      have Hx:=H_ f;have Hp:=H_ hp;have Ho:=H_ m;clear f hp c m;go_wp2_with (go_at_call 127;refine (Ho.out _).mono ?_;rintro e w1 ⟨rfl,s⟩);go_roundg g
      case rel=>exact ⟨i+1,by go_num,by omega,H_ (fun j Z q hq=>by
       by_cases hji:j=i
       · subst hji;rw [Hx.out] at hq;cases hq;exact Hp.out
       exact S.out j (by omega) q hq),H_ ((u.out.alloc _).trans0 s)⟩
      case measure=>omega
    have aH:(oneE p==0)=false:=by simpa using hp
    have y:checkE l=oneE p:=by
     rw [HE.out]
     have:l.find? (fun o=>oneE o != 0)=some p:=by
      rw [List.find?_eq_some_iff_getElem];have a6:i<l.length:=(by omega);refine ⟨by simpa using hp,i,a6,(List.getElem?_eq_some_iff.1 f).2,fun j Z=>?_⟩;have:=S.out j Z _ (List.getElem?_eq_getElem (by omega));simp [this]
     rw [this]
    have E:=H_ y;have Ho:=H_ m;generalize oneE p=ep at *;clear f hp c m y;go_wp2_with (go_at_call 127;refine (Ho.out _).mono ?_;rintro e w1 ⟨rfl,s⟩);go_ret;exact ⟨by rw [E.out];rfl,(u.out.alloc _).trans0 s⟩
structure Ans where
 kind:Int
 kvs:List Kv
 count:Int
 more:Bool
def ansC (q:Ans×Value):List Value:=[.int .i64 q.1.kind,q.2,.int .i64 q.1.count,.bool q.1.more]
structure AnsR (w:World) (v:Value) (Z:List (Ans×Value)):Prop where
 sl:SlF w 97 4 ansC v Z
 kvs:∀ (i:Nat) (q:Ans×Value),Z[i]?=some q->SlF w 99 6 kvC q.2 q.1.kvs
 apart:∀ (i:Nat) (q:Ans×Value),Z[i]?=some q->∀ b,q.2.ownBlock=some b->v.ownBlock≠some b
def ansF (v:Value) (Z:List (Ans×Value)) (b:Nat):Prop:=v.ownBlock=some b\/∃ (i:Nat) (q:Ans×Value),Z[i]?=some q/\q.2.ownBlock=some b
theorem AnsR.nil (w:World):AnsR w (.slice none 0 0) []:=⟨SlF.nil _ _ _ _,by simp,by simp⟩
theorem AnsR.lt {w:World} {v:Value} {Z:List (Ans×Value)} (h:AnsR w v Z):∀ b,ansF v Z b->b<w.heap.size:=by
 rintro b (e | ⟨i,q,a,e⟩)
 · exact h.sl.lt b e
 exact (h.kvs i q a).lt b e
theorem AnsR.fr {w w':World} {v:Value} {Z:List (Ans×Value)} {S:Nat->Prop} (h:AnsR w v Z) (hf:Fr S w w') (hn:∀ b,ansF v Z b->¬ S b):AnsR w' v Z :=
 ⟨h.sl.fr hf fun b e=>hn b (.inl e),fun i q hq=>(h.kvs i q hq).fr hf fun b e=>hn b (.inr ⟨i,q,hq,e⟩),h.apart⟩
theorem AnsR.snoc {w w':World} {v v':Value} {Z:List (Ans×Value)} {a:Ans} {kv:Value} (h:AnsR w v Z) (hf:Fr (fun b=>v.ownBlock=some b) w w') (hs:SlF w' 97 4 ansC v' (Z++[(a,kv)]))
 (hk:SlF w 99 6 kvC kv a.kvs) (hd:∀ b,kv.ownBlock=some b->v.ownBlock≠some b) (hn:∀ b,v'.ownBlock=some b->v.ownBlock=some b\/w.heap.size<=b):AnsR w' v' (Z++[(a,kv)]):=by
 have key:∀ (i:Nat) (q:Ans×Value),(Z++[(a,kv)])[i]?=some q->(Z[i]?=some q)\/q=(a,kv):=by
  intro i q c;by_cases hi:i<Z.length
  · rw [List.getElem?_append_left hi] at c;exact .inl c
  rw [List.getElem?_append_right (by omega)] at c
  right
  have:i-Z.length=0:=by
   have:=(List.getElem?_eq_some_iff.1 c).1;simp at this;omega
  rw [this] at c;simpa using c.symm
 refine ⟨hs,fun i q c=>?_,fun i q c b hb e=>?_⟩
 · rcases key i q c with d | rfl
   · exact (h.kvs i q d).fr hf fun b e=>h.apart i q d b e
   exact hk.fr hf hd
 rcases key i q c with d | rfl
 · rcases hn b e with f | f
   · exact h.apart i q d b hb f
   have:=(h.kvs i q d).lt b hb;omega
 rcases hn b e with f | f
 · exact hd b hb f
 have:=hk.lt b hb;omega
def goneE (x:Kv) (rev:Int):Ev:=⟨2,⟨x.key,ByteArray.empty,0,rev,0,0⟩,x⟩
structure Run where
 S:St
 A:List Ans
 E:List Ev
def goneR (rev:Int) (r:St×List Kv×List Ev) (x:Kv):St×List Kv×List Ev:=(doS r.1 (goneE x rev),r.2.1++told (goneE x rev),r.2.2++[goneE x rev])
def stepR (rev:Int) (r:Run) (o:Opr):Run :=
 if o.kind=1 then ⟨doS r.S (zbc r.S o rev),r.A++[⟨1,told (zbc r.S o rev),(told (zbc r.S o rev)).length,false⟩],r.E++[zbc r.S o rev]⟩
 else if o.kind=2 then
  let q:=(zbh r.S o.rg.key o.rg.end_ rev).foldl (goneR rev) (r.S,[],r.E)
  ⟨q.1,r.A++[⟨2,q.2.1,q.2.1.length,false⟩],q.2.2⟩
 else if o.kind=3 then ⟨r.S,r.A++[⟨3,getL r.S o.rg rev,(allL r.S o.rg rev).length,moreB r.S o.rg rev⟩],r.E⟩
 else ⟨r.S,r.A++[⟨o.kind,[],0,false⟩],r.E⟩
def runR (rev:Int) (r:Run) (ops:List Opr):Run:=ops.foldl (stepR rev) r
def whenAll (S:St) (ops:List Opr):Int:=match ops.find? fun o=>o.kind==3&&whenE S o.rg.rev != 0 with
 | some o=>whenE S o.rg.rev
 | none=>0
def applyE (S:St) (ops:List Opr):Int:=if checkE ops≠0 then checkE ops else whenAll S ops
def applyS (S:St) (ops:List Opr):St :=
 let r:=runR (S.rev+1) ⟨S,[],[]⟩ ops
 if r.E = [] then r.S else { r.S with rev:=S.rev+1 }
theorem info90:(Tryz.prog.info? 97).map (fun i=>(i.zero,i.size,i.bytes))=some (some (.agg #[.int .i64 0,.slice none 0 0,.int .i64 0,.bool false]),4,48):=by kernel_rfl
structure LoopR (TA:zao) (w0 w:World) (s sb vb:Nat) (F0:Nat->Prop) (r:Run) (F:Nat->Prop) (ev out:Value) (Z:List (Ans×Value)):Prop where
 fr:Fr F0 w0 w
 store:zaj TA w s r.S F
 box:Has w sb [.pointer (some ⟨s,0,none⟩)]
 evs:Has w vb [ev]
 evl:SlF w 101 13 evC ev r.E
 ans:AnsR w out Z
 eqs:Z.map (·.1)=r.A
 new:∀ b,F b->F0 b\/w0.heap.size<=b
 old:∀ b,F0 b->b<w0.heap.size
 sbn:w0.heap.size<=sb
 vbn:w0.heap.size<=vb
 evn:∀ b,ev.ownBlock=some b->w0.heap.size<=b
 ann:∀ b,ansF out Z b->w0.heap.size<=b
 f1:¬ F sb
 f2:¬ F vb
 f4:∀ b,ev.ownBlock=some b->¬ F b
 f5:∀ b,ansF out Z b->¬ F b
 n1:sb≠vb
 e1:ev.ownBlock≠some sb
 e2:ev.ownBlock≠some vb
 k1:¬ ansF out Z sb
 k2:¬ ansF out Z vb
 ek:∀ b,ev.ownBlock=some b->¬ ansF out Z b
theorem zyc {v:Value} {Z:List (Ans×Value)} {a:Ans} {kv:Value} {b:Nat} (h:ansF v (Z++[(a,kv)]) b):v.ownBlock=some b\/(∃ (i:Nat) (q:Ans×Value),Z[i]?=some q/\q.2.ownBlock=some b)\/kv.ownBlock=some b:=by
 rcases h with h | ⟨i,q,c,h⟩
 · exact .inl h
 by_cases hi:i<Z.length
 · rw [List.getElem?_append_left hi] at c
   exact .inr (.inl ⟨i,q,c,h⟩)
 rw [List.getElem?_append_right (by omega)] at c
 have d:i-Z.length=0:=by
  have:=(List.getElem?_eq_some_iff.1 c).1;simp at this;omega
 rw [d] at c;simp at c;subst c;exact .inr (.inr h)
theorem LoopR.next {TA:zao} {N:Nat} (hT:TreeOk TA N) {w0 wr w5 w6:World} {s sb vb:Nat} {F0 F F':Nat->Prop} {r:Run} {ev out ev' out' kv:Value} {Z:List (Ans×Value)} {S':St} {E':List Ev} {a:Ans} {X:Nat->Prop}
 (hl:LoopR TA w0 wr s sb vb F0 r F ev out Z) (hS:zaj TA w5 s S' F') (hbox:Has w5 sb [.pointer (some ⟨s,0,none⟩)]) (hevs:Has w5 vb [ev']) (hevl:SlF w5 101 13 evC ev' E') (hkv:SlF w5 99 6 kvC kv a.kvs)
 (hf:Fr X wr w5) (hX:∀ b,b<wr.heap.size->X b->F b\/b=vb\/ev.ownBlock=some b) (hF':∀ b,F' b->F b\/wr.heap.size<=b) (hev':∀ b,ev'.ownBlock=some b->ev.ownBlock=some b\/wr.heap.size<=b)
 (hkv':∀ b,kv.ownBlock=some b->wr.heap.size<=b) (d1:∀ b,ev'.ownBlock=some b->¬ F' b) (d2:∀ b,kv.ownBlock=some b->¬ F' b) (d3:∀ b,ev'.ownBlock=some b->kv.ownBlock≠some b)
 (hf6:Fr (fun b=>out.ownBlock=some b) w5 w6) (hs6:SlF w6 97 4 ansC out' (Z++[(a,kv)])) (hn6:∀ b,out'.ownBlock=some b->out.ownBlock=some b\/w5.heap.size<=b) :
 LoopR TA w0 w6 s sb vb F0 ⟨S',r.A++[a],E'⟩ F' ev' out' (Z++[(a,kv)]):=by
 have u:=hl.store.lt hT;have m:=hS.lt hT;have k:=hl.ans.lt;have i:=hevl.lt;have p:=hkv.lt;have q:=hl.box.lt;have t:=hl.evs.lt;have o:=hf.size;have n:=hl.fr.size
 have j:∀ b,out.ownBlock=some b->¬ F' b:=fun b hb h=>by
  rcases hF' b h with e | e
  · exact hl.f5 b (.inl hb) e
  have:=k b (.inl hb);omega
 have f:∀ b,kv.ownBlock=some b->out.ownBlock≠some b:=fun b hb h=>by
  have:=k b (.inl h);have:=hkv' b hb;omega
 have d:∀ b,ev'.ownBlock=some b->¬ ansF out Z b:=fun b hb h=>by
  rcases hev' b hb with e | e
  · exact hl.ek b e h
  have:=k b h;omega
 -- what the answers' blocks are
 have c:∀ b,ansF out' (Z++[(a,kv)]) b->ansF out Z b\/w5.heap.size<=b\/kv.ownBlock=some b:=fun b h=>by
  rcases zyc h with h | h | h
  · rcases hn6 b h with h | h
    · exact .inl (.inl h)
    exact .inr (.inl h)
  · exact .inl (.inr h)
  exact .inr (.inr h)
 have l:Fr F0 w0 w6:=by
  refine (hl.fr.trans (hf.mono (T:=fun b=>F b\/b=vb\/ev.ownBlock=some b) hX) fun b hb h=>?_).trans hf6 fun b hb h=>?_
  · rcases h with h | h | h
    · rcases hl.new b h with h | h
      · exact h
      omega
    · have:=hl.vbn;omega
    have:=hl.evn b h;omega
  have:=hl.ann b (.inl h);omega
 exact {
  fr:=l
  store:=hS.fr hT hf6 fun b hb h=>j b h hb
  box:=hbox.fr hf6 fun h=>hl.k1 (.inl h)
  evs:=hevs.fr hf6 fun h=>hl.k2 (.inl h)
  evl:=hevl.fr hf6 fun b hb h=>d b hb (.inl h)
  ans:=(hl.ans.fr (hf.mono hX) fun b hb h=>by
   rcases h with h | h | h
   · exact hl.f5 b hb h
   · exact hl.k2 (h▸hb)
   exact hl.ek b h hb).snoc hf6 hs6 hkv f hn6
  eqs:=by rw [List.map_append,hl.eqs];rfl
  new:=fun b h=>by
   rcases hF' b h with h | h
   · exact hl.new b h
   exact .inr (by omega)
  old:=hl.old
  sbn:=hl.sbn
  vbn:=hl.vbn
  evn:=fun b h=>by
   rcases hev' b h with h | h
   · exact hl.evn b h
   omega
  ann:=fun b h=>by
   rcases c b h with h | h | h
   · exact hl.ann b h
   · omega
   have:=hkv' b h;omega
  f1:=fun h=>by
   rcases hF' _ h with h | h
   · exact hl.f1 h
   omega
  f2:=fun h=>by
   rcases hF' _ h with h | h
   · exact hl.f2 h
   omega
  f4:=d1
  f5:=fun b h hF=>by
   rcases c b h with h | h | h
   · rcases hF' b hF with e | e
     · exact hl.f5 b h e
     have:=k b h;omega
   · have:=m b hF;omega
   exact d2 b h hF
  n1:=hl.n1
  e1:=fun h=>by
   rcases hev' _ h with h | h
   · exact hl.e1 h
   omega
  e2:=fun h=>by
   rcases hev' _ h with h | h
   · exact hl.e2 h
   omega
  k1:=fun h=>by
   rcases c _ h with h | h | h
   · exact hl.k1 h
   · omega
   have:=hkv' _ h;omega
  k2:=fun h=>by
   rcases c _ h with h | h | h
   · exact hl.k2 h
   · omega
   have:=hkv' _ h;omega
  ek:=fun b h g=>by
   rcases c b g with g | g | g
   · exact d b h g
   · have:=i b h;omega
   exact d3 b h g }
def layKv (w:World) (g o:Nat) (y:Kv):World :=
 (((((w.setCell ⟨g,o,none⟩ (.string y.key)).setCell ⟨g,o+1,none⟩ (.string y.value)).setCell ⟨g,o+2,none⟩ (.int .i64 y.create)).setCell ⟨g,o+3,none⟩ (.int .i64 y.mod)).setCell ⟨g,o+4,none⟩ (.int .i64 y.version)).setCell ⟨g,o+5,none⟩ (.int .i64 y.lease)
theorem zte {w:World} {g o cap:Nat} {L:List Kv} (h:SlF w 99 6 kvC (.slice (some ⟨g,o,none⟩) L.length cap) L) (i:Nat) {x:Kv} (hx:L[i]?=some x) (y:Kv) :
 SlF (layKv w g (o+i * 6) y) 99 6 kvC (.slice (some ⟨g,o,none⟩) L.length cap) (L.set i y):=by
 have a:=(List.getElem?_eq_some_iff.1 hx).1
 have step:∀ {w:World} {M:List Kv} {z:Kv} (j:Nat) (u:Value) (z':Kv),j<6->M.length=L.length->SlF w 99 6 kvC (.slice (some ⟨g,o,none⟩) L.length cap) M->M[i]?=some z->kvC z'=(kvC z).set j u →
  SlF (w.setCell ⟨g,o+i * 6+j,none⟩ u) 99 6 kvC (.slice (some ⟨g,o,none⟩) L.length cap) (M.set i z'):=by
  intro w M z j u z' e c b f d;rw [<-c] at b ⊢
  exact b.set zak i j e z z' u f d
 have k:=step 0 (.string y.key) ({ x with key:=y.key }) (by omega) rfl h hx rfl;have l:=step (z:={ x with key:=y.key }) 1 (.string y.value) ({ x with key:=y.key,value:=y.value }) (by omega) (by simp) k (by simp [a]) rfl;have m:=step (z:={ x with key:=y.key,value:=y.value }) 2 (.int .i64 y.create) ({ x with key:=y.key,value:=y.value,create:=y.create }) (by omega) (by simp) l (by simp [a]) rfl;have n:=step (z:={ x with key:=y.key,value:=y.value,create:=y.create }) 3 (.int .i64 y.mod) ({ x with key:=y.key,value:=y.value,create:=y.create,mod:=y.mod }) (by omega) (by simp) m (by simp [a]) rfl
 have p:=step (z:={ x with key:=y.key,value:=y.value,create:=y.create,mod:=y.mod }) 4 (.int .i64 y.version) ({ x with key:=y.key,value:=y.value,create:=y.create,mod:=y.mod,version:=y.version }) (by omega) (by simp) n (by simp [a]) rfl;have q:=step (z:={ x with key:=y.key,value:=y.value,create:=y.create,mod:=y.mod,version:=y.version }) 5 (.int .i64 y.lease) (y) (by omega) (by simp) p (by simp [a]) rfl;simpa [layKv,List.set_set] using q
theorem ztf {S:Nat->Prop} {a w:World} (h:Fr S a w) (g o:Nat) (y:Kv) (hg:S g):Fr S a (layKv w g o y):=by
 unfold layKv;exact (((((h.setCell (.inl hg) _).setCell (.inl hg) _).setCell (.inl hg) _).setCell (.inl hg) _).setCell (.inl hg) _).setCell (.inl hg) _
def Turned (L M:List Kv) (i:Nat):Prop:=M.length=L.length/\∀ k,k<L.length->M[k]?=if k<i\/L.length-i<=k then L[L.length-1-k]? else L[k]?
theorem Turned.start (L:List Kv):Turned L L 0:=⟨rfl,fun k hk=>by rw [if_neg (by omega)]⟩
theorem Turned.done {L M:List Kv} {i:Nat} (h:Turned L M i) (hi:L.length<=2 * i+1):M=L.reverse:=by
 refine List.ext_getElem? fun k=>?_;by_cases hk:k<L.length
 · rw [h.2 k hk,List.getElem?_reverse hk]
   split
   · rfl
   rename_i hn
   congr 1;omega
 rw [List.getElem?_eq_none (by rw [h.1];omega),List.getElem?_eq_none (by simp;omega)]
theorem Turned.next {L M:List Kv} {i j:Nat} (h:Turned L M i) (hij:i+j+1=L.length) (hlt:i<j) {x y:Kv} (hx:L[i]?=some x) (hy:L[j]?=some y):Turned L ((M.set i y).set j x) (i+1):=by
 refine ⟨by simp [h.1],fun k hk=>?_⟩;have a:=h.1;by_cases hkj:k=j
 · subst hkj
   rw [List.getElem?_set_self (by simp;omega),if_pos (by omega),show L.length-1-k=i by omega,hx]
 rw [List.getElem?_set_ne (fun e=>hkj e.symm)]
 by_cases hki:k=i
 · subst hki
   rw [List.getElem?_set_self (by omega),if_pos (by omega),show L.length-1-k=j by omega,hy]
 rw [List.getElem?_set_ne (fun e=>hki e.symm),h.2 k hk]
 by_cases hc:k<i\/L.length-i<=k
 · rw [if_pos hc,if_pos (by omega)]
 rw [if_neg hc,if_neg (by omega)]
theorem Turned.at {L M:List Kv} {i k:Nat} (h:Turned L M i) (h1:i<=k) (h2:k+i<L.length):M[k]?=L[k]?:=by rw [h.2 k (by omega),if_neg (by omega)]
set_option maxHeartbeats 4000000 in
theorem zna (w:World) (v:Value) (L:List Kv) (hv:SlF w 99 6 kvC v L) (hl:L.length<=1099511627) :
 Calls Tryz.prog 132 #[v] w fun e w'=>(∃ u,e=.returned u)/\SlF w' 99 6 kvC v L.reverse/\Fr (fun b=>v.ownBlock=some b) w w':=by
 obtain ⟨a,cap,rfl,V,W,J⟩:=hv.shape;rcases Nat.eq_zero_or_pos L.length with U | hp
 · obtain rfl:=List.eq_nil_of_length_eq_zero U
   have D:=H_ hv;clear hv J;go_enter Tryz.func132,Tryz.ntmps132;go_wp2
   go_loopg [2,3] 0 (fun g o s3 wr=>g=0/\o=.int .i64 0/\s3=.int .i64 (-1)/\w=wr)
   case atStart=>exact ⟨rfl,rfl,rfl,rfl⟩
   case round =>
    obtain ⟨rfl,rfl,rfl,rfl⟩:=hrel;go_wp2;refine bodyPost_end (results_none rfl _ _ _) rfl ?_;exact ⟨⟨_,rfl⟩,D.out,Fr.refl _ w⟩
 obtain ⟨l,go,rfl⟩:=J hp
 have D:=H_ hv;clear hv;go_enter Tryz.func132,Tryz.ntmps132;go_wp2
 go_loopg [2,3] L.length (fun g o s3 wr=>∃ (i j:Nat) (M:List Kv),o=.int .i64 i/\s3=.int .i64 j/\i+j+1=L.length/\i<=j+1/\i+g=L.length/\Hid (Turned L M i)/\Hid (SlF wr 99 6 kvC (.slice (some ⟨l,go,none⟩) L.length cap) M)/\Hid (Fr (fun b=>b=l) w wr))
 case atStart=>exact ⟨0,L.length-1,L,rfl,by go_num,by omega,by omega,by omega,H_ (Turned.start L),D,H_ (Fr.refl _ w)⟩
 case round =>
  obtain ⟨i,j,M,rfl,rfl,E,a0,hi,p,I,H⟩:=hrel;by_cases hlt:i<j
  · cases gk with
    | zero=>omega
    | succ g =>
      have r:(i:Int)<(j:Int):=(by omega);have Y:(i:Int)<(L.length:Int):=(by omega);have Z:(j:Int)<(L.length:Int):=(by omega);obtain ⟨x,F⟩:∃ x,L[i]?=some x:=⟨_,List.getElem?_eq_getElem (by omega)⟩;obtain ⟨y,G⟩:∃ y,L[j]?=some y:=⟨_,List.getElem?_eq_getElem (by omega)⟩;have d:=(p.out.at (k:=i) (by omega) (by omega)).trans F;have f:=(p.out.at (k:=j) (by omega) (by omega)).trans G;have c:SlF wr 99 6 kvC (.slice (some ⟨l,go,none⟩) M.length cap) M:=(by rw [p.out.1];exact I.out);have a2:l<wr.heap.size:=c.lt l rfl;obtain ⟨N,O,P,Q,R,S⟩:=x;obtain ⟨s,t,z,A,B,C⟩:=y;have u0:=c.cell0 zak i d rfl;have u1:=c.cell zak i 1 d rfl;have u2:=c.cell zak i 2 d rfl;have u3:=c.cell zak i 3 d rfl;have u4:=c.cell zak i 4 d rfl
      have u5:=c.cell zak i 5 d rfl;have v0:=c.cell0 zak j f rfl;have v1:=c.cell zak j 1 f rfl;have v2:=c.cell zak j 2 f rfl;have v3:=c.cell zak j 3 f rfl;have v4:=c.cell zak j 4 f rfl;have v5:=c.cell zak j 5 f rfl;have X:∀ k,wr.frozen? ⟨l,k,none⟩=false:=fun k=>c.free k;have K:=zte c i d ⟨s,t,z,A,B,C⟩;have o:=zte (L:=M.set i ⟨s,t,z,A,B,C⟩) (by rw [List.length_set];exact K) j (x:=⟨s,t,z,A,B,C⟩) (by rw [List.getElem?_set_ne (by omega)];exact f) ⟨N,O,P,Q,R,S⟩;have q:=ztf (ztf H.out l (go+i * 6) ⟨s,t,z,A,B,C⟩ rfl) l (go+j * 6) ⟨N,O,P,Q,R,S⟩ rfl;have T:=H_ (p.out.next E hlt F G);rw [List.length_set,p.out.1] at o;have n:=H_ o;have m:=H_ q;clear F G d f c K o q;unfold layKv at n m
      dsimp only at n m;go_wp2_with fail
      go_region
      go_wp2;go_roundg g
      case rel=>exact ⟨i+1,j-1,_,by go_num,by go_num,by omega,by omega,by omega,T,H_ n.out.drew,H_ m.out.drew⟩
      case measure=>omega
  have r:¬ (i:Int)<(j:Int):=by omega
  go_wp2;refine bodyPost_end (results_none rfl _ _ _) rfl ?_;exact ⟨⟨_,rfl⟩,by rw [<-p.out.done (by omega)];exact I.out,H.out.mono fun b _ h=>by rw [h];rfl⟩
def bareK (x:Kv):Kv:={ x with value:=ByteArray.empty }
def bareTo (i:Nat) (L:List Kv):List Kv:=(L.take i).map bareK++L.drop i
theorem zsb (L:List Kv):bareTo 0 L=L:=by simp [bareTo]
theorem zvc (L:List Kv) {i:Nat} (h:L.length<=i):bareTo i L=L.map bareK:=by
 unfold bareTo;rw [List.take_of_length_le h,List.drop_eq_nil_of_le h,List.append_nil]
theorem zfl (i:Nat) (L:List Kv):(bareTo i L).length=L.length:=by
 unfold bareTo;simp;omega
theorem zmr {i:Nat} {L:List Kv} {x:Kv} (h:L[i]?=some x):(bareTo i L)[i]?=some x:=by
 have a:=(List.getElem?_eq_some_iff.1 h).1;unfold bareTo;rw [List.getElem?_append_right (by simp;omega)];simp only [List.length_map,List.length_take,List.getElem?_drop];rw [Nat.min_eq_left (by omega),show i+(i-i)=i by omega];exact h
theorem zsc {i:Nat} {L:List Kv} {x:Kv} (h:L[i]?=some x):(bareTo i L).set i (bareK x)=bareTo (i+1) L:=by
 have a:=(List.getElem?_eq_some_iff.1 h).1;unfold bareTo;rw [List.take_add_one,h,List.map_append,List.drop_eq_getElem_cons a,List.set_append_right _ _ (by simp;omega)];have:i-((L.take i).map bareK).length=0:=by simp;omega
 rw [this,List.set_cons_zero];simp
theorem zvb {w:World} {g o cap:Nat} {L:List Kv} {K i:Nat} {x:Kv} (h:SlF w 99 6 kvC (.slice (some ⟨g,o,none⟩) K cap) (bareTo i L)) (hK:L.length=K) (hx:L[i]?=some x) :
 SlF (w.setCell ⟨g,o+i * 6+1,none⟩ (.string ByteArray.empty)) 99 6 kvC (.slice (some ⟨g,o,none⟩) K cap) (bareTo (i+1) L):=by
 subst hK;rw [<-zfl i L] at h;have a:=h.set zak i 1 (by omega) x (bareK x) (.string ByteArray.empty) (zmr hx) rfl;rw [zsc hx,zfl] at a;exact a
def keyTo (b:Bool) (i:Nat) (L:List Kv):List Kv:=if b then bareTo i L else L
theorem zup (b:Bool) (L:List Kv):keyTo b 0 L=L:=by cases b with
 | false=>rfl
 | true=>exact zsb L
theorem zkq (b:Bool) (L:List Kv) {i:Nat} (h:L.length<=i):keyTo b i L=if b then L.map fun x=>{ x with value:=ByteArray.empty } else L:=by cases b with
 | false=>rfl
 | true=>exact zvc L h
set_option maxHeartbeats 8000000 in
theorem zir {TA:zao} {N:Nat} (hT:TreeOk TA N) {n:Nat} (hn:n<=1099511627) (w:World) (s:Nat) (S:St) (F:Nat->Prop) (hS:zaj TA w s S F) (hok:StOk n S) (hN:S.T.length<=1099511627) (g:Rg) (rev:Int)
 (hks:g.key.size<=1099511627776) :
 Calls Tryz.prog 89 #[.pointer (some ⟨s,0,none⟩),rgV g,.int .i64 rev] w fun e w'=>∃ v,e=.returned (.tuple #[v,.int .i64 (allL S g rev).length,.bool (moreB S g rev)])/\SlF w' 99 6 kvC v (getL S g rev)/\Fr No w w'/\(∀ b,v.ownBlock=some b->w.heap.size<=b):=by
 have aG:(allL S g rev).length<=1099511627:=Nat.le_trans (List.length_filterMap_le _ _) (Nat.le_trans (List.length_filter_le _ _) hN);have q:=fun W (hW:Fr No w W)=>zhy hT hn W s S F (hS.fr0 hT hW) hok hN g.key g.end_ (revOf g rev) hks;have ad:zbh S g.key g.end_ (revOf g rev)=allL S g rev:=rfl;rw [ad] at q
 have ah:getL S g rev=if g.count then [] else keyTo g.keys (allL S g rev).length (cutL g (moreB S g rev) (if g.desc then (allL S g rev).reverse else allL S g rev)):=by
  have hl:(cutL g (moreB S g rev) (if g.desc then (allL S g rev).reverse else allL S g rev)).length<=(allL S g rev).length:=by
   unfold cutL
   split
   · rw [List.length_take];split
     · rw [List.length_reverse];omega
     omega
   split
   · rw [List.length_reverse];omega
   omega
  rw [zkq _ _ hl]
  rfl
 have aj:moreB S g rev=(!g.count&&decide (0<g.limit)&&decide (g.limit<(allL S g rev).length)):=rfl;have ak:revOf g rev=if g.rev≠0 then g.rev else rev:=rfl;have af:∀ m l,cutL g m l=if m then l.take g.limit.toNat else l:=fun _ _=>rfl;rw [ah];generalize hR:(if g.count then [] else keyTo g.keys (allL S g rev).length (cutL g (moreB S g rev) (if g.desc then (allL S g rev).reverse else allL S g rev)))=R at *;generalize allL S g rev=l at *;generalize moreB S g rev=y at *;generalize revOf g rev=rv at *;generalize cutL g=B at *;obtain ⟨g1,g2,L,r,g5,g6,Y⟩:=g;unfold rgV;dsimp only at *;have HB:=H_ q;have z:=H_ aj;have a3:=H_ ak;have G:=H_ af;have HR:=H_ hR;clear q ah aj ak af ad hS hR
 have d:=zad w (Obj.cells #[.string g1,.string g2,.int .i64 L,.int .i64 r,.bool g5,.bool g6,.bool Y] 35) _ rfl;have ag:Fr No w (w.alloc (Obj.cells #[.string g1,.string g2,.int .i64 L,.int .i64 r,.bool g5,.bool g6,.bool Y] 35)):=(Fr.refl No w).alloc _;have E:=H_ d;have a0:=H_ ag;clear d ag;go_enter Tryz.func89,Tryz.ntmps89;go_upto_if 15 with fail;generalize w.alloc (Obj.cells #[.string g1,.string g2,.int .i64 L,.int .i64 r,.bool g5,.bool g6,.bool Y] 35)=W1 at *;have bf:w.heap.size<W1.heap.size:=zab E.out;have d:=E.out;have b0:=cellAt d 0 rfl;have b1:=cellAt d 1 rfl;have b2:=cellAt d 2 rfl;have b3:=cellAt d 3 rfl;have b4:=cellAt d 4 rfl;have b5:=cellAt d 5 rfl;have b6:=cellAt d 6 rfl
 go_cut [2] (fun s2 wx=>s2=.int .i64 rv/\wx=W1)
 case first =>
  by_cases hz:L=0
  · have aO:(L != 0)=false:=by rw [hz];rfl
    have hr:rv=rev:=(by rw [a3.out,if_neg (by simp [hz])]);go_wp2;go_meet
    case rel=>exact ⟨by first | rfl | rw [hr],rfl⟩
  have aO:(L != 0)=true:=by rw [bne_iff_ne];exact hz
  have hr:rv=L:=(by rw [a3.out,if_pos hz]);go_wp2;go_meet
  case rel=>exact ⟨by first | rfl | rw [hr],rfl⟩
 case rest =>
  obtain ⟨rfl,rfl⟩:=hcut;go_upto_region 4 with (go_at_call 88;refine (HB.out _ a0.out).mono ?_;rintro e w1 ⟨v,rfl,hv,Q,X⟩);obtain ⟨va,f,rfl,bb,bc,aM⟩:=hv.shape;have o:=Q.heap E.out id;have HV:=H_ hv;have ax:=H_ o;have a2:=H_ (a0.out.trans0 Q);have J:Hid (¬ (Value.slice va l.length f).ownBlock=some w.heap.size):=H_ (fun h=>by have:=X _ h;omega);have I:Hid (∀ b,(Value.slice va l.length f).ownBlock=some b->w.heap.size<=b):=H_ (fun b q=>by have:=X b q;omega);clear hv Q X b0 b1 b2 b3 b4 b5 b6 d;have b0:=cellAt o 0 rfl;have b1:=cellAt o 1 rfl;have b2:=cellAt o 2 rfl;have b3:=cellAt o 3 rfl;have b4:=cellAt o 4 rfl;have b5:=cellAt o 5 rfl;have b6:=cellAt o 6 rfl;have aP:=zab o;clear o;go_upto_if 28 with fail
  cases g6 with
  | true =>
    have V:y=false:=z.out;go_wp2;go_ret3;exact ⟨_,by first | rfl | (rw [V];rfl),by rw [<-HR.out];exact SlF.nil _ _ _ _,a2.out,by simp [Value.ownBlock]⟩
  | false =>
    go_upto_if 31 with fail
    go_cut [33] (fun _ wx=>Hid (SlF wx 99 6 kvC (.slice va l.length f) (if Y then l.reverse else l))/\Hid (Fr (fun b=>(Value.slice va l.length f).ownBlock=some b) w1 wx))
    case first =>
     cases Y with
     | false =>
       go_wp2;go_meet
       case rel=>exact ⟨HV,H_ (Fr.refl _ _)⟩
     | true =>
       go_wp2_with (go_at_call 132;refine (zna _ _ _ HV.out aG).mono ?_;rintro e w2 ⟨⟨u,rfl⟩,aL,aH⟩);go_meet
       case rel=>exact ⟨H_ aL,H_ aH⟩
    case rest =>
     obtain ⟨a5,a1⟩:=hcut;have j:=a1.out.heap ax.out J.out;have bg:=zab j;clear b0 b1 b2 b3 b4 b5 b6 aP;have b0:=cellAt j 0 rfl;have b1:=cellAt j 1 rfl;have b2:=cellAt j 2 rfl;have b3:=cellAt j 3 rfl;have b4:=cellAt j 4 rfl;have b5:=cellAt j 5 rfl;have b6:=cellAt j 6 rfl;have aw:=H_ j;clear j;have aa:=HR.out;generalize hM:(if Y then l.reverse else l)=M at *;have az:=H_ aa;clear aa;have a8:M.length=l.length:=(by rw [<-hM];split <;> simp);clear hM;generalize wc=W2 at *;go_upto_region 9 with fail
     go_cut [11] (fun s11 wx=>s11=.bool y/\wx=W2)
     case first =>
      by_cases Z:0<r
      · have aF:decide (r > 0)=true:=decide_eq_true Z
        by_cases h2:r<(l.length:Int)
        · have O:decide (r<(l.length:Int))=true:=decide_eq_true h2
          have V:y=true:=(by rw [z.out,O,decide_eq_true Z];rfl);go_wp2;go_meet
          case rel=>exact ⟨by first | rfl | rw [V],rfl⟩
        have O:decide (r<(l.length:Int))=false:=decide_eq_false h2
        have V:y=false:=(by rw [z.out,O];simp);go_wp2;go_meet
        case rel=>exact ⟨by first | rfl | rw [V],rfl⟩
      have aF:decide (r > 0)=false:=decide_eq_false Z
      have V:y=false:=(by rw [z.out,decide_eq_false Z];rfl);go_wp2;go_meet
      case rel=>exact ⟨by first | rfl | rw [V],rfl⟩
     case rest =>
      obtain ⟨rfl,rfl⟩:=hcut;go_upto_if 43 with fail
      go_cut [9] (fun s9 wx=>∃ a c,s9=.slice a (B y M).length c/\Hid (SlF wx 99 6 kvC (.slice a (B y M).length c) (B y M))/\Hid (∀ b,(Value.slice a (B y M).length c).ownBlock=some b->w.heap.size<=b/\b≠w.heap.size)/\wx=wc)
      case first =>
       cases y with
       | false =>
         have P:B false M=M:=G.out false M;go_wp2;go_meet
         case rel =>
          rw [P,a8];exact ⟨va,f,rfl,a5,H_ fun b q=>⟨I.out b q,fun e=>J.out (e▸q)⟩,rfl⟩
       | true =>
         have P:B true M=M.take r.toNat:=G.out true M;have b8:0<r/\r<(l.length:Int):=(by have:=z.out;simpa using this.symm);obtain ⟨k,rfl⟩:∃ k:Nat,r=k:=⟨r.toNat,by omega⟩;have bd:k<=l.length:=(by omega);have aX:(k:Int)<=(f:Int):=(by omega);obtain ⟨C,go,rfl⟩:=aM (by omega);go_wp2;go_meet
         case rel =>
          rw [P];have ai:(M.take ((k:Int).toNat)).length=k:=(by rw [List.length_take];omega);rw [ai];have h3:=a5.out;rw [<-a8] at h3;exact ⟨some ⟨C,go,none⟩,f,rfl,H_ (h3.take zak k (by omega)),H_ fun b q=>⟨I.out b q,fun e=>J.out (e▸q)⟩,rfl⟩
      case rest =>
       obtain ⟨a9,c9,rfl,a6,H,rfl⟩:=hcut
       have ba:(B y M).length<=l.length:=by
        rw [G.out];split
        · rw [List.length_take];omega
        omega
       have ab:=az.out;generalize B y M=K at *;have aA:=H_ ab;clear ab;go_wp2
       go_loopg [50] K.length (fun g s50 wr=>∃ i:Nat,s50=.int .i64 i/\i+g=K.length/\Hid (SlF wr 99 6 kvC (.slice a9 K.length c9) (keyTo g5 i K))/\Hid (Fr (fun b=>(Value.slice a9 K.length c9).ownBlock=some b) wc wr))
       case atStart=>exact ⟨0,rfl,by omega,by rw [zup];exact a6,H_ (Fr.refl _ _)⟩
       case round =>
        obtain ⟨i,rfl,hi,HK,A⟩:=hrel
        cases gk with
        | zero =>
          have aI:¬ (i:Int)<(K.length:Int):=(by omega);go_wp2;go_ret3;refine ⟨_,rfl,?_,(a2.out.trans a1.out fun b q h=>?_).trans A.out fun b q h=>?_,fun b q=>(H.out b q).1⟩
          · rw [<-aA.out,if_neg (by simp),zkq _ _ (show K.length<=l.length by omega),<-zkq _ _ (show K.length<=i by omega)]
            exact HK.out
          · have:=I.out b h;omega
          have:=(H.out b h).1;omega
        | succ g =>
          have aI:(i:Int)<(K.length:Int):=(by omega);have ae:=A.out.heap aw.out fun h=>(H.out _ h).2 rfl;have z4:=cellAt ae 4 rfl;have lz:=zab ae
          cases g5 with
          | false =>
            go_wp2;go_roundg g
            case rel=>exact ⟨i+1,by go_num,by omega,HK,A⟩
            case measure=>omega
          | true =>
            obtain ⟨C,go,rfl⟩:∃ C go,a9=some ⟨C,go,none⟩:=by
             obtain ⟨a,c,Z,_,_,h4⟩:=a6.out.shape;cases Z
             exact h4 (by omega)
            obtain ⟨x,hx⟩:∃ x,K[i]?=some x:=⟨_,List.getElem?_eq_getElem (by omega)⟩;have U:SlF wr 99 6 kvC (.slice (some ⟨C,go,none⟩) K.length c9) (bareTo i K):=HK.out;have D:=zvb U rfl hx;have t:=U;rw [<-zfl i K] at t;have f1:=t.cell zak i 1 (zmr hx) rfl;have ff:=t.free (go+i * 6+1);have lf:=World.block_lt_of_cell? _ _ f1;have a4:=H_ D;have al:Fr (fun b=>(Value.slice (some ⟨C,go,none⟩) K.length c9).ownBlock=some b) wc (wr.setCell ⟨C,go+i * 6+1,none⟩ (.string ByteArray.empty)):=A.out.setCell (p:=⟨C,go+i * 6+1,none⟩) (.inl rfl) _;have aB:=H_ al;clear D U t al hx;go_wp2;go_roundg g
            case rel=>exact ⟨i+1,by go_num,by omega,a4,aB⟩
            case measure=>omega
end Go.Proofs.YthljnnjpmdgkoaaGreat