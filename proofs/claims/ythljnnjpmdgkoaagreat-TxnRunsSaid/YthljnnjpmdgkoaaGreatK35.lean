/- Own lemmas. -/
import Derived.Test.YthljnnjpmdgkoaaGreatK30
import Derived.Test.YthljnnjpmdgkoaaGreatK22
import Derived.Test.YthljnnjpmdgkoaaGreatK28
import Derived.Test.YthljnnjpmdgkoaaGreatK29
import Derived.Test.YthljnnjpmdgkoaaGreatK26
import Derived.Test.YthljnnjpmdgkoaaGreatK24
import Derived.Deep.DeepCutAuto
namespace Go.Proofs.YthljnnjpmdgkoaaGreat
open Go Go.Proofs Go.RowKit
theorem znl (c:Cmp) (x:Kv):orderC c x = -1\/orderC c x=0\/orderC c x=1:=by
 unfold orderC
 split
 · unfold sgnI;split
   · exact .inl rfl
   split
   · exact .inr (.inr rfl)
   exact .inr (.inl rfl)
 unfold sgnS;split
 · exact .inl rfl
 split
 · exact .inr (.inr rfl)
 exact .inr (.inl rfl)
set_option maxRecDepth 100000
def lastL (l:List Kv) (key:ByteArray):Kv:=l.foldl (fun a y=>if keq y.key key then y else a) kv0
theorem zsn {l:List Kv} {i:Nat} {y:Kv} (h:l[i]?=some y) (key:ByteArray):lastL (l.take (i+1)) key=if keq y.key key then y else lastL (l.take i) key:=by
 unfold lastL;rw [List.take_add_one,h,List.foldl_append]
 rfl
theorem zvf {l:List Kv} (h:KSorted l) (key:ByteArray):lastL l key=wasL l key:=by
 have b:∀ (l:List Kv) (a:Kv),(∀ y∈l,keq y.key key=false)->l.foldl (fun a y=>if keq y.key key then y else a) a=a:=by
  intro l
  induction l with
  | nil=>intro a _;rfl
  | cons x l ih =>
    intro a c;rw [List.foldl_cons,c x List.mem_cons_self];exact ih _ fun y hy=>c y (List.mem_cons_of_mem _ hy)
 unfold lastL wasL;generalize kv0=z
 induction l generalizing z with
 | nil=>rfl
 | cons x l ih =>
   obtain ⟨e,d⟩:=List.pairwise_cons.1 h;unfold hasL;rw [List.foldl_cons,List.find?_cons]
   cases hk:keq x.key key with
   | true =>
     simp only [if_true,Option.getD_some];refine b l x fun y hy=>?_;have:=e y hy;rw [zas.1 hk] at this;rw [zca];exact klt_ne this
   | false =>
     simp only [Bool.false_eq_true,if_false];exact ih d z
def holdsD (D:Doc) (c:Cmp):Bool:=cmpE c==0&&orderC c (wasL (D.at D.rev) c.key)==sgnI c.how 0
theorem Good.holds {k:Nat} {S:St} {D:Doc} (h:Good k S D) (c:Cmp):holdsB S c=holdsD D c:=by unfold holdsB holdsD;rw [h.seen]
theorem zvw {c:Cmp} (h:cmpE c=0):(c.what=1\/c.what=2\/c.what=3\/c.what=4\/c.what=5)/\(c.what=4->c.number=0)/\(c.what≠4->c.value=⟨#[]⟩):=by
 unfold cmpE at h
 split at h
 · rename_i hk;exact absurd h hk
 split at h
 · cases h
 split at h
 · cases h
 split at h
 · cases h
 rename_i h1 h2 h3
 refine ⟨by omega,fun h4=>?_,fun h4=>?_⟩
 · rcases Decidable.em (c.number=0) with a | a
   · exact a
   exact absurd (.inl ⟨h4,a⟩) h3
 rcases Decidable.em (c.value.toList = []) with a | a
 · exact zas.1 (by unfold keq;rw [a,Lib.toList_data];rfl)
 exact absurd (.inr ⟨h4,a⟩) h3
def lessD (c:Cmp) (x:Kv):Bool:=orderC c x == -1
def sameD (c:Cmp) (x:Kv):Bool:=orderC c x==0
theorem how_lt {c:Cmp} (x:Kv) (h:c.how<0):(orderC c x==sgnI c.how 0)=lessD c x:=by unfold sgnI lessD;rw [if_pos h]
theorem how_eq {c:Cmp} (x:Kv) (h:c.how=0):(orderC c x==sgnI c.how 0)=sameD c x:=by unfold sgnI sameD;rw [if_neg (by omega),if_neg (by omega)]
theorem how_gt {c:Cmp} (x:Kv) (h:0<c.how):(orderC c x==sgnI c.how 0)=(!lessD c x && !sameD c x):=by
 unfold lessD sameD;rw [show sgnI c.how 0=1 by unfold sgnI;rw [if_neg (by omega),if_pos h]];rcases znl c x with e | e | e <;> rw [e] <;> rfl
theorem zur {c:Cmp} (x:Kv) (h:c.what=1\/c.what=2\/c.what=3\/c.what=5):lessD c x=decide (sideN c x<c.number)/\sameD c x=(sideN c x==c.number):=by
 unfold lessD sameD orderC;rw [if_pos h];unfold sgnI;by_cases h1:sideN c x<c.number
 · rw [if_pos h1,decide_eq_true h1]
   exact ⟨rfl,(by rw [beq_eq_false_iff_ne.2 (by omega:sideN c x≠c.number)];rfl)⟩
 rw [if_neg h1,decide_eq_false h1]
 by_cases h2:c.number<sideN c x
 · rw [if_pos h2]
   exact ⟨rfl,(by rw [beq_eq_false_iff_ne.2 (by omega:sideN c x≠c.number)];rfl)⟩
 rw [if_neg h2]
 exact ⟨rfl,(by rw [beq_iff_eq.2 (by omega:sideN c x=c.number)];rfl)⟩
theorem zuq {c:Cmp} (x:Kv) (h:c.what=4):lessD c x=Op.bytesLess x.value.toList c.value.toList/\sameD c x=(x.value.toList==c.value.toList):=by
 unfold lessD sameD orderC;rw [if_neg (by omega)];unfold sgnS;rcases zep x.value c.value with a | a | a
 · rw [if_pos a]
   exact ⟨(show true=klt _ _ from a.symm),(show false=keq _ _ from (klt_ne a).symm)⟩
 · rw [a,if_neg (by rw [zbb];simp),if_neg (by rw [zbb];simp)]
   exact ⟨(show false=klt _ _ from (zbb _).symm),(by simp)⟩
 rw [if_neg (by rw [zcp a];simp),if_pos a]
 exact ⟨(show false=klt _ _ from (zcp a).symm),(show false=keq _ _ from (by rw [zca];exact (klt_ne a).symm))⟩
set_option maxHeartbeats 16000000 in
theorem zki (w:World) (D:Doc) (a1 a2:Option Addr) (k1 k2:Nat) (hD:DocR w D (.slice a1 D.kvs.length k1) (.slice a2 D.events.length k2)) (hs:KSorted D.kvs) (hl:D.kvs.length+D.events.length<=100000000) (c:Cmp) (hks:c.key.size<=1099511627776) :
 Calls Tryz.prog 32 #[docV D (.slice a1 D.kvs.length k1) (.slice a2 D.events.length k2),cmpV c] w fun e w'=>e=.returned (.bool (holdsD D c))/\Fr No w w':=by
 have aH:=fun W=>zgi W c hks;have aK:0<D.kvs.length->∀ b,(Value.slice a1 D.kvs.length k1).ownBlock=some b->b<w.heap.size:=hD.kvs.lt zae (by decide);have aL:=H_ aK;clear aK;have au:=fun W (h:Fr No w W)=>zjc W D _ _ (hD.fr0 h) hs hl D.rev;have aD:=Doc.at_sorted hs D.rev
 have bm:(D.at D.rev).length<=100000000:=by
  rw [<-zim];have:=zil D D.rev D.events.length;omega
 have X:=zvf aD c.key;have L:holdsD D c=(cmpE c==0&&orderC c (wasL (D.at D.rev) c.key)==sgnI c.how 0):=rfl;generalize holdsD D c=hd at *;generalize D.at D.rev=M at *;generalize N:wasL M c.key=x at *;have ae:∀ x,lessD c x=lessD c x:=fun _=>rfl;have hz:=@zvw c;have ab:=@zur c x;have a9:=@zuq c x;have a8:=@how_lt c x;have ah:=@how_eq c x;have aj:=@how_gt c x;have aa:sideN c x=if c.what=1 then x.version else if c.what=2 then x.create else if c.what=3 then x.mod else x.lease:=rfl;generalize (orderC c x==sgnI c.how 0)=oo at *;generalize lessD c x=lb at *;generalize sameD c x=Y at *;generalize sideN c x=sn at *;obtain ⟨J,c2,j,F,c5⟩:=c;unfold docV cmpV at *;dsimp only at *;have a7:=H_ aH
 have aE:=H_ au;have V:=H_ X;have d:=zaj (zad w (Obj.cells #[.int .i64 D.rev,.int .i64 D.mark,.slice a1 D.kvs.length k1,.slice a2 D.events.length k2] 30) _ rfl) (Obj.cells #[.string J,.int .i64 c2,.int .i64 j,.int .i64 F,.string c5] 53);have q:=zad (w.alloc (Obj.cells #[.int .i64 D.rev,.int .i64 D.mark,.slice a1 D.kvs.length k1,.slice a2 D.events.length k2] 30)) (Obj.cells #[.string J,.int .i64 c2,.int .i64 j,.int .i64 F,.string c5] 53) (w.heap.size+1) (by simp);have G:Fr No w ((w.alloc (Obj.cells #[.int .i64 D.rev,.int .i64 D.mark,.slice a1 D.kvs.length k1,.slice a2 D.events.length k2] 30)).alloc (Obj.cells #[.string J,.int .i64 c2,.int .i64 j,.int .i64 F,.string c5] 53)):=((Fr.refl No w).alloc _).alloc _;have aF:=H_ d;have af:=H_ q;have ai:=H_ G;clear aH au X d q G hD hs hl aD ae N
 generalize hE:cmpE _=E at *;by_cases h0:E=0
 · subst h0
   obtain ⟨aJ,r,l⟩:=hz rfl;have a3:hd=oo:=(by rw [L];rfl);subst a3;have p:=H_ ab;have I:=H_ a9;have R:=H_ a8;have S:=H_ ah;have U:=H_ aj;have m:=H_ aa;have O:=H_ aJ;have z:=H_ r;have u:=H_ l;clear L hz ab a9 a8 ah aj aa aJ r l hE;go_enter Tryz.func32,Tryz.ntmps32;go_upto_region 3 with (go_at_call 79;refine (a7.out _).mono ?_;rintro e w1 ⟨rfl,A⟩);have d:=A.heap aF.out id;have aS:=zaa d;have b6:=A.size;have b0:=cellAt d 0 rfl;have b1:=cellAt d 1 rfl;have b2:=cellAt d 2 rfl;have b3:=cellAt d 3 rfl;go_upto_region 5 with (go_at_call 80;refine (aE.out _ ((ai.out.trans0 A).alloc _)).mono ?_;rintro e w2 ⟨v,rfl,hv,G,aq⟩);have a4:Fr No w1 w2:=((Fr.refl No w1).alloc _).trans0 G
   have q:=G.heap (zaj (A.heap af.out id) (Obj.cells #[.string ByteArray.empty,.string ByteArray.empty,.int .i64 0,.int .i64 0,.int .i64 0,.int .i64 0] 99)) id;have P:=G.heap (zad w1 (Obj.cells #[.string ByteArray.empty,.string ByteArray.empty,.int .i64 0,.int .i64 0,.int .i64 0,.int .i64 0] 99) _ rfl) id;have HV:=H_ hv
   have aI:0<M.length->∀ b,v.ownBlock=some b->b≠w1.heap.size:=fun hp b hb e=>by
    rcases aq with ⟨e1,e2⟩ | h2
    · rw [e2] at hp
      rw [e1] at hb;have:=aL.out hp b hb;omega
    have:=h2 b hb
    simp at this;omega
   have aP:=H_ aI;obtain ⟨va,bi,rfl,bT,bN,aG⟩:=hv.shape;have aT:=H_ aG;have aB:=H_ q;have am:Hid (w2.heap[w1.heap.size]?=some (.cells (kvC (lastL (M.take 0) J)).toArray 99 (0,0))):=H_ P;have b7:=H_ (ai.out.trans0 (A.trans0 a4));have bw:w.heap.size+1<w1.heap.size:=zaa (A.heap af.out id);clear hv aG q P G a4 d aS b6 A b0 b1 b2 b3 aF af aI aq aL;go_wp2
   go_loopg [7] M.length (fun g s7 wr=>∃ i:Nat,s7=.int .i64 i/\i+g=M.length/\Hid (wr.heap[w1.heap.size]?=some (.cells (kvC (lastL (M.take i) J)).toArray 99 (0,0)))/\Hid (Fr (fun b=>b=w1.heap.size) w2 wr))
   case atStart=>exact ⟨0,rfl,by simp,am,H_ (Fr.refl _ _)⟩
   case round =>
    obtain ⟨i,rfl,hi,HX,HF⟩:=hrel;have hc:=HF.out.heap aB.out (fun e=>by have e':w.heap.size+1=w1.heap.size:=e;omega);have N:=HX.out;have lc:=zaa hc;have lx:=zaa N
    cases gk with
    | zero =>
      have aU:¬ (i:Int)<(M.length:Int):=(by omega);have aM:M.take i=M:=List.take_of_length_le (by omega);rw [aM,V.out] at N;obtain ⟨x1,k,x3,x4,x5,x6⟩:=x;have aC:=cellAt hc 0 rfl;have bL:=cellAt hc 1 rfl;have bD:=cellAt hc 2 rfl;have bJ:=cellAt hc 3 rfl;have bS:=cellAt hc 4 rfl;have bz:wr.cell? ⟨w1.heap.size,1,none⟩=some (.string k):=cellAt N 1 rfl;have bI:wr.cell? ⟨w1.heap.size,2,none⟩=some (.int .i64 x3):=cellAt N 2 rfl;have bH:wr.cell? ⟨w1.heap.size,3,none⟩=some (.int .i64 x4):=cellAt N 3 rfl;have bK:wr.cell? ⟨w1.heap.size,4,none⟩=some (.int .i64 x5):=cellAt N 4 rfl;have bG:wr.cell? ⟨w1.heap.size,5,none⟩=some (.int .i64 x6):=cellAt N 5 rfl;have a:Hid (Fr No w wr):=H_ (b7.out.trans HF.out fun b hb e=>by have e':b=w1.heap.size:=e;omega)
      clear hc N HX HF aB am aE a7 V aM;dsimp only at m;rcases O.out with rfl | rfl | rfl | rfl | rfl
      · have r:=z.out
        have l:=u.out;clear z u O;obtain rfl:=l (by decide);have o:Hid (lb=decide (x5<F)):=H_ (by rw [(p.out (by simp)).1,m.out];rfl);have n:Hid (Y=(x5==F)):=H_ (by rw [(p.out (by simp)).2,m.out];rfl);have Q:(⟨#[]⟩:ByteArray).toList = []:=(by rw [Lib.toList_data]);have t:Op.bytesLess k.toList (⟨#[]⟩:ByteArray).toList=false:=zed k;have ad:Op.bytesLess k.toList []=false:=(by rw [Q] at t;exact t);clear Q;clear p I m r l;go_upto_region 20 with fail
        go_cut [9] (fun s9 wx=>s9=.bool lb/\wx=wr)
        case first =>
         cases hl2:decide (x5<F) with
         | true =>
           go_wp2;go_meet
           case rel=>exact ⟨by rw [o.out,hl2],rfl⟩
         | false =>
           go_wp2;go_meet
           case rel=>exact ⟨by rw [o.out,hl2],rfl⟩
        case rest =>
         obtain ⟨rfl,rfl⟩:=hcut;go_upto_region 21 with fail
         go_cut [10] (fun s10 wx=>s10=.bool Y/\wx=wc)
         case first =>
          cases hl2:(x5==F) with
          | true =>
            obtain ⟨s,d⟩:∃ s,k.toList.isEmpty=s:=⟨_,rfl⟩;have q:(k.toList == [])=s:=(by rw [<-d];cases k.toList <;> rfl);have P:(k.toList==(⟨#[]⟩:ByteArray).toList)=s:=(by rw [Lib.toList_data ⟨#[]⟩];exact q);cases s
            all_goals
             go_wp2;go_meet
             case rel=>exact ⟨by rw [n.out,hl2],rfl⟩
          | false =>
            go_wp2;go_meet
            case rel=>exact ⟨by rw [n.out,hl2],rfl⟩
         case rest =>
          obtain ⟨rfl,rfl⟩:=hcut;by_cases hh1:j<0
          · have C:decide (j<0)=true:=decide_eq_true hh1
            have f:=H_ (R.out hh1);go_wp2;go_ret;exact ⟨by rw [f.out];rfl,a.out⟩
          have C:decide (j<0)=false:=decide_eq_false hh1
          by_cases hh3:j=0
          · have B:(j==0)=true:=beq_iff_eq.2 hh3
            have f:=H_ (S.out hh3);go_wp2;go_ret;exact ⟨by rw [f.out];rfl,a.out⟩
          have B:(j==0)=false:=beq_eq_false_iff_ne.2 hh3
          have f:=H_ (U.out (by omega))
          cases lb with
          | true =>
            go_wp2;go_ret;exact ⟨by rw [f.out];rfl,a.out⟩
          | false =>
            go_wp2;go_ret;exact ⟨by rw [f.out];rfl,a.out⟩
      · have r:=z.out
        have l:=u.out;clear z u O;obtain rfl:=l (by decide);have o:Hid (lb=decide (x3<F)):=H_ (by rw [(p.out (by simp)).1,m.out];rfl);have n:Hid (Y=(x3==F)):=H_ (by rw [(p.out (by simp)).2,m.out];rfl);have Q:(⟨#[]⟩:ByteArray).toList = []:=(by rw [Lib.toList_data]);have t:Op.bytesLess k.toList (⟨#[]⟩:ByteArray).toList=false:=zed k;have ad:Op.bytesLess k.toList []=false:=(by rw [Q] at t;exact t);clear Q;clear p I m r l;go_upto_region 20 with fail
        go_cut [9] (fun s9 wx=>s9=.bool lb/\wx=wr)
        case first =>
         cases hl2:decide (x3<F) with
         | true =>
           go_wp2;go_meet
           case rel=>exact ⟨by rw [o.out,hl2],rfl⟩
         | false =>
           go_wp2;go_meet
           case rel=>exact ⟨by rw [o.out,hl2],rfl⟩
        case rest =>
         obtain ⟨rfl,rfl⟩:=hcut;go_upto_region 21 with fail
         go_cut [10] (fun s10 wx=>s10=.bool Y/\wx=wc)
         case first =>
          cases hl2:(x3==F) with
          | true =>
            obtain ⟨s,d⟩:∃ s,k.toList.isEmpty=s:=⟨_,rfl⟩;have q:(k.toList == [])=s:=(by rw [<-d];cases k.toList <;> rfl);have P:(k.toList==(⟨#[]⟩:ByteArray).toList)=s:=(by rw [Lib.toList_data ⟨#[]⟩];exact q);cases s
            all_goals
             go_wp2;go_meet
             case rel=>exact ⟨by rw [n.out,hl2],rfl⟩
          | false =>
            go_wp2;go_meet
            case rel=>exact ⟨by rw [n.out,hl2],rfl⟩
         case rest =>
          obtain ⟨rfl,rfl⟩:=hcut;by_cases hh1:j<0
          · have C:decide (j<0)=true:=decide_eq_true hh1
            have f:=H_ (R.out hh1);go_wp2;go_ret;exact ⟨by rw [f.out];rfl,a.out⟩
          have C:decide (j<0)=false:=decide_eq_false hh1
          by_cases hh3:j=0
          · have B:(j==0)=true:=beq_iff_eq.2 hh3
            have f:=H_ (S.out hh3);go_wp2;go_ret;exact ⟨by rw [f.out];rfl,a.out⟩
          have B:(j==0)=false:=beq_eq_false_iff_ne.2 hh3
          have f:=H_ (U.out (by omega))
          cases lb with
          | true =>
            go_wp2;go_ret;exact ⟨by rw [f.out];rfl,a.out⟩
          | false =>
            go_wp2;go_ret;exact ⟨by rw [f.out];rfl,a.out⟩
      · have r:=z.out
        have l:=u.out;clear z u O;obtain rfl:=l (by decide);have o:Hid (lb=decide (x4<F)):=H_ (by rw [(p.out (by simp)).1,m.out];rfl);have n:Hid (Y=(x4==F)):=H_ (by rw [(p.out (by simp)).2,m.out];rfl);have Q:(⟨#[]⟩:ByteArray).toList = []:=(by rw [Lib.toList_data]);have t:Op.bytesLess k.toList (⟨#[]⟩:ByteArray).toList=false:=zed k;have ad:Op.bytesLess k.toList []=false:=(by rw [Q] at t;exact t);clear Q;clear p I m r l;go_upto_region 20 with fail
        go_cut [9] (fun s9 wx=>s9=.bool lb/\wx=wr)
        case first =>
         cases hl2:decide (x4<F) with
         | true =>
           go_wp2;go_meet
           case rel=>exact ⟨by rw [o.out,hl2],rfl⟩
         | false =>
           go_wp2;go_meet
           case rel=>exact ⟨by rw [o.out,hl2],rfl⟩
        case rest =>
         obtain ⟨rfl,rfl⟩:=hcut;go_upto_region 21 with fail
         go_cut [10] (fun s10 wx=>s10=.bool Y/\wx=wc)
         case first =>
          cases hl2:(x4==F) with
          | true =>
            obtain ⟨s,d⟩:∃ s,k.toList.isEmpty=s:=⟨_,rfl⟩;have q:(k.toList == [])=s:=(by rw [<-d];cases k.toList <;> rfl);have P:(k.toList==(⟨#[]⟩:ByteArray).toList)=s:=(by rw [Lib.toList_data ⟨#[]⟩];exact q);cases s
            all_goals
             go_wp2;go_meet
             case rel=>exact ⟨by rw [n.out,hl2],rfl⟩
          | false =>
            go_wp2;go_meet
            case rel=>exact ⟨by rw [n.out,hl2],rfl⟩
         case rest =>
          obtain ⟨rfl,rfl⟩:=hcut;by_cases hh1:j<0
          · have C:decide (j<0)=true:=decide_eq_true hh1
            have f:=H_ (R.out hh1);go_wp2;go_ret;exact ⟨by rw [f.out];rfl,a.out⟩
          have C:decide (j<0)=false:=decide_eq_false hh1
          by_cases hh3:j=0
          · have B:(j==0)=true:=beq_iff_eq.2 hh3
            have f:=H_ (S.out hh3);go_wp2;go_ret;exact ⟨by rw [f.out];rfl,a.out⟩
          have B:(j==0)=false:=beq_eq_false_iff_ne.2 hh3
          have f:=H_ (U.out (by omega))
          cases lb with
          | true =>
            go_wp2;go_ret;exact ⟨by rw [f.out];rfl,a.out⟩
          | false =>
            go_wp2;go_ret;exact ⟨by rw [f.out];rfl,a.out⟩
      · have r:=z.out
        have l:=u.out;clear z u O;obtain rfl:=r rfl;have o:Hid (lb=Op.bytesLess k.toList c5.toList):=H_ (I.out rfl).1;have n:Hid (Y=(k.toList==c5.toList)):=H_ (I.out rfl).2;clear p I m r l;go_upto_region 20 with fail
        go_cut [9] (fun s9 wx=>s9=.bool lb/\wx=wr)
        case first =>
         cases hbl:Op.bytesLess k.toList c5.toList with
         | true =>
           go_wp2;go_meet
           case rel=>exact ⟨by rw [o.out,hbl],rfl⟩
         | false =>
           go_wp2;go_meet
           case rel=>exact ⟨by rw [o.out,hbl],rfl⟩
        case rest =>
         obtain ⟨rfl,rfl⟩:=hcut;go_upto_region 21 with fail
         go_cut [10] (fun s10 wx=>s10=.bool Y/\wx=wc)
         case first =>
          cases hbl:(k.toList==c5.toList) with
          | true =>
            go_wp2;go_meet
            case rel=>exact ⟨by rw [n.out,hbl],rfl⟩
          | false =>
            go_wp2;go_meet
            case rel=>exact ⟨by rw [n.out,hbl],rfl⟩
         case rest =>
          obtain ⟨rfl,rfl⟩:=hcut;by_cases hh1:j<0
          · have C:decide (j<0)=true:=decide_eq_true hh1
            have f:=H_ (R.out hh1);go_wp2;go_ret;exact ⟨by rw [f.out];rfl,a.out⟩
          have C:decide (j<0)=false:=decide_eq_false hh1
          by_cases hh3:j=0
          · have B:(j==0)=true:=beq_iff_eq.2 hh3
            have f:=H_ (S.out hh3);go_wp2;go_ret;exact ⟨by rw [f.out];rfl,a.out⟩
          have B:(j==0)=false:=beq_eq_false_iff_ne.2 hh3
          have f:=H_ (U.out (by omega))
          cases lb with
          | true =>
            go_wp2;go_ret;exact ⟨by rw [f.out];rfl,a.out⟩
          | false =>
            go_wp2;go_ret;exact ⟨by rw [f.out];rfl,a.out⟩
      have r:=z.out
      have l:=u.out;clear z u O;obtain rfl:=l (by decide);have o:Hid (lb=decide (x6<F)):=H_ (by rw [(p.out (by simp)).1,m.out];rfl);have n:Hid (Y=(x6==F)):=H_ (by rw [(p.out (by simp)).2,m.out];rfl);have Q:(⟨#[]⟩:ByteArray).toList = []:=(by rw [Lib.toList_data]);have t:Op.bytesLess k.toList (⟨#[]⟩:ByteArray).toList=false:=zed k;have ad:Op.bytesLess k.toList []=false:=(by rw [Q] at t;exact t);clear Q;clear p I m r l;go_upto_region 20 with fail
      go_cut [9] (fun s9 wx=>s9=.bool lb/\wx=wr)
      case first =>
       cases hl2:decide (x6<F) with
       | true =>
         go_wp2;go_meet
         case rel=>exact ⟨by rw [o.out,hl2],rfl⟩
       | false =>
         go_wp2;go_meet
         case rel=>exact ⟨by rw [o.out,hl2],rfl⟩
      case rest =>
       obtain ⟨rfl,rfl⟩:=hcut;go_upto_region 21 with fail
       go_cut [10] (fun s10 wx=>s10=.bool Y/\wx=wc)
       case first =>
        cases hl2:(x6==F) with
        | true =>
          obtain ⟨s,d⟩:∃ s,k.toList.isEmpty=s:=⟨_,rfl⟩;have q:(k.toList == [])=s:=(by rw [<-d];cases k.toList <;> rfl);have P:(k.toList==(⟨#[]⟩:ByteArray).toList)=s:=(by rw [Lib.toList_data ⟨#[]⟩];exact q);cases s
          all_goals
           go_wp2;go_meet
           case rel=>exact ⟨by rw [n.out,hl2],rfl⟩
        | false =>
          go_wp2;go_meet
          case rel=>exact ⟨by rw [n.out,hl2],rfl⟩
       case rest =>
        obtain ⟨rfl,rfl⟩:=hcut;by_cases hh1:j<0
        · have C:decide (j<0)=true:=decide_eq_true hh1
          have f:=H_ (R.out hh1);go_wp2;go_ret;exact ⟨by rw [f.out];rfl,a.out⟩
        have C:decide (j<0)=false:=decide_eq_false hh1
        by_cases hh3:j=0
        · have B:(j==0)=true:=beq_iff_eq.2 hh3
          have f:=H_ (S.out hh3);go_wp2;go_ret;exact ⟨by rw [f.out];rfl,a.out⟩
        have B:(j==0)=false:=beq_eq_false_iff_ne.2 hh3
        have f:=H_ (U.out (by omega))
        cases lb with
        | true =>
          go_wp2;go_ret;exact ⟨by rw [f.out];rfl,a.out⟩
        | false =>
          go_wp2;go_ret;exact ⟨by rw [f.out];rfl,a.out⟩
    | succ g =>
      have aU:(i:Int)<(M.length:Int):=(by omega);obtain ⟨y,hy⟩:∃ y,M[i]?=some y:=⟨_,List.getElem?_eq_getElem (by omega)⟩;obtain ⟨ga,go,rfl⟩:=aT.out (by omega);have an:=zsn hy J;have H:=HV.out.fr HF.out fun b hb e=>aP.out (by omega) b hb e;have f0:=H.cell0 zae i hy rfl;have f1:=H.cell zae i 1 hy rfl;have f2:=H.cell zae i 2 hy rfl;have f3:=H.cell zae i 3 hy rfl;have f4:=H.cell zae i 4 hy rfl;have f5:=H.cell zae i 5 hy rfl;have lf:=World.block_lt_of_cell? _ _ f0;have aC:=cellAt hc 0 rfl;have T:=H_ an;clear hy H an hc;obtain ⟨y1,y2,y3,y4,y5,y6⟩:=y;dsimp only at f0 f1 f2 f3 f4 f5 T
      cases hk:keq y1 J with
      | false =>
        rw [hk] at T;have b8:(y1.toList==J.toList)=false:=hk;clear N;go_upto_region 8 with fail;refine wp_region_still_lit (by kernel_rfl) (by kernel_rfl) ?_;change wpStill _ _ wr.drew _ _ _
        repeat (refine (wpStill_step (fun K hK=>?_):_);go_simp;refine hK _ ?_;clear hK K)
        refine (wpStill_nil ?_:_);change Exit.then _ _ _ _ wr.drew;go_wp2;go_roundg g
        case rel=>exact ⟨i+1,by go_num,by omega,H_ (by rw [T.out];exact HX.out),H_ HF.out.drew⟩
        case measure=>omega
      | true =>
        rw [hk] at T;have b8:(y1.toList==J.toList)=true:=hk;have ag:wr.drew.heap[w1.heap.size]?=some (.cells #[.string (lastL (M.take i) J).key,.string (lastL (M.take i) J).value,.int .i64 (lastL (M.take i) J).create,.int .i64 (lastL (M.take i) J).mod,.int .i64 (lastL (M.take i) J).version,.int .i64 (lastL (M.take i) J).lease] 99 (0,0)):=N;have aA:∀ i,wr.frozen? ⟨w1.heap.size,i,none⟩=false:=fun i=>by unfold World.frozen?;dsimp only;rw [N];simp
        obtain ⟨g0,g1,g2,g3,g4,g5⟩:=cells6 ag;have bt:∀ i,wr.drew.frozen? ⟨w1.heap.size,i,none⟩=false:=aA;have aV:=H_ ag;clear N ag;go_upto_region 8 with fail;refine wp_region_still_lit (by kernel_rfl) (by kernel_rfl) ?_;change wpStill _ _ wr.drew _ _ _
        repeat (refine (wpStill_step (fun K hK=>?_):_);go_simp;refine hK _ ?_;clear hK K)
        refine (wpStill_nil ?_:_);change Exit.then _ _ _ _ wr.drew;have d0:wr.drew.cell? ⟨ga,go+i * 6,none⟩=some (.string y1):=f0;have d1:wr.drew.cell? ⟨ga,go+i * 6+1,none⟩=some (.string y2):=f1;have d2:wr.drew.cell? ⟨ga,go+i * 6+2,none⟩=some (.int .i64 y3):=f2;have d3:wr.drew.cell? ⟨ga,go+i * 6+3,none⟩=some (.int .i64 y4):=f3;have d4:wr.drew.cell? ⟨ga,go+i * 6+4,none⟩=some (.int .i64 y5):=f4;have d5:wr.drew.cell? ⟨ga,go+i * 6+5,none⟩=some (.int .i64 y6):=f5;have bf:=H_ HF.out.drew;have ld:ga<wr.drew.heap.size:=lf;have bM:w1.heap.size<wr.drew.heap.size:=lx;clear f0 f1 f2 f3 f4 f5 lf lx aA aC lc;generalize wr.drew=WD at *;obtain ⟨Z,hZ,ao,b5⟩:=zfq (w:=w) aV.out ⟨y1,y2,y3,y4,y5,y6⟩
        have ay:Fr (fun b=>b=w1.heap.size) WD Z:=(by rw [<-hZ];exact ((((((Fr.refl _ WD).setAt 0 _).setAt 1 _).setAt 2 _).setAt 3 _).setAt 4 _).setAt 5 _);have HZ:=H_ hZ;have aW:=H_ ao;have aO:=H_ (bf.out.trans ay fun _ _ e=>e);clear hZ ao b5 ay;go_wp2;rw [HZ.out];go_roundg g
        case rel=>exact ⟨i+1,by go_num,by omega,H_ (by rw [T.out,if_pos True.intro];exact aW.out),aO⟩
        case measure=>omega
 have ap:(E==0)=false:=beq_eq_false_iff_ne.2 h0
 have bR:(E != 0)=true:=(by rw [bne,ap];rfl);have a3:hd=false:=(by rw [L,ap];rfl);have be:=H_ a3;clear L hz ab a9 a8 ah aj aa hE a3;go_enter Tryz.func32,Tryz.ntmps32;go_wp2_with (go_at_call 79;refine (a7.out _).mono ?_;rintro e w1 ⟨rfl,A⟩);go_ret;exact ⟨by rw [be.out];rfl,ai.out.trans0 A⟩
set_option maxHeartbeats 4000000 in
theorem znd (w:World) (v va vb:Value) (cs:List Cmp) (la lb:List Opr) (hv:SlR w 5 cmpC v cs) (hva:SlR w 10 opC va la) (hvb:SlR w 10 opC vb lb) (hl:cs.length<=1099511627) (hla:la.length<=1099511627) (hlb:lb.length<=1099511627)
 (hks:∀ c∈cs,c.key.size<=1099511627776) (hka:∀ o∈la,o.rg.key.size<=1099511627776) (hkb:∀ o∈lb,o.rg.key.size<=1099511627776) :
 Calls Tryz.prog 81 #[v,va,vb] w fun e w'=>e=.returned (.int .i64 (txnE cs la lb))/\Fr No w w':=by
 have t:=fun W (h:Fr No w W)=>zdr W va la (hva.fr0 h) hla hka;have E:=fun W (h:Fr No w W)=>zdr W vb lb (hvb.fr0 h) hlb hkb;obtain ⟨a,cap,rfl,T,Y,R⟩:=hv.shape;have V:=H_ hv;clear hv;have X:=H_ R;clear R;have K:=H_ hks;clear hks;have s:=H_ t;clear t;have B:=H_ E;clear E;by_cases h16:16<cs.length
 · have C:(16:Int)<(cs.length:Int):=by omega
   have:txnE cs la lb=31:=(by unfold txnE;rw [if_pos h16]);rw [this];go_enter Tryz.func81,Tryz.ntmps81;go_wp2;go_ret;exact ⟨rfl,Fr.refl No w⟩
 have C:¬ (16:Int)<(cs.length:Int):=by omega
 have Q:txnE cs la lb=match cs.find? fun c=>cmpE c != 0 with
  | some c=>cmpE c
  | none=>if checkE la≠0 then checkE la else checkE lb:=by unfold txnE;rw [if_neg h16];rfl
 have N:=H_ Q;clear Q;go_enter Tryz.func81,Tryz.ntmps81;go_wp2
 go_loopg [7] cs.length (fun g s7 wr=>∃ i:Nat,s7=.int .i64 i/\i+g=cs.length/\Hid (∀ j,j<i->∀ p,cs[j]?=some p->cmpE p=0)/\Hid (Fr No w wr))
 case atStart=>exact ⟨0,rfl,by simp,H_ (by simp),H_ (Fr.refl No w)⟩
 case round =>
  obtain ⟨i,rfl,hi,I,k⟩:=hrel
  cases gk with
  | zero =>
    have J:¬ (i:Int)<(cs.length:Int):=(by omega)
    have D:txnE cs la lb=if checkE la≠0 then checkE la else checkE lb:=by
     rw [N.out]
     have:cs.find? (fun o=>cmpE o != 0)=none:=by
      rw [List.find?_eq_none];intro x d;obtain ⟨j,H,rfl⟩:=List.getElem_of_mem d;have:=I.out j (by omega) _ (List.getElem?_eq_getElem H);simp [this]
     rw [this]
    have F:=H_ D;clear D N I;generalize checkE la=u at *;generalize checkE lb=U at *;by_cases h1:u≠0
    · have m:(u==0)=false:=by simpa using h1
      have f:Hid (txnE cs la lb=u):=H_ (by rw [F.out,if_pos h1]);go_wp2_with (go_at_call 112;refine (s.out _ k.out).mono ?_;rintro e w1 ⟨rfl,l⟩);go_ret;exact ⟨by rw [f.out];rfl,k.out.trans0 l⟩
    have m:(u==0)=true:=by simpa using h1
    have f:Hid (txnE cs la lb=U):=H_ (by rw [F.out,if_neg h1]);have O:u=0:=(by simpa using h1);subst O;go_upto_region 12 with (go_at_call 112;refine (s.out _ k.out).mono ?_;rintro e w1 ⟨rfl,l⟩);go_wp2_with (go_at_call 112;refine (B.out _ (k.out.trans0 l)).mono ?_;rintro e w2 ⟨rfl,L⟩);go_ret;exact ⟨by rw [f.out];rfl,(k.out.trans0 l).trans0 L⟩
  | succ g =>
    obtain ⟨gb,go,rfl⟩:=X.out (by omega);obtain ⟨p,d⟩:∃ p,cs[i]?=some p:=⟨_,List.getElem?_eq_getElem (by omega)⟩;have b:=V.out.fr0 k.out;have x0:=b.cell0 zau i d rfl;have x1:=b.cell zau i 1 d rfl;have x2:=b.cell zau i 2 d rfl;have x3:=b.cell zau i 3 d rfl;have x4:=b.cell zau i 4 d rfl;have J:(i:Int)<(cs.length:Int):=(by omega);have r:=fun W=>zgi W p (K.out p (List.mem_of_getElem? d));unfold cmpV at r;have G:=H_ r;have S:=H_ d
    have y:(∀ j,j<i->∀ p,cs[j]?=some p->cmpE p=0)->cmpE p≠0->txnE cs la lb=cmpE p:=by
     intro H Z;rw [N.out]
     have M:cs.find? (fun o=>cmpE o != 0)=some p:=by
      rw [List.find?_eq_some_iff_getElem];have A:i<cs.length:=(List.getElem?_eq_some_iff.1 d).1;refine ⟨by simpa using Z,i,A,(List.getElem?_eq_some_iff.1 d).2,fun j hji=>?_⟩;have:=H j hji _ (List.getElem?_eq_getElem (by omega));simp [this]
     rw [M]
    have n:=H_ y;clear b d r y s B;generalize z:cmpE p=kp at *;have P:=H_ z;clear z;by_cases h1:kp≠0
    · have m:(kp==0)=false:=by simpa using h1
      have f:=H_ (n.out I.out h1);clear n;go_wp2_with (go_at_call 79;refine (G.out _).mono ?_;rintro e w1 ⟨rfl,l⟩);go_ret;exact ⟨by rw [f.out];rfl,k.out.trans0 l⟩
    have m:(kp==0)=true:=by simpa using h1
    clear n;go_wp2_with (go_at_call 79;refine (G.out _).mono ?_;rintro e w1 ⟨rfl,l⟩);go_roundg g
    case rel=>exact ⟨i+1,by go_num,by omega,H_ (fun j H q hq=>by
     by_cases hji:j=i
     · subst hji;rw [S.out] at hq;cases hq;rw [P.out];simpa using h1
     exact I.out j (by omega) q hq),H_ (k.out.trans0 l)⟩
    case measure=>omega
end Go.Proofs.YthljnnjpmdgkoaaGreat