/- Own lemmas. -/
import Derived.Test.YthljnnjpmdgkoaaGreatK23
import Derived.Test.YthljnnjpmdgkoaaGreatK16
import Derived.Test.YthljnnjpmdgkoaaGreatK17
import Derived.Test.YthljnnjpmdgkoaaGreatK18
import Derived.Test.YthljnnjpmdgkoaaGreatK25
import Derived.Test.YthljnnjpmdgkoaaGreatK26
namespace Go.Proofs.YthljnnjpmdgkoaaGreat
open Go Go.Proofs Go.RowKit
set_option maxRecDepth 100000
def sgnI (a b:Int):Int:=if a<b then -1 else if b<a then 1 else 0
def sgnS (a b:ByteArray):Int:=if klt a b then -1 else if klt b a then 1 else 0
theorem zhs (w:World) (a:Int):Calls Tryz.prog 125 #[.int .i64 a] w fun e w'=>e=.returned (.bool false)/\w=w':=by
 go_enter Tryz.func125,Tryz.ntmps125;go_wp2;go_ret;exact ⟨by simp,rfl⟩
theorem zhr (w:World) (a:ByteArray):Calls Tryz.prog 126 #[.string a] w fun e w'=>e=.returned (.bool false)/\w=w':=by
 go_enter Tryz.func126,Tryz.ntmps126;go_wp2;go_ret;exact ⟨by simp,rfl⟩
theorem zku (w:World) (a b:Int):Calls Tryz.prog 77 #[.int .i64 a,.int .i64 b] w fun e w'=>e=.returned (.int .i64 (sgnI a b))/\w=w':=by
 unfold sgnI;by_cases h1:a<b
 · rw [if_pos h1]
   go_enter Tryz.func77,Tryz.ntmps77;go_wp2_with (go_at_call 125;refine (zhs _ _).mono ?_;rintro e w' ⟨rfl,rfl⟩);go_ret;exact ⟨rfl,rfl⟩
 rw [if_neg h1]
 by_cases h2:b<a
 · rw [if_pos h2]
   go_enter Tryz.func77,Tryz.ntmps77;go_wp2_with (go_at_call 125;refine (zhs _ _).mono ?_;rintro e w' ⟨rfl,rfl⟩);go_ret;exact ⟨rfl,rfl⟩
 rw [if_neg h2]
 go_enter Tryz.func77,Tryz.ntmps77;go_wp2_with (go_at_call 125;refine (zhs _ _).mono ?_;rintro e w' ⟨rfl,rfl⟩);go_ret;exact ⟨rfl,rfl⟩
theorem zsb (w:World) (a b:ByteArray):Calls Tryz.prog 78 #[.string a,.string b] w fun e w'=>e=.returned (.int .i64 (sgnS a b))/\w=w':=by
 unfold sgnS klt;cases h1:Op.bytesLess a.toList b.toList
 · cases h2:Op.bytesLess b.toList a.toList
   · have c:(a.toList==b.toList)=true:=by
      rcases zep a b with h | h | h
      · unfold klt at h;rw [h1] at h;cases h
      · rw [h];simp
      unfold klt at h;rw [h2] at h;cases h
     go_enter Tryz.func78,Tryz.ntmps78;go_wp2_with (go_at_call 126;refine (zhr _ _).mono ?_;rintro e w' ⟨rfl,rfl⟩);go_ret;exact ⟨rfl,rfl⟩
   have c:(a.toList==b.toList)=false:=by
    have:=klt_ne (a:=b) (b:=a) h2;rw [zca] at this;exact this
   go_enter Tryz.func78,Tryz.ntmps78;go_wp2_with (go_at_call 126;refine (zhr _ _).mono ?_;rintro e w' ⟨rfl,rfl⟩);go_ret;exact ⟨rfl,rfl⟩
 go_enter Tryz.func78,Tryz.ntmps78
 go_wp2_with (go_at_call 126;refine (zhr _ _).mono ?_;rintro e w' ⟨rfl,rfl⟩);go_ret;exact ⟨rfl,rfl⟩
def sideN (c:Cmp) (x:Kv):Int:=if c.what=1 then x.version else if c.what=2 then x.create else if c.what=3 then x.mod else x.lease
def sidesV (c:Cmp) (x:Kv):Value :=
 if c.what=1\/c.what=2\/c.what=3\/c.what=5 then .tuple #[.iface 3 (.int .i64 (sideN c x)),.iface 3 (.int .i64 c.number)] else .tuple #[.iface 9 (.string x.value),.iface 9 (.string c.value)]
theorem zow (w:World) (c:Cmp) (x:Kv):Calls Tryz.prog 76 #[cmpV c,kvV x] w fun e w'=>e=.returned (sidesV c x)/\Fr No w w':=by
 obtain ⟨f,a,o,j,l⟩:=c;obtain ⟨k,i,m,n,d,g⟩:=x;unfold sidesV sideN cmpV kvV;dsimp only;by_cases h1:a=1
 · subst h1
   simp only [if_true,true_or];go_enter Tryz.func76,Tryz.ntmps76;go_wp2
   go_quiet (fail)
   have b:=Fr.drewN No ((w.alloc (Obj.cells #[.string f,.int .i64 1,.int .i64 o,.int .i64 j,.string l] 53)).alloc (Obj.cells #[.string k,.string i,.int .i64 m,.int .i64 n,.int .i64 d,.int .i64 g] 99)) nq;go_wp2
   go_ret2
   exact ⟨rfl,(((Fr.refl No w).alloc _).alloc _).trans0 b⟩
 have r:(a==1)=false:=by simpa using h1
 by_cases h2:a=2
 · subst h2
   simp only [if_true,true_or,or_true,if_neg h1];go_enter Tryz.func76,Tryz.ntmps76;go_wp2
   go_quiet (fail)
   have b:=Fr.drewN No ((w.alloc (Obj.cells #[.string f,.int .i64 2,.int .i64 o,.int .i64 j,.string l] 53)).alloc (Obj.cells #[.string k,.string i,.int .i64 m,.int .i64 n,.int .i64 d,.int .i64 g] 99)) nq;go_wp2
   go_ret2
   exact ⟨rfl,(((Fr.refl No w).alloc _).alloc _).trans0 b⟩
 have q:(a==2)=false:=by simpa using h2
 by_cases h3:a=3
 · subst h3
   simp only [if_true,true_or,or_true,if_neg h1,if_neg h2];go_enter Tryz.func76,Tryz.ntmps76;go_wp2
   go_quiet (fail)
   have b:=Fr.drewN No ((w.alloc (Obj.cells #[.string f,.int .i64 3,.int .i64 o,.int .i64 j,.string l] 53)).alloc (Obj.cells #[.string k,.string i,.int .i64 m,.int .i64 n,.int .i64 d,.int .i64 g] 99)) nq;go_wp2
   go_ret2
   exact ⟨rfl,(((Fr.refl No w).alloc _).alloc _).trans0 b⟩
 have p:(a==3)=false:=by simpa using h3
 by_cases h5:a=5
 · subst h5
   simp only [or_true,if_true,if_neg h1,if_neg h2,if_neg h3];go_enter Tryz.func76,Tryz.ntmps76;go_wp2
   go_quiet (fail)
   have b:=Fr.drewN No ((w.alloc (Obj.cells #[.string f,.int .i64 5,.int .i64 o,.int .i64 j,.string l] 53)).alloc (Obj.cells #[.string k,.string i,.int .i64 m,.int .i64 n,.int .i64 d,.int .i64 g] 99)) nq;go_wp2
   go_ret2
   exact ⟨rfl,(((Fr.refl No w).alloc _).alloc _).trans0 b⟩
 have s:(a==5)=false:=by simpa using h5
 rw [if_neg (by simp [h1,h2,h3,h5])];go_enter Tryz.func76,Tryz.ntmps76;go_wp2
 go_quiet (fail)
 have b:=Fr.drewN No ((w.alloc (Obj.cells #[.string f,.int .i64 a,.int .i64 o,.int .i64 j,.string l] 53)).alloc (Obj.cells #[.string k,.string i,.int .i64 m,.int .i64 n,.int .i64 d,.int .i64 g] 99)) nq;go_wp2
 go_ret2
 exact ⟨rfl,(((Fr.refl No w).alloc _).alloc _).trans0 b⟩
def rg0 (key:ByteArray):Rg:=⟨key,ByteArray.empty,0,0,false,false,false⟩
def bA:ByteArray:=⟨#[97]⟩
def bB:ByteArray:=⟨#[98]⟩
def b1:ByteArray:=⟨#[49]⟩
def b2:ByteArray:=⟨#[50]⟩
def putO (k v:ByteArray):Opr:=⟨1,rg0 k,v,0⟩
def getO (k:ByteArray):Opr:=⟨3,rg0 k,ByteArray.empty,0⟩
theorem zux {α:Type} {a o:α} {i:Nat} (h : [a][i]?=some o):i=0/\o=a:=by
 cases i with
 | zero=>simp at h;exact ⟨rfl,h.symm⟩
 | succ i=>simp at h
theorem zli {W:World} {b:Nat} {o:Opr} {t:TypeId} (h:W.heap[b]?=some (.cells (opC o).toArray t (0,0))):SlR W 10 opC (.slice (some ⟨b,0,none⟩) 1 1) [o]:=by
 refine ⟨_,1,rfl,by simp,by decide,fun _=>⟨b,0,rfl,fun i x hx j u hu=>?_⟩⟩;obtain ⟨rfl,rfl⟩:=zux hx;unfold World.cell?;simp only [h,Nat.zero_mul,Nat.zero_add,Option.isSome_none,Bool.false_eq_true,if_false];simpa using hu
def onlyL:List Kv->Kv
 | [x]=>x
 | _=>kv0
def seenS (S:St) (key:ByteArray):Kv:=onlyL (allL S (rg0 key) S.rev)
def orderC (c:Cmp) (x:Kv):Int:=if c.what=1\/c.what=2\/c.what=3\/c.what=5 then sgnI (sideN c x) c.number else sgnS x.value c.value
def holdsB (S:St) (c:Cmp):Bool:=cmpE c==0&&orderC c (seenS S c.key)==sgnI c.how 0
theorem zwh (w:World) (s:Nat) (c:Cmp) (hs:c.key.size<=1099511627776) (hE:cmpE c≠0):Calls Tryz.prog 31 #[.pointer (some ⟨s,0,none⟩),cmpV c] w fun e w'=>e=.returned (.bool false)/\Fr No w w':=by
 have a:=fun W=>zdv W c hs;obtain ⟨i,g,m,j,l⟩:=c;unfold cmpV at *;dsimp only at *;generalize cmpE _=k at *;have f:(k==0)=false:=by simpa using hE
 clear hE hs;have d:=H_ a;clear a;go_enter Tryz.func31,Tryz.ntmps31;go_wp2_with (go_at_call 75;refine (d.out _).mono ?_;rintro e w1 ⟨rfl,b⟩);go_ret;exact ⟨rfl,((Fr.refl No w).alloc _).trans0 b⟩
theorem as33t (v:Value) (w:World):(Instr.typeAssert (.iface 3 v) 20 3 true).run Tryz.prog w=.ok (.tuple #[v,.bool true]) w:=by kernel_rfl
theorem as33f (v:Value) (w:World):(Instr.typeAssert (.iface 3 v) 20 3 false).run Tryz.prog w=.ok v w:=by kernel_rfl
theorem as93t (v:Value) (w:World):(Instr.typeAssert (.iface 9 v) 20 3 true).run Tryz.prog w=.ok (.tuple #[.int .i64 0,.bool false]) w:=by kernel_rfl
theorem as99f (v:Value) (w:World):(Instr.typeAssert (.iface 9 v) 20 9 false).run Tryz.prog w=.ok v w:=by kernel_rfl
set_option maxHeartbeats 4000000 in
theorem zqq {TA:zaq} {N:Nat} (hT:TreeOk TA N) {n:Nat} (hn:n<=1099511627) (w:World) (s:Nat) (S:St) (F:Nat->Prop) (hS:zak TA w s S F) (hok:StOk n S) (hN:S.T.length<=1099511627) (hr0:0<=S.rev) (c:Cmp)
 (hs:c.key.size<=1099511627776) (hE:cmpE c=0) :
 Calls Tryz.prog 31 #[.pointer (some ⟨s,0,none⟩),cmpV c] w fun e w'=>e=.returned (.bool (holdsB S c))/\Fr No w w':=by
 have hc:=fun W=>zdv W c hs
 have hk:keyE c.key=0:=by
  unfold cmpE at hE;by_cases h:keyE c.key≠0
  · rw [if_pos h] at hE;exact absurd hE h
  simpa using h
 have a8:rangeE S (rg0 c.key)=0:=by
  unfold rangeE askE whenE rg0;dsimp only;rw [hk];have:ByteArray.empty.size=0:=rfl;simp [this];omega
 have m:=fun W (h:Fr No w W)=>zgl hT hn W s S F (hS.fr0 hT h) hok hN (rg0 c.key) hs a8;have J:moreB S (rg0 c.key) S.rev=false:=by unfold moreB rg0;simp
 have Q:getL S (rg0 c.key) S.rev=allL S (rg0 c.key) S.rev:=by unfold getL;rw [J];rfl
 have hh:holdsB S c=(orderC c (seenS S c.key)==sgnI c.how 0):=by unfold holdsB;rw [hE];rfl
 rw [hE] at hc;rw [Q] at m;rw [hh];unfold seenS;generalize allL S (rg0 c.key) S.rev=L at *;generalize moreB S (rg0 c.key) S.rev=mo at *;obtain ⟨r,g,q,o,y⟩:=c;unfold rg0 rgV at m;unfold cmpV at *;dsimp only at *;have HC:=H_ hc;have HR:=H_ m;clear hc m hE hk a8 Q hh J hs hS;go_enter Tryz.func31,Tryz.ntmps31
 go_upto_if 34 with (first
  | (go_at_call 75;refine (HC.out _).mono ?_;rintro e w1 ⟨rfl,hf⟩
     have C:Fr No w w1:=((Fr.refl No w).alloc _).trans0 hf;have hb:w1.heap[w.heap.size]?=some (.cells #[.string r,.int .i64 g,.int .i64 q,.int .i64 o,.string y] 53 (0,0)):=hf.heap (zad _ _ _ rfl) id;have x0:w1.cell? ⟨w.heap.size,0,none⟩=some (.string r):=cellAt hb 0 rfl;have lx:=zaa hb)
  | (go_at_call 46;refine (HR.out _ (C.alloc _)).mono ?_;rintro e f ⟨v,rfl,hv,A,R⟩;obtain ⟨va,am,rfl,aC,aB,P⟩:=hv.shape
     have z:=A.heap (zad w1 (Obj.cells #[.string ByteArray.empty,.string ByteArray.empty,.int .i64 0,.int .i64 0,.int .i64 0,.int .i64 0] 99) _ rfl) id;have u:=A.heap (((Fr.refl No w1).alloc (Obj.cells #[.string ByteArray.empty,.string ByteArray.empty,.int .i64 0,.int .i64 0,.int .i64 0,.int .i64 0] 99)).heap hb id) id;have p:Fr No w f:=(C.alloc _).trans0 A;have l2:=zaa z))
 have a:=H_ z;have t:=H_ u;have E:=H_ hv;have aw:=H_ R;have aa:=H_ P;have ak:=C.size;clear z u hv R P hf hb x0
 go_cut [35,36,37] (fun s35 s36 s37 wx=>Hid (wx.heap[w.heap.size]?=some (.cells #[.string r,.int .i64 g,.int .i64 q,.int .i64 o,.string y] 53 (0,0))) ∧
  Hid (wx.heap[w1.heap.size]?=some (.cells #[.string (onlyL L).key,.string (onlyL L).value,.int .i64 (onlyL L).create,.int .i64 (onlyL L).mod,.int .i64 (onlyL L).version,.int .i64 (onlyL L).lease] 99 (0,0)))/\Hid (Fr No w wx))
 case first =>
  by_cases h1:L.length=1
  · obtain ⟨x,rfl⟩:=List.length_eq_one_iff.1 h1
    obtain ⟨G,go,rfl⟩:=aa.out (by simp);obtain ⟨x1,x2,x3,x4,x5,x6⟩:=x;have y0:f.cell? ⟨G,go,none⟩=some (.string x1):=(by simpa using E.out.cell zae 0 0 rfl rfl);have y1:f.cell? ⟨G,go+1,none⟩=some (.string x2):=(by simpa using E.out.cell zae 0 1 rfl rfl);have y2:f.cell? ⟨G,go+2,none⟩=some (.int .i64 x3):=(by simpa using E.out.cell zae 0 2 rfl rfl);have y3:f.cell? ⟨G,go+3,none⟩=some (.int .i64 x4):=(by simpa using E.out.cell zae 0 3 rfl rfl);have y4:f.cell? ⟨G,go+4,none⟩=some (.int .i64 x5):=(by simpa using E.out.cell zae 0 4 rfl rfl);have y5:f.cell? ⟨G,go+5,none⟩=some (.int .i64 x6):=(by simpa using E.out.cell zae 0 5 rfl rfl);have z0:f.cell? ⟨w1.heap.size,0,none⟩=some (.string ByteArray.empty):=(by simp [World.cell?,a.out])
    have z1:f.cell? ⟨w1.heap.size,1,none⟩=some (.string ByteArray.empty):=(by simp [World.cell?,a.out]);have z2:f.cell? ⟨w1.heap.size,2,none⟩=some (.int .i64 0):=(by simp [World.cell?,a.out]);have z3:f.cell? ⟨w1.heap.size,3,none⟩=some (.int .i64 0):=(by simp [World.cell?,a.out]);have z4:f.cell? ⟨w1.heap.size,4,none⟩=some (.int .i64 0):=(by simp [World.cell?,a.out]);have z5:f.cell? ⟨w1.heap.size,5,none⟩=some (.int .i64 0):=(by simp [World.cell?,a.out]);have aG:∀ i,f.frozen? ⟨w1.heap.size,i,none⟩=false:=fun i=>by simp [World.frozen?,a.out]
    go_wp2;go_meet
    case rel =>
     obtain ⟨Z,hZ,O,ad⟩:=zfq (w:=w) a.out ⟨x1,x2,x3,x4,x5,x6⟩;dsimp only at hZ O;rw [hZ];have ag:Fr (fun b=>b=w1.heap.size) f Z:=(by rw [<-hZ];exact ((((((Fr.refl _ f).setAt 0 _).setAt 1 _).setAt 2 _).setAt 3 _).setAt 4 _).setAt 5 _);exact ⟨H_ (ag.heap t.out (fun e=>by have e':w.heap.size=w1.heap.size:=e;omega)),H_ O,H_ (ad p (by omega))⟩
  have aD:((L.length:Int)==1)=false:=by simpa using (show ¬ (L.length:Int)=1 by omega)
  have hk:onlyL L=kv0:=by
   match L,h1 with
   | [],_=>rfl
   | [_],h=>simp at h
   | _ :: _ :: _,_=>rfl
  have HK:=H_ hk;clear hk;go_wp2;go_meet
  case rel=>exact ⟨t,H_ (by rw [HK.out];exact a.out),H_ p⟩
 case rest =>
  obtain ⟨I,B,HF⟩:=hcut;generalize V:onlyL L=k at *;have M:=H_ V;clear V;obtain ⟨k1,H,K,k4,Y,U⟩:=k;have a0:wc.cell? ⟨w.heap.size,0,none⟩=some (.string r):=(by simp [World.cell?,I.out]);have a1:wc.cell? ⟨w.heap.size,1,none⟩=some (.int .i64 g):=(by simp [World.cell?,I.out]);have a2:wc.cell? ⟨w.heap.size,2,none⟩=some (.int .i64 q):=(by simp [World.cell?,I.out]);have a3:wc.cell? ⟨w.heap.size,3,none⟩=some (.int .i64 o):=(by simp [World.cell?,I.out]);have a4:wc.cell? ⟨w.heap.size,4,none⟩=some (.string y):=(by simp [World.cell?,I.out]);have b0:wc.cell? ⟨w1.heap.size,0,none⟩=some (.string k1):=(by simp [World.cell?,B.out]);have b1:wc.cell? ⟨w1.heap.size,1,none⟩=some (.string H):=(by simp [World.cell?,B.out])
  have b2:wc.cell? ⟨w1.heap.size,2,none⟩=some (.int .i64 K):=(by simp [World.cell?,B.out]);have b3:wc.cell? ⟨w1.heap.size,3,none⟩=some (.int .i64 k4):=(by simp [World.cell?,B.out]);have b4:wc.cell? ⟨w1.heap.size,4,none⟩=some (.int .i64 Y):=(by simp [World.cell?,B.out]);have b5:wc.cell? ⟨w1.heap.size,5,none⟩=some (.int .i64 U):=(by simp [World.cell?,B.out]);have la:=zaa I.out;have lb:=zaa B.out;have d:=fun W=>zow W ⟨r,g,q,o,y⟩ ⟨k1,H,K,k4,Y,U⟩;have j:orderC ⟨r,g,q,o,y⟩ ⟨k1,H,K,k4,Y,U⟩=if g=1\/g=2\/g=3\/g=5 then sgnI (sideN ⟨r,g,q,o,y⟩ ⟨k1,H,K,k4,Y,U⟩) o else sgnS H y:=rfl;unfold sidesV cmpV kvV at d;dsimp only at d;generalize sideN ⟨r,g,q,o,y⟩ ⟨k1,H,K,k4,Y,U⟩=sn at *;have t1:=as33t;have t2:=as33f;have t3:=as93t
  have t4:=as99f;by_cases hw:g=1\/g=2\/g=3\/g=5
  · simp only [if_pos hw] at d
    rw [if_pos hw] at j;have D:=H_ d;have HO:=H_ j;clear d j hw
    go_wp2_with (first
     | (go_at_call 76;refine (D.out _).mono ?_;rintro e w3 ⟨rfl,l⟩
        have X:=l.cell0 a2)
     | (go_at_call 77;refine (zku _ _ _).mono ?_;rintro e w4 ⟨rfl,rfl⟩))
    go_ret;exact ⟨by rw [M.out,HO.out];rfl,HF.out.trans0 l⟩
  simp only [if_neg hw] at d
  rw [if_neg hw] at j;have D:=H_ d;have HO:=H_ j;clear d j hw
  go_upto_region 12 with (first
   | (go_at_call 76;refine (D.out _).mono ?_;rintro e w3 ⟨rfl,l⟩
      have X:=l.cell0 a2))
  have ay:=X
  go_region_held (fun W=>W.cell? ⟨w.heap.size,2,none⟩=some (.int .i64 q)) (first | assumption) (first | (go_at_call 78;refine (zsb _ _ _).mono ?_;rintro e w4 ⟨rfl,rfl⟩))
  go_wp2_with (first
   | (go_at_call 77;refine (zku _ _ _).mono ?_;rintro e w4 ⟨rfl,rfl⟩))
  all_goals (go_ret;exact ⟨by rw [M.out,HO.out];rfl,HF.out.trans0 (by (repeat (first | exact l | refine Fr.drew ?_)))⟩)
def bareIf (g:Rg) (x:Kv):Kv:=if g.keys then { x with value:=ByteArray.empty } else x
def allA (g:Rg) (l:List Kv):List Kv:=(if g.desc then l.reverse else l).filter fun y=>inB y.key g.key g.end_
def outN (g:Rg) (n:Nat):Nat:=if g.limit=0 then n else min n g.limit.toNat
def outA (g:Rg) (l:List Kv):List Kv:=if g.count then [] else ((allA g l).take (outN g (allA g l).length)).map (bareIf g)
def moreA (g:Rg) (l:List Kv):Bool:=!g.count&&decide ((outA g l).length<(allA g l).length)
theorem zup (g:Rg) (n:Nat):outN g n<=n:=by unfold outN;split <;> omega
theorem zwv {g:Rg} (hc:g.count=false) (l:List Kv):(outA g l).length=outN g (allA g l).length:=by
 unfold outA;rw [hc];have:=zup g (allA g l).length;simp only [Bool.false_eq_true,if_false,List.length_map,List.length_take];omega
theorem zsl (g:Rg) (l:List Kv):l.map (bareIf g)=if g.keys then l.map (fun x=>{ x with value:=ByteArray.empty }) else l:=by
 unfold bareIf;cases g.keys
 · simp
 simp
theorem zsr {S:St} {g:Rg} {rev:Int} {l:List Kv} (h:allL S g rev=l.filter fun y=>inB y.key g.key g.end_) (h0:0<=g.limit) :
 getL S g rev=outA g l/\(allL S g rev).length=(allA g l).length/\moreB S g rev=moreA g l:=by
 have e:allA g l=if g.desc then (allL S g rev).reverse else allL S g rev:=by
  unfold allA;rw [h]
  split
  · rw [List.filter_reverse]
  rfl
 have b:(allL S g rev).length=(allA g l).length:=by
  rw [e];split <;> simp
 cases hc:g.count with
 | true =>
   refine ⟨?_,b,?_⟩
   · unfold getL outA;rw [hc];rfl
   unfold moreB moreA;rw [hc];rfl
 | false =>
   have d:=zwv hc l
   have a:moreB S g rev=moreA g l:=by
    unfold moreB moreA;rw [hc,d,b];unfold outN;rw [Bool.eq_iff_iff];simp only [Bool.not_false,Bool.true_and,Bool.and_eq_true,decide_eq_true_eq]
    split
    · omega
    omega
   refine ⟨?_,b,a⟩;unfold getL outA;rw [hc,zsl,<-e];simp only [Bool.false_eq_true,if_false]
   have:cutL g (moreB S g rev) (allA g l)=(allA g l).take (outN g (allA g l).length):=by
    unfold cutL;rw [a];unfold moreA;rw [hc,d];by_cases hm:outN g (allA g l).length<(allA g l).length
    · rw [decide_eq_true hm]
      unfold outN at hm ⊢
      split at hm
      · omega
      rename_i hl
      rw [if_neg hl];simp only [Bool.not_false,Bool.true_and,if_true];have c:min (allA g l).length g.limit.toNat=g.limit.toNat:=(by omega);rw [c]
    have c:outN g (allA g l).length=(allA g l).length:=by have:=zup g (allA g l).length;omega
    rw [decide_eq_false hm,c,List.take_length]
    rfl
   rw [this]
structure RunD where
 now:List Kv
 A:List Ans
 E:List Ev
def wasL (l:List Kv) (key:ByteArray):Kv:=(hasL l key).getD kv0
def putD (l:List Kv) (o:Opr) (rev:Int):Ev :=
 ⟨1,⟨o.rg.key,o.value,if (wasL l o.rg.key).version=0 then rev else (wasL l o.rg.key).create,rev,(wasL l o.rg.key).version+1,o.lease⟩,wasL l o.rg.key⟩
def delG (o:Opr):Rg:=⟨o.rg.key,o.rg.end_,0,0,false,false,false⟩
def getD (D:Doc) (now:List Kv) (o:Opr):List Kv:=if o.rg.rev≠0 then D.at o.rg.rev else now
def stepD (D:Doc) (r:RunD) (o:Opr):RunD :=
 if o.kind=1 then ⟨doneL r.now (putD r.now o (D.rev+1)),r.A++[⟨1,told (putD r.now o (D.rev+1)),(told (putD r.now o (D.rev+1))).length,false⟩],r.E++[putD r.now o (D.rev+1)]⟩
 else if o.kind=3 then ⟨r.now,r.A++[⟨3,outA o.rg (getD D r.now o),(allA o.rg (getD D r.now o)).length,moreA o.rg (getD D r.now o)⟩],r.E⟩
 else ⟨(outA (delG o) r.now).foldl (fun l x=>doneL l (goneE x (D.rev+1))) r.now,r.A++[⟨o.kind,outA (delG o) r.now,(outA (delG o) r.now).length,false⟩],r.E++(outA (delG o) r.now).map fun x=>goneE x (D.rev+1)⟩
def runD (D:Doc) (ops:List Opr):RunD:=ops.foldl (stepD D) ⟨D.at D.rev,[],[]⟩
theorem ziz (D:Doc) (ops:List Opr) {i:Nat} {o:Opr} (h:ops[i]?=some o):runD D (ops.take (i+1))=stepD D (runD D (ops.take i)) o:=by
 unfold runD;rw [List.take_add_one,h,List.foldl_append]
 rfl
theorem zgz (o:Opr) (l:List Kv):outA (delG o) l=l.filter fun y=>inB y.key o.rg.key o.rg.end_:=by
 unfold outA allA outN delG bareIf;simp
theorem Doc.adds_append (D:Doc) (E G:List Ev):D.adds (E++G)=(D.adds E).adds G:=by unfold Doc.adds;rw [List.foldl_append]
theorem Doc.adds_at {r:Int} (G:List Ev):∀ D:Doc,(∀ e∈G,D.mark<e.kv.mod/\e.kv.mod<=r)->(D.adds G).at r=G.foldl doneL (D.at r):=by
 induction G with
 | nil=>intro D _;rfl
 | cons x G ih =>
   intro D h;have a:=h x List.mem_cons_self;have e:D.adds (x :: G)=(D.add x).adds G:=rfl;rw [e,ih (D.add x) fun e he=>h e (List.mem_cons_of_mem _ he),Doc.add_at D x a.1,if_pos a.2]
   rfl
theorem zyw (rev:Int) (L:List Kv) (h:∀ x∈L,1<=x.version):∀ q:St×List Kv×List Ev,(L.foldl (goneR rev) q).2.1=q.2.1++L:=by
 induction L with
 | nil=>intro q;simp
 | cons x L ih =>
   intro q;rw [List.foldl_cons,ih fun y hy=>h y (List.mem_cons_of_mem _ hy)];unfold goneR;rw [zmx (h x List.mem_cons_self)];simp
theorem znn {o:Opr} (h:oneE o=0):o.kind=1\/o.kind=2\/o.kind=3:=by
 unfold oneE at h;by_cases h3:o.kind=3
 · exact .inr (.inr h3)
 rw [if_neg h3] at h
 by_cases h2:o.kind=2
 · exact .inr (.inl h2)
 rw [if_neg h2] at h
 by_cases h1:o.kind=1
 · exact .inl h1
 rw [if_neg h1] at h;cases h
theorem zok {g:Rg} (h:askE g=0):0<=g.rev/\0<=g.limit:=by
 unfold askE at h
 split at h
 · rename_i hk;exact absurd h hk
 split at h
 · cases h
 split at h
 · cases h
 omega
theorem zrv {S:St} {rev:Int} (h:whenE S rev=0):rev<=S.rev/\(rev≠0->S.mark<=rev):=by
 unfold whenE at h
 split at h
 · cases h
 split at h
 · cases h
 omega
theorem zot {S:St} {ops:List Opr} (h:whenAll S ops=0) {o:Opr} (ho:o∈ops) (h3:o.kind=3):whenE S o.rg.rev=0:=by
 unfold whenAll at h
 cases hf:ops.find? (fun o=>o.kind==3&&whenE S o.rg.rev != 0) with
 | none =>
   have:=List.find?_eq_none.1 hf o ho;simpa [h3] using this
 | some q =>
   rw [hf] at h;have:=List.find?_some hf;simp at this;exact absurd h this.2
theorem Good.at_next {k:Nat} {S:St} {D:Doc} (h:Good k S D):D.at (D.rev+1)=D.at D.rev:=Doc.at_late (fun e he=>(h.doc.lo e he).2.2) (by omega) (Int.le_refl _)
theorem Good.runD {k:Nat} {S:St} {D:Doc} (h:Good k S D) (hk:k<=70) {ops:List Opr} (hc:checkE ops=0) (hw:whenAll S ops=0) (hks:∀ o∈ops,o.rg.key.size<=1099511627776) :
 ∀ i≤ ops.length,(Go.Proofs.YthljnnjpmdgkoaaGreat.runD D (ops.take i)).now=(D.adds (runR (D.rev+1) ⟨S,[],[]⟩ (ops.take i)).E).at (D.rev+1) ∧
  (Go.Proofs.YthljnnjpmdgkoaaGreat.runD D (ops.take i)).A=(runR (D.rev+1) ⟨S,[],[]⟩ (ops.take i)).A/\(Go.Proofs.YthljnnjpmdgkoaaGreat.runD D (ops.take i)).E=(runR (D.rev+1) ⟨S,[],[]⟩ (ops.take i)).E:=by
 intro i
 induction i with
 | zero=>intro _;exact ⟨h.at_next.symm,rfl,rfl⟩
 | succ i ih =>
   intro U;obtain ⟨l,I,J⟩:=ih (by omega);obtain ⟨o,F⟩:∃ o,ops[i]?=some o:=⟨_,List.getElem?_eq_getElem (by omega)⟩;have s:=List.mem_of_getElem? F;have a:=(zch hc).2.1 o s;obtain ⟨⟨j,_⟩,_⟩:=h.runs hk hc hks i (by omega);rw [ziz _ _ F,zix _ _ _ F];generalize Go.Proofs.YthljnnjpmdgkoaaGreat.runD D (ops.take i)=q at *;generalize runR (D.rev+1) ⟨S,[],[]⟩ (ops.take i)=r at *;obtain ⟨b,R,T⟩:=q;dsimp only at l I J;subst I J;have z:=h.cpl.m0;have d:=Doc.adds_parts D r.E;have g:(D.adds r.E).mark<=D.rev+1:=(by rw [d.1];omega);have w:KSorted (D.adds r.E).kvs:=(by rw [d.2.1];exact h.cpl.ks);have H:=j.cpl.lives o.rg.key (D.rev+1) g
   have C:(livesS r.S o.rg.key (D.rev+1)).1=wasL b o.rg.key:=by
    unfold wasL;rw [H,l];cases hasL ((D.adds r.E).at (D.rev+1)) o.rg.key <;> rfl
   have f:∀ G:List Ev,(∀ e∈G,e.kv.mod=D.rev+1)->(D.adds (r.E++G)).at (D.rev+1)=G.foldl doneL b:=fun G hG=>by
    rw [Doc.adds_append,Doc.adds_at G (D.adds r.E) fun e he=>by rw [d.1,hG e he];omega,<-l]
   rcases znn a with m | t | c
   · have P:zax r.S o (D.rev+1)=putD b o (D.rev+1):=by unfold zax putD;rw [C]
     unfold stepD stepR;rw [if_pos m,if_pos m,P];refine ⟨?_,rfl,rfl⟩;dsimp only;rw [f _ fun e he=>by rw [List.mem_singleton.1 he];rfl]
     rfl
   · have p:¬ o.kind=1:=by omega
     have L:¬ o.kind=3:=(by omega);have B:zaz r.S o.rg.key o.rg.end_ (D.rev+1)=outA (delG o) b:=(by rw [j.between z.2,<-l,zgz])
     have u:∀ x∈outA (delG o) b,1<=x.version:=fun x hx=>by
      rw [zgz,l] at hx;exact (j.doc.ver_at w (List.mem_filter.1 hx).1).1
     unfold stepD stepR;rw [if_neg p,if_neg p,if_neg L,if_pos t,B];dsimp only;refine ⟨?_,?_,?_⟩
     · rw [zpq]
       dsimp only;rw [f _ fun e he=>by obtain ⟨x,_,rfl⟩:=List.mem_map.1 he;rfl,List.foldl_map]
     · rw [zyw _ _ u]
       dsimp only;rw [t]
       rfl
     rw [zpq]
   have p:¬ o.kind=1:=by omega
   have O:¬ o.kind=2:=(by omega)
   have n:askE o.rg=0:=by
    unfold oneE at a;rw [if_pos c] at a;exact a
   obtain ⟨Q,N⟩:=zok n;obtain ⟨M,K⟩:=zrv (zot hw s c);rw [h.rev] at M;rw [h.cpl.mark] at K
   have v:allL r.S o.rg (D.rev+1)=(getD D b o).filter fun y=>inB y.key o.rg.key o.rg.end_:=by
    unfold allL revOf getD;by_cases hz:o.rg.rev≠0
    · rw [if_pos hz,if_pos hz]
      unfold zaz;rw [j.cpl.between j.srt _ _ (by rw [d.1];exact K hz),Doc.adds_at_old D r.E fun e he=>by rw [j.mods e he];omega]
      congr 1
      funext y
      exact zpb _ _ _
    rw [if_neg hz,if_neg hz,j.between z.2,<-l]
   obtain ⟨a1,a2,a3⟩:=zsr v N;unfold stepD stepR;rw [if_neg p,if_neg p,if_pos c,if_neg O,if_pos c,a1,a2,a3];exact ⟨l,rfl,rfl⟩
def zce (D:Doc) (E:List Ev):Doc:=if E = [] then D else ⟨D.rev+1,D.mark,D.kvs,D.events++E⟩
theorem zjz (D:Doc) (E:List Ev) (h:∀ e∈E,e.kv.mod=D.rev+1):D.adds E=zce D E:=by
 have d:=Doc.adds_rev D E _ h;have f:=Doc.adds_parts D E;unfold zce;by_cases hE:E = []
 · subst hE;rfl
 rw [if_neg hE] at d ⊢
 obtain ⟨a,b,c⟩:=f;cases hD:D.adds E
 rw [hD] at d a b c;dsimp only at d a b c;rw [d,a,b,c]
def whenD (D:Doc) (rev:Int):Int:=if D.rev<rev then 33 else if rev≠0/\rev<D.mark then 32 else 0
theorem Good.when {k:Nat} {S:St} {D:Doc} (h:Good k S D) (rev:Int):whenE S rev=whenD D rev:=by unfold whenE whenD;rw [h.rev,h.cpl.mark]
def zba (D:Doc) (ops:List Opr):Int:=match ops.find? fun o=>o.kind==3&&whenD D o.rg.rev != 0 with
 | some o=>whenD D o.rg.rev
 | none=>0
theorem Good.whenAll {k:Nat} {S:St} {D:Doc} (h:Good k S D) (ops:List Opr):Go.Proofs.YthljnnjpmdgkoaaGreat.whenAll S ops=zba D ops:=by
 unfold Go.Proofs.YthljnnjpmdgkoaaGreat.whenAll zba;simp only [h.when];cases ops.find? (fun o=>o.kind==3&&whenD D o.rg.rev != 0) <;> rfl
def zbc (D:Doc) (ops:List Opr):Int:=if checkE ops≠0 then checkE ops else if zba D ops≠0 then zba D ops else if (runD D ops).E≠[]/\top<=D.rev then 37 else 0
def zdn (D:Doc) (ops:List Opr):Doc:=if zbc D ops=0 then zce D (runD D ops).E else D
theorem Good.applyDoc {k:Nat} {S:St} {D:Doc} (h:Good k S D) (hk:k<=70) {ops:List Opr} (hks:∀ o∈ops,o.rg.key.size<=1099511627776) :
 applyE S ops=zbc D ops/\(applyE S ops=0->(runR (S.rev+1) ⟨S,[],[]⟩ ops).A=(Go.Proofs.YthljnnjpmdgkoaaGreat.runD D ops).A/\(runR (S.rev+1) ⟨S,[],[]⟩ ops).E=(Go.Proofs.YthljnnjpmdgkoaaGreat.runD D ops).E/\applyD S D ops=zdn D ops):=by
 have f:=h.rev1
 have d:applyE S ops=zbc D ops:=by
  unfold applyE zbc;rw [h.whenAll];by_cases h1:checkE ops≠0
  · rw [if_pos h1,if_pos h1]
  rw [if_neg h1,if_neg h1]
  by_cases h2:zba D ops≠0
  · rw [if_pos h2]
  rw [if_neg h2,if_neg fun hh=>by have:=hh.2;unfold top at this;omega]
  simpa using h2
 refine ⟨d,fun h0=>?_⟩;obtain ⟨e,g⟩:=zbe h0;obtain ⟨_,a,b⟩:=h.runD hk e g hks ops.length (Nat.le_refl _);obtain ⟨⟨c,_⟩,_⟩:=h.runs hk e hks ops.length (Nat.le_refl _);rw [List.take_length] at a b c;rw [h.rev];refine ⟨a.symm,b.symm,?_⟩;unfold applyD zdn;rw [if_pos (d▸h0),b];exact zjz D _ c.mods
def dropQ (rev:Int) (q:List Kv×List Ev) (k:ByteArray):List Kv×List Ev :=
 if 0<(wasL q.1 k).version then (doneL q.1 (dropE k rev (wasL q.1 k)),q.2++[dropE k rev (wasL q.1 k)]) else q
def dropsQ (D:Doc) (keys:List ByteArray):List Kv×List Ev:=keys.foldl (dropQ (D.rev+1)) (D.at D.rev,[])
theorem zju (D:Doc) (keys:List ByteArray) {i:Nat} {k:ByteArray} (h:keys[i]?=some k):dropsQ D (keys.take (i+1))=dropQ (D.rev+1) (dropsQ D (keys.take i)) k:=by
 unfold dropsQ;rw [List.take_add_one,h,List.foldl_append]
 rfl
def dropDE (D:Doc) (keys:List ByteArray):Int:=if (dropsQ D keys).2≠[]/\top<=D.rev then 37 else 0
def dropDD (D:Doc) (keys:List ByteArray):Doc:=if dropDE D keys=0 then zce D (dropsQ D keys).2 else D
theorem Good.dropsQ {k:Nat} {S:St} {D:Doc} (h:Good k S D) (hk:k<=70) (keys:List ByteArray) (hl:keys.length<=30) :
 ∀ i≤ keys.length,Go.Proofs.YthljnnjpmdgkoaaGreat.dropsQ D (keys.take i)=((D.adds (dropTo (D.rev+1) S keys i).2).at (D.rev+1),(dropTo (D.rev+1) S keys i).2):=by
 intro i
 induction i with
 | zero=>intro _;exact Prod.ext h.at_next.symm rfl
 | succ i ih =>
   intro m;obtain ⟨x,f⟩:∃ x,keys[i]?=some x:=⟨_,List.getElem?_eq_getElem (by omega)⟩;obtain ⟨g,_⟩:=h.drops hk keys hl i (by omega);rw [zju _ _ f,zet _ _ _ f,ih (by omega)];generalize dropTo (D.rev+1) S keys i=q at *;have j:=h.cpl.m0;have b:=Doc.adds_parts D q.2;have a:KSorted (D.adds q.2).kvs:=(by rw [b.2.1];exact h.cpl.ks);have c:=g.cpl.lives x (D.rev+1) (by rw [b.1];omega);unfold dropQ dropR;dsimp only
   have l:(livesS q.1 x (D.rev+1)).1=wasL ((D.adds q.2).at (D.rev+1)) x:=by
    unfold wasL;rw [c];cases hasL ((D.adds q.2).at (D.rev+1)) x <;> rfl
   have d:(livesS q.1 x (D.rev+1)).2=true↔0<(wasL ((D.adds q.2).at (D.rev+1)) x).version:=by
    unfold wasL;rw [c]
    cases hh:hasL ((D.adds q.2).at (D.rev+1)) x with
    | none=>exact ⟨fun e=>(by cases e),fun e=>(by have n:(0:Int)<0:=e;omega)⟩
    | some y =>
      have:=(g.doc.ver_at a ((zbl (Doc.at_sorted a _) x y).1 hh).1).1;exact ⟨fun _=>(by show 0<y.version;omega),fun _=>rfl⟩
   by_cases hv:0<(wasL ((D.adds q.2).at (D.rev+1)) x).version
   · rw [if_pos hv,if_pos (d.2 hv),l]
     dsimp only;rw [Doc.adds_append,Doc.adds_at [dropE x (D.rev+1) (wasL ((D.adds q.2).at (D.rev+1)) x)] (D.adds q.2) fun e he=>by rw [b.1,List.mem_singleton.1 he];show D.mark<D.rev+1/\D.rev+1<=D.rev+1;omega]
     rfl
   rw [if_neg hv,if_neg fun e=>hv (d.1 e)]
theorem Good.dropDoc {k:Nat} {S:St} {D:Doc} (h:Good k S D) (hk:k<=70) (keys:List ByteArray) (hl:keys.length<=30) :
 dropDE D keys=0/\(keys.foldl (dropR (S.rev+1)) (S,[])).2=(Go.Proofs.YthljnnjpmdgkoaaGreat.dropsQ D keys).2/\dropD S D keys=dropDD D keys:=by
 have e:=h.rev1;have b:dropDE D keys=0:=by unfold dropDE;rw [if_neg fun hh=>by have:=hh.2;unfold top at this;omega]
 have a:=h.dropsQ hk keys hl keys.length (Nat.le_refl _);obtain ⟨d,_⟩:=h.drops hk keys hl keys.length (Nat.le_refl _);have c:dropTo (D.rev+1) S keys keys.length=keys.foldl (dropR (D.rev+1)) (S,[]):=by unfold dropTo;rw [List.take_length]
 rw [List.take_length,c] at a;rw [c] at d;refine ⟨b,by rw [a,h.rev],?_⟩;unfold dropD dropDD;rw [if_pos b,a];exact zjz D _ d.mods
theorem Good.seen {k:Nat} {S:St} {D:Doc} (h:Good k S D) (key:ByteArray):seenS S key=wasL (D.at D.rev) key:=by
 have c:=h.cpl.m0;have m:=Doc.at_sorted h.cpl.ks D.rev
 have a:allL S (rg0 key) S.rev=(D.at D.rev).filter fun y=>inB y.key key ByteArray.empty:=by
  unfold allL revOf rg0;rw [h.rev,if_neg (by simp)];unfold zaz;dsimp only;rw [h.cpl.between h.srt _ _ c.2]
  congr 1
  funext y
  exact zpb _ _ _
 unfold seenS wasL;rw [a]
 have d:∀ y:Kv,inB y.key key ByteArray.empty=keq y.key key:=fun y=>by
  unfold inB keq;rw [if_pos (by rw [Lib.toList_data];rfl)]
 simp only [d];generalize D.at D.rev=l at *;clear a
 induction l with
 | nil=>rfl
 | cons x l ih =>
   have f:=List.pairwise_cons.1 m;unfold hasL;rw [List.filter_cons,List.find?_cons]
   cases hk:keq x.key key with
   | true =>
     simp only [if_true,Option.getD_some]
     have b:l.filter (fun y=>keq y.key key) = []:=by
      rw [List.filter_eq_nil_iff];intro y i e;have g:=f.1 y i;have j:x.key=key:=zas.1 hk;have n:y.key=key:=zas.1 e;rw [j,n,zbb] at g;cases g
     rw [b]
     rfl
   | false =>
     simp only [Bool.false_eq_true,if_false];exact ih f.2
end Go.Proofs.YthljnnjpmdgkoaaGreat