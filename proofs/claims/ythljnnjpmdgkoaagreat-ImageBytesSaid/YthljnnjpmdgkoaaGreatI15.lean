/- Own lemmas. -/
import Derived.Test.YthljnnjpmdgkoaaGreatI14
import Derived.Test.YthljnnjpmdgkoaaGreatI00
import Derived.Test.YthljnnjpmdgkoaaGreatI06
import Derived.Test.YthljnnjpmdgkoaaGreatI10
import Derived.Test.YthljnnjpmdgkoaaGreatI13
import Derived.BigQuiet
import Derived.Deep.RegionHeld3
import Derived.StillTailTactics
namespace Go.Proofs.YthljnnjpmdgkoaaGreat
open Go Go.Proofs Go.RowKit
set_option maxRecDepth 100000
structure Rg where
 key:ByteArray
 end_:ByteArray
 rev:Int
 limit:Int
 keys:Bool
 count:Bool
 desc:Bool
def rgV (g:Rg):Value:=.agg #[.string g.key,.string g.end_,.int .i64 g.rev,.int .i64 g.limit,.bool g.keys,.bool g.count,.bool g.desc]
def rgC (g:Rg):List Value:=[.string g.key,.string g.end_,.int .i64 g.rev,.int .i64 g.limit,.bool g.keys,.bool g.count,.bool g.desc]
structure Opr where
 kind:Int
 rg:Rg
 value:ByteArray
 lease:Int
def opV (o:Opr):Value:=.agg #[.int .i64 o.kind,.string o.rg.key,.string o.rg.end_,.int .i64 o.rg.rev,.int .i64 o.rg.limit,.bool o.rg.keys,.bool o.rg.count,.bool o.rg.desc,.string o.value,.int .i64 o.lease]
def opC (o:Opr):List Value:=.int .i64 o.kind :: (rgC o.rg++[.string o.value,.int .i64 o.lease])
theorem zaf (o:Opr):(opC o).length=10:=rfl
def askE (g:Rg):Int:=if keyE g.key≠0 then keyE g.key else if 64<g.end_.size then 31 else if g.rev<0\/g.limit<0 then 1 else 0
theorem zgn (w:World) (g:Rg) (hs:g.key.size<=1099511627776):Calls Tryz.prog 97 #[rgV g] w fun e w'=>e=.returned (.int .i64 (askE g))/\Fr No w w':=by
 have j:=fun W=>zhz W g.key hs;obtain ⟨i,c,d,f,l,m,n⟩:=g;unfold askE rgV;dsimp only at *;generalize keyE i=k at *;clear hs;by_cases h1:k≠0
 · have o:(k==0)=false:=by simpa using h1
   rw [if_pos h1];go_enter Tryz.func97,Tryz.ntmps97;go_wp2_with (go_at_call 65;refine (j _).mono ?_;rintro e w1 ⟨rfl,a⟩);go_ret;exact ⟨rfl,((Fr.refl No w).alloc _).trans0 a⟩
 have o:(k==0)=true:=by simpa using h1
 rw [if_neg h1];by_cases h2:64<c.size
 · have p:(64:Int)<(c.size:Int):=by omega
   rw [if_pos h2];go_enter Tryz.func97,Tryz.ntmps97
   go_wp2_with (go_at_call 65;refine (j _).mono ?_;rintro e w1 ⟨rfl,a⟩
                have b:w1.heap[w.heap.size]?=some (.cells #[.string i,.string c,.int .i64 d,.int .i64 f,.bool l,.bool m,.bool n] 35 (0,0)):=a.heap (zad _ _ _ rfl) id;have q:w1.cell? ⟨w.heap.size,1,none⟩=some (.string c):=cellAt b 1 rfl)
   go_ret;exact ⟨rfl,((Fr.refl No w).alloc _).trans0 a⟩
 have p:¬ (64:Int)<(c.size:Int):=by omega
 rw [if_neg h2];by_cases h3:d<0
 · have s:¬ 0<=d:=by omega
   rw [if_pos (.inl h3)];go_enter Tryz.func97,Tryz.ntmps97
   go_wp2_with (go_at_call 65;refine (j _).mono ?_;rintro e w1 ⟨rfl,a⟩
                have b:w1.heap[w.heap.size]?=some (.cells #[.string i,.string c,.int .i64 d,.int .i64 f,.bool l,.bool m,.bool n] 35 (0,0)):=a.heap (zad _ _ _ rfl) id;have q:w1.cell? ⟨w.heap.size,1,none⟩=some (.string c):=cellAt b 1 rfl;have r:w1.cell? ⟨w.heap.size,2,none⟩=some (.int .i64 d):=cellAt b 2 rfl)
   go_ret;exact ⟨rfl,((Fr.refl No w).alloc _).trans0 a⟩
 by_cases h4:f<0
 · have t:¬ 0<=f:=by omega
   rw [if_pos (.inr h4)];go_enter Tryz.func97,Tryz.ntmps97
   go_wp2_with (go_at_call 65;refine (j _).mono ?_;rintro e w1 ⟨rfl,a⟩
                have b:w1.heap[w.heap.size]?=some (.cells #[.string i,.string c,.int .i64 d,.int .i64 f,.bool l,.bool m,.bool n] 35 (0,0)):=a.heap (zad _ _ _ rfl) id;have q:w1.cell? ⟨w.heap.size,1,none⟩=some (.string c):=cellAt b 1 rfl;have r:w1.cell? ⟨w.heap.size,2,none⟩=some (.int .i64 d):=cellAt b 2 rfl;have u:w1.cell? ⟨w.heap.size,3,none⟩=some (.int .i64 f):=cellAt b 3 rfl)
   go_ret;exact ⟨rfl,((Fr.refl No w).alloc _).trans0 a⟩
 rw [if_neg (by omega)]
 go_enter Tryz.func97,Tryz.ntmps97
 go_wp2_with (go_at_call 65;refine (j _).mono ?_;rintro e w1 ⟨rfl,a⟩
              have b:w1.heap[w.heap.size]?=some (.cells #[.string i,.string c,.int .i64 d,.int .i64 f,.bool l,.bool m,.bool n] 35 (0,0)):=a.heap (zad _ _ _ rfl) id;have q:w1.cell? ⟨w.heap.size,1,none⟩=some (.string c):=cellAt b 1 rfl;have r:w1.cell? ⟨w.heap.size,2,none⟩=some (.int .i64 d):=cellAt b 2 rfl;have u:w1.cell? ⟨w.heap.size,3,none⟩=some (.int .i64 f):=cellAt b 3 rfl)
 go_ret;exact ⟨rfl,((Fr.refl No w).alloc _).trans0 a⟩
def oneE (o:Opr):Int :=
 if o.kind=3 then askE o.rg else if o.kind=2 then askE ⟨o.rg.key,o.rg.end_,0,0,false,false,false⟩
 else if o.kind=1 then (if keyE o.rg.key≠0 then keyE o.rg.key else if 1024<o.value.size then 31 else if 0<=o.lease then 0 else 1) else 1
theorem zwu (w:World) (o:Opr) (hs:o.rg.key.size<=1099511627776):Calls Tryz.prog 127 #[opV o] w fun e w'=>e=.returned (.int .i64 (oneE o))/\Fr No w w':=by
 have z:=fun W=>zhz W o.rg.key hs;have y:=fun W=>zgn W o.rg hs;have d:=fun W=>zgn W ⟨o.rg.key,o.rg.end_,0,0,false,false,false⟩ hs;obtain ⟨g,⟨n,p,q,r,s,t,u⟩,f,i⟩:=o;unfold oneE opV;unfold rgV at *;dsimp only at *;generalize keyE n=k at *;generalize askE _=a at *;generalize askE _=b at *;have m:=H_ z;have B:=H_ y;have C:=H_ d;clear hs z y d;by_cases h1:g=3
 · have j:(g==3)=true:=by simpa using h1
   rw [if_pos h1];go_enter Tryz.func127,Tryz.ntmps127;go_wp2_with (go_at_call 97;refine (B.out _).mono ?_;rintro e w1 ⟨rfl,c⟩);go_ret;exact ⟨rfl,((Fr.refl No w).alloc _).trans0 c⟩
 have j:(g==3)=false:=by simpa using h1
 rw [if_neg h1];by_cases h2:g=2
 · have l:(g==2)=true:=by simpa using h2
   rw [if_pos h2];go_enter Tryz.func127,Tryz.ntmps127;go_wp2_with (go_at_call 97;refine (C.out _).mono ?_;rintro e w1 ⟨rfl,c⟩);go_ret;exact ⟨rfl,((Fr.refl No w).alloc _).trans0 c⟩
 have l:(g==2)=false:=by simpa using h2
 rw [if_neg h2];by_cases h3:g=1
 · rw [if_pos h3]
   subst h3;clear h1 h2 j l;by_cases h4:k≠0
   · have v:(k==0)=false:=by simpa using h4
     rw [if_pos h4];go_enter Tryz.func127,Tryz.ntmps127;go_wp2_with (go_at_call 65;refine (m.out _).mono ?_;rintro e w1 ⟨rfl,c⟩);go_ret;exact ⟨rfl,((Fr.refl No w).alloc _).trans0 c⟩
   have v:(k==0)=true:=by simpa using h4
   rw [if_neg h4];by_cases h5:1024<f.size
   · have x:(1024:Int)<(f.size:Int):=by omega
     rw [if_pos h5];go_enter Tryz.func127,Tryz.ntmps127
     go_wp2_with (go_at_call 65;refine (m.out _).mono ?_;rintro e w1 ⟨rfl,c⟩
                  have d:w1.heap[w.heap.size]?=some (.cells #[.int .i64 1,.string n,.string p,.int .i64 q,.int .i64 r,.bool s,.bool t,.bool u,.string f,.int .i64 i] 94 (0,0)):=c.heap (zad _ _ _ rfl) id;have A:w1.cell? ⟨w.heap.size,8,none⟩=some (.string f):=cellAt d 8 rfl)
     go_ret;exact ⟨rfl,((Fr.refl No w).alloc _).trans0 c⟩
   have x:¬ (1024:Int)<(f.size:Int):=by omega
   rw [if_neg h5];by_cases h6:0<=i
   · rw [if_pos h6]
     go_enter Tryz.func127,Tryz.ntmps127
     go_wp2_with (go_at_call 65;refine (m.out _).mono ?_;rintro e w1 ⟨rfl,c⟩
                  have d:w1.heap[w.heap.size]?=some (.cells #[.int .i64 1,.string n,.string p,.int .i64 q,.int .i64 r,.bool s,.bool t,.bool u,.string f,.int .i64 i] 94 (0,0)):=c.heap (zad _ _ _ rfl) id;have A:w1.cell? ⟨w.heap.size,8,none⟩=some (.string f):=cellAt d 8 rfl;have E:w1.cell? ⟨w.heap.size,9,none⟩=some (.int .i64 i):=cellAt d 9 rfl)
     go_ret;exact ⟨rfl,((Fr.refl No w).alloc _).trans0 c⟩
   rw [if_neg h6]
   go_enter Tryz.func127,Tryz.ntmps127
   go_wp2_with (go_at_call 65;refine (m.out _).mono ?_;rintro e w1 ⟨rfl,c⟩
                have d:w1.heap[w.heap.size]?=some (.cells #[.int .i64 1,.string n,.string p,.int .i64 q,.int .i64 r,.bool s,.bool t,.bool u,.string f,.int .i64 i] 94 (0,0)):=c.heap (zad _ _ _ rfl) id;have A:w1.cell? ⟨w.heap.size,8,none⟩=some (.string f):=cellAt d 8 rfl;have E:w1.cell? ⟨w.heap.size,9,none⟩=some (.int .i64 i):=cellAt d 9 rfl)
   go_ret;exact ⟨rfl,((Fr.refl No w).alloc _).trans0 c⟩
 have D:(g==1)=false:=by simpa using h3
 rw [if_neg h3];go_enter Tryz.func127,Tryz.ntmps127;go_wp2;go_ret;exact ⟨rfl,(Fr.refl No w).alloc _⟩
def inB (key frm end_:ByteArray):Bool :=
 if end_.toList.isEmpty then key.toList==frm.toList else if end_.toList == [0] then !Op.bytesLess key.toList frm.toList else !Op.bytesLess key.toList frm.toList&&Op.bytesLess key.toList end_.toList
theorem zzae (w:World) (key frm end_:ByteArray):Calls Tryz.prog 129 #[.string key,.string frm,.string end_] w fun e w'=>e=.returned (.bool (inB key frm end_))/\w=w':=by
 unfold inB;cases h1:end_.toList.isEmpty
 · cases h2:(end_.toList == [0])
   · cases h3:Op.bytesLess key.toList frm.toList <;>
     · go_enter Tryz.func129,Tryz.ntmps129
       go_wp2;go_ret;exact ⟨by simp,rfl⟩
   go_enter Tryz.func129,Tryz.ntmps129
   go_wp2;go_ret;exact ⟨by simp,rfl⟩
 go_enter Tryz.func129,Tryz.ntmps129
 go_wp2;go_ret;exact ⟨by simp,rfl⟩
theorem zpx {w X:World} {b:Nat} {a0 a1 a2 a3 a4 a5 a6 a7 a8 a9 a10 a11 a12:Value} (hk:X.heap[b]?=some (.cells #[a0,a1,a2,a3,a4,a5,a6,a7,a8,a9,a10,a11,a12] 101 (0,0))) (r:Ev) :
 ∃ Z,(((((((((((((X.setCell ⟨b,0,none⟩ (.int .i64 r.kind)).setCell ⟨b,1,none⟩ (.string r.kv.key)).setCell ⟨b,2,none⟩ (.string r.kv.value)).setCell ⟨b,3,none⟩ (.int .i64 r.kv.create)).setCell ⟨b,4,none⟩ (.int .i64 r.kv.mod)).setCell ⟨b,5,none⟩ (.int .i64 r.kv.version)).setCell ⟨b,6,none⟩ (.int .i64 r.kv.lease)).setCell ⟨b,7,none⟩ (.string r.prev.key)).setCell ⟨b,8,none⟩ (.string r.prev.value)).setCell ⟨b,9,none⟩ (.int .i64 r.prev.create)).setCell ⟨b,10,none⟩ (.int .i64 r.prev.mod)).setCell ⟨b,11,none⟩ (.int .i64 r.prev.version)).setCell ⟨b,12,none⟩ (.int .i64 r.prev.lease))=Z ∧
  Z.heap[b]?=some (.cells #[.int .i64 r.kind,.string r.kv.key,.string r.kv.value,.int .i64 r.kv.create,.int .i64 r.kv.mod,.int .i64 r.kv.version,.int .i64 r.kv.lease,.string r.prev.key,.string r.prev.value,.int .i64 r.prev.create,.int .i64 r.prev.mod,.int .i64 r.prev.version,.int .i64 r.prev.lease] 101 (0,0))/\(Fr No w X->w.heap.size<=b->Fr No w Z):=by
 have g:=zaa hk 0 (.int .i64 r.kind);have i:=zaa g 1 (.string r.kv.key);have k:=zaa i 2 (.string r.kv.value);have l:=zaa k 3 (.int .i64 r.kv.create);have m:=zaa l 4 (.int .i64 r.kv.mod);have n:=zaa m 5 (.int .i64 r.kv.version);have o:=zaa n 6 (.int .i64 r.kv.lease);have p:=zaa o 7 (.string r.prev.key);have q:=zaa p 8 (.string r.prev.value);have s:=zaa q 9 (.int .i64 r.prev.create);have a:=zaa s 10 (.int .i64 r.prev.mod);have c:=zaa a 11 (.int .i64 r.prev.version);have f:=zaa c 12 (.int .i64 r.prev.lease)
 have d:=((((((((((((((Fr.refl (fun x=>x=b) X).setAt 0 (.int .i64 r.kind)).setAt 1 (.string r.kv.key)).setAt 2 (.string r.kv.value)).setAt 3 (.int .i64 r.kv.create)).setAt 4 (.int .i64 r.kv.mod)).setAt 5 (.int .i64 r.kv.version)).setAt 6 (.int .i64 r.kv.lease)).setAt 7 (.string r.prev.key)).setAt 8 (.string r.prev.value)).setAt 9 (.int .i64 r.prev.create)).setAt 10 (.int .i64 r.prev.mod)).setAt 11 (.int .i64 r.prev.version)).setAt 12 (.int .i64 r.prev.lease));clear g i k l m n o p q s a c
 generalize (((((((((((((X.setCell ⟨b,0,none⟩ (.int .i64 r.kind)).setCell ⟨b,1,none⟩ (.string r.kv.key)).setCell ⟨b,2,none⟩ (.string r.kv.value)).setCell ⟨b,3,none⟩ (.int .i64 r.kv.create)).setCell ⟨b,4,none⟩ (.int .i64 r.kv.mod)).setCell ⟨b,5,none⟩ (.int .i64 r.kv.version)).setCell ⟨b,6,none⟩ (.int .i64 r.kv.lease)).setCell ⟨b,7,none⟩ (.string r.prev.key)).setCell ⟨b,8,none⟩ (.string r.prev.value)).setCell ⟨b,9,none⟩ (.int .i64 r.prev.create)).setCell ⟨b,10,none⟩ (.int .i64 r.prev.mod)).setCell ⟨b,11,none⟩ (.int .i64 r.prev.version)).setCell ⟨b,12,none⟩ (.int .i64 r.prev.lease))=Z at *;refine ⟨Z,rfl,?_,fun hf hb=>hf.trans d fun j hj e=>?_⟩
 · rw [f];simp
 have t:j=b:=e
 omega
def zbc (S:St) (o:Opr) (rev:Int):Ev :=
 ⟨1,⟨o.rg.key,o.value,if (livesS S o.rg.key rev).1.version=0 then rev else (livesS S o.rg.key rev).1.create,rev,(livesS S o.rg.key rev).1.version+1,o.lease⟩,(livesS S o.rg.key rev).1⟩
set_option maxHeartbeats 2000000 in
theorem znd {TA:zao} {N:Nat} (hT:TreeOk TA N) {n:Nat} (hn:n<=1099511627) (w:World) (s:Nat) (S:St) (F:Nat->Prop) (hS:zaj TA w s S F) (hok:StOk n S) (o:Opr) (rev:Int)
 (hv0:0<=(livesS S o.rg.key rev).1.version) (hv1:(livesS S o.rg.key rev).1.version<=top) :
 Calls Tryz.prog 87 #[.pointer (some ⟨s,0,none⟩),opV o,.int .i64 rev] w fun e w'=>e=.returned (evV (zbc S o rev))/\Fr No w w':=by
 have I:=fun W hW=>zgz hT hn W s S F hW hok o.rg.key rev;obtain ⟨J,⟨d,B,C,D,E,G,H⟩,j,k⟩:=o;have A:=H_ hS;have y:=H_ I;unfold zbc opV;dsimp only at *;rcases hr:livesS S d rev with ⟨⟨K,L,x,M,m,O⟩,rb⟩
 rw [hr] at hv0 hv1;unfold top at hv1;have z:=H_ hr;clear hS I hr hok;dsimp only at *;have P:m+1<=1099511627777:=by omega
 by_cases hz:m=0
 · subst hz
   go_enter Tryz.func87,Tryz.ntmps87
   go_wp2_with (go_at_call 66;refine (y.out _ ((A.out.fr0 hT ((Fr.refl No w).alloc _)).fr0 hT ((Fr.refl No _).alloc _))).mono ?_;rintro e w1 ⟨rfl,a⟩
                rw [z.out];unfold zct kvV;have f:Fr No w w1:=(((Fr.refl No w).alloc _).alloc _).trans0 a;have b:w1.heap[w.heap.size]?=some (.cells #[.int .i64 J,.string d,.string B,.int .i64 C,.int .i64 D,.bool E,.bool G,.bool H,.string j,.int .i64 k] 94 (0,0)):=a.heap (zai (zad _ _ _ rfl) _) id;have c:w1.heap[w.heap.size+1]?=some (.cells #[.int .i64 0,.string ByteArray.empty,.string ByteArray.empty,.int .i64 0,.int .i64 0,.int .i64 0,.int .i64 0,.string ByteArray.empty,.string ByteArray.empty,.int .i64 0,.int .i64 0,.int .i64 0,.int .i64 0] 101 (0,0)):=a.heap (zad _ _ _ (by simp)) id;have x1:w1.cell? ⟨w.heap.size,1,none⟩=some (.string d):=cellAt b 1 rfl;have x8:w1.cell? ⟨w.heap.size,8,none⟩=some (.string j):=cellAt b 8 rfl
                have x9:w1.cell? ⟨w.heap.size,9,none⟩=some (.int .i64 k):=cellAt b 9 rfl;obtain ⟨R,T,U,V,X,Y,k6,k7,k8,k9,t,u,v⟩:=cells13 c;have kf:∀ i,w1.frozen? ⟨w.heap.size+1,i,none⟩=false:=fun i=>by simp [World.frozen?,c]
                have q:w.heap.size<w1.heap.size:=zab b;have r:w.heap.size+1<w1.heap.size:=zab c)
   obtain ⟨Z,l,p,g⟩:=zpx (w:=w) c ⟨1,⟨d,j,rev,rev,1,k⟩,⟨K,L,x,M,0,O⟩⟩;dsimp only at l p;rw [l];exact bodyPost_ret (results_cell_row rfl _ _ (w.heap.size+1) 101 _ (0,0) _ rfl (zai (zai p _) _) Tryz.underlying101 rfl (by kernel_rfl)) rfl ⟨by first | rfl | (rw [if_neg hz];rfl),((g f (by omega)).alloc _).alloc _⟩
 have Q:(m==0)=false:=by simpa using hz
 go_enter Tryz.func87,Tryz.ntmps87
 go_wp2_with (go_at_call 66;refine (y.out _ ((A.out.fr0 hT ((Fr.refl No w).alloc _)).fr0 hT ((Fr.refl No _).alloc _))).mono ?_;rintro e w1 ⟨rfl,a⟩
              rw [z.out];unfold zct kvV;have f:Fr No w w1:=(((Fr.refl No w).alloc _).alloc _).trans0 a;have b:w1.heap[w.heap.size]?=some (.cells #[.int .i64 J,.string d,.string B,.int .i64 C,.int .i64 D,.bool E,.bool G,.bool H,.string j,.int .i64 k] 94 (0,0)):=a.heap (zai (zad _ _ _ rfl) _) id;have c:w1.heap[w.heap.size+1]?=some (.cells #[.int .i64 0,.string ByteArray.empty,.string ByteArray.empty,.int .i64 0,.int .i64 0,.int .i64 0,.int .i64 0,.string ByteArray.empty,.string ByteArray.empty,.int .i64 0,.int .i64 0,.int .i64 0,.int .i64 0] 101 (0,0)):=a.heap (zad _ _ _ (by simp)) id;have x1:w1.cell? ⟨w.heap.size,1,none⟩=some (.string d):=cellAt b 1 rfl;have x8:w1.cell? ⟨w.heap.size,8,none⟩=some (.string j):=cellAt b 8 rfl
              have x9:w1.cell? ⟨w.heap.size,9,none⟩=some (.int .i64 k):=cellAt b 9 rfl;obtain ⟨R,T,U,V,X,Y,k6,k7,k8,k9,t,u,v⟩:=cells13 c;have kf:∀ i,w1.frozen? ⟨w.heap.size+1,i,none⟩=false:=fun i=>by simp [World.frozen?,c]
              have q:w.heap.size<w1.heap.size:=zab b;have r:w.heap.size+1<w1.heap.size:=zab c)
 obtain ⟨Z,l,p,g⟩:=zpx (w:=w) c ⟨1,⟨d,j,x,rev,m+1,k⟩,⟨K,L,x,M,m,O⟩⟩;dsimp only at l p;rw [l];exact bodyPost_ret (results_cell_row rfl _ _ (w.heap.size+1) 101 _ (0,0) _ rfl (zai (zai p _) _) Tryz.underlying101 rfl (by kernel_rfl)) rfl ⟨by first | rfl | (rw [if_neg hz];rfl),((g f (by omega)).alloc _).alloc _⟩
def tombH (H:Hist) (rev:Int):Hist:={ H with gens:=tombK H.gens rev,last:=rev }
def tombS (S:St) (x:Kv):St :=
 if (getT S.T x.key).2 then { S with past:=fun i=>if i=(getT S.T x.key).1 then (S.past (getT S.T x.key).1).map (fun H=>tombH H x.mod) else S.past i } else S
def doneS (S:St) (x:Ev):St:=if x.kind=1 then putS S x.kv else tombS S x.kv
def doS (S:St) (x:Ev):St:={ doneS S x with events:=(doneS S x).events++[x] }
theorem info73:(Tryz.prog.info? 101).map (fun i=>(i.zero,i.size,i.bytes))=some (some (.agg #[.int .i64 0,.string ByteArray.empty,.string ByteArray.empty,.int .i64 0,.int .i64 0,.int .i64 0,.int .i64 0,.string ByteArray.empty,.string ByteArray.empty,.int .i64 0,.int .i64 0,.int .i64 0,.int .i64 0]),13,136):=by kernel_rfl
theorem zeb (S:St) (x:Ev):(doneS S x).events=S.events:=by
 unfold doneS putS tombS madeS;dsimp only
 split
 · split <;> rfl
 split <;> rfl
structure DoOk (N:Nat) (S:St) (x:Ev):Prop where
 m1:1<=x.kv.mod
 m2:x.kv.mod<=top
 last:∀ H,S.past (getT S.T x.kv.key).1=some H->(getT S.T x.kv.key).2=true->H.last<x.kv.mod
 room:x.kind=1->(getT S.T x.kv.key).2=false->S.T.length<N
 opened:x.kind≠1->∀ H,S.past (getT S.T x.kv.key).1=some H->(getT S.T x.kv.key).2=true->isOpen H.gens=true
set_option maxHeartbeats 4000000 in
theorem znw {TA:zao} {N:Nat} (hT:TreeOk TA N) {n:Nat} (hn:n<=1099511627) (w:World) (s:Nat) (S:St) (F:Nat->Prop) (hS:zaj TA w s S F) (hok:StOk n S) (x:Ev) (hx:DoOk N S x) :
 Calls Tryz.prog 68 #[.pointer (some ⟨s,0,none⟩),evV x] w fun e w'=>(∃ v,e=.returned v)/\∃ F',zaj TA w' s (doS S x) F'/\Fr F w w'/\(∀ b,F' b->F b\/w.heap.size<=b):=by
 have aC:(∃ v,kvV x.kv=v):=⟨_,rfl⟩;have HS:=H_ hS;have M:=H_ hx;have ab:=hS.lt hT;have ap:=H_ ab;unfold evV;clear hS hx ab aC;go_enter Tryz.func68,Tryz.ntmps68;go_upto_if 8 with fail
 go_cut [1] (fun _ wx=>Hid (wx.heap[w.heap.size]?=some (.cells #[.int .i64 x.kind,.string x.kv.key,.string x.kv.value,.int .i64 x.kv.create,.int .i64 x.kv.mod,.int .i64 x.kv.version,.int .i64 x.kv.lease,.string x.prev.key,.string x.prev.value,.int .i64 x.prev.create,.int .i64 x.prev.mod,.int .i64 x.prev.version,.int .i64 x.prev.lease] 101 (0,0)))/\∃ O,Hid (zaj TA wx s (doneS S x) O)/\Hid (Fr F w wx)/\Hid (∀ b,O b->F b\/w.heap.size<b))
 case first =>
  by_cases hk:x.kind=1
  · have az:(x.kind==1)=true:=by simpa using hk
    have U:=H_ hk;go_wp2_with (go_at_call 122;refine (zwi hT hn _ s S F (HS.out.fr0 hT ((Fr.refl No w).alloc _)) hok x.kv (M.out.room U.out) M.out.m1 M.out.m2 M.out.last).mono ?_;rintro e w1 ⟨⟨v,rfl⟩,O,aD,f,aA⟩);go_meet
    case rel =>
     have aB:¬ F w.heap.size:=fun h=>by have:=ap.out _ h;omega
     refine ⟨H_ (f.heap ?_ aB),O,H_ (by unfold doneS;rw [if_pos U.out];exact aD),H_ (((Fr.refl F w).alloc _).trans f fun _ _ h=>h),H_ fun b hb=>?_⟩
     · rw [U.out];exact zad _ _ _ rfl
     rcases aA b hb with h | h
     · exact .inl h
     simp at h;exact .inr (by omega)
  have az:(x.kind==1)=false:=by simpa using hk
  obtain ⟨t,p,ev,hp,FT,FH,a,hF⟩:=HS.out;have A:=H_ a;have d:=H_ hF;have C:=zad w (Obj.cells #[.int .i64 x.kind,.string x.kv.key,.string x.kv.value,.int .i64 x.kv.create,.int .i64 x.kv.mod,.int .i64 x.kv.version,.int .i64 x.kv.lease,.string x.prev.key,.string x.prev.value,.int .i64 x.prev.create,.int .i64 x.prev.mod,.int .i64 x.prev.version,.int .i64 x.prev.lease] 101) _ rfl;have D:Fr No w (w.alloc (Obj.cells #[.int .i64 x.kind,.string x.kv.key,.string x.kv.value,.int .i64 x.kv.create,.int .i64 x.kv.mod,.int .i64 x.kv.version,.int .i64 x.kv.lease,.string x.prev.key,.string x.prev.value,.int .i64 x.prev.create,.int .i64 x.prev.mod,.int .i64 x.prev.version,.int .i64 x.prev.lease] 101)):=(Fr.refl No w).alloc _;clear a hF;go_wp2_with fail
  generalize w.alloc (Obj.cells #[.int .i64 x.kind,.string x.kv.key,.string x.kv.value,.int .i64 x.kv.create,.int .i64 x.kv.mod,.int .i64 x.kv.version,.int .i64 x.kv.lease,.string x.prev.key,.string x.prev.value,.int .i64 x.prev.create,.int .i64 x.prev.mod,.int .i64 x.prev.version,.int .i64 x.prev.lease] 101)=W0 at C D ⊢
  have c0:=A.out.obj.cell 0 rfl;have e0:=D.cell0 c0;have k0:W0.cell? ⟨w.heap.size,1,none⟩=some (.string x.kv.key):=cellAt C 1 rfl;have ls:=A.out.obj.lt;have lb:=zab C
  go_region_held (fun W=>W.cell? ⟨s,0,none⟩=some (.pointer (some ⟨t,0,none⟩))/\W.cell? ⟨w.heap.size,1,none⟩=some (.string x.kv.key))
   (first | exact ⟨e0,k0⟩ | exact ⟨f.cell0 e0,f.cell0 k0⟩)
   (first | (go_at_call 121;refine (hT.get x.kv.key (hT.fr A.out.tree D.drew (fun _ _ s=>s))).mono ?_;rintro e w1 ⟨rfl,f⟩;unfold zdb))
  have L:Fr No w w1:=D.drew.trans0 f;have J:=f.heap (b:=w.heap.size) C id;have c:=A.out.fr hT L fun _ _ s=>s;have bg:=L.size;clear f e0 k0 c0 D C;cases hg:(getT S.T x.kv.key).2
  · go_wp2_with fail
    go_meet
    case rel=>exact ⟨H_ J,F,H_ (by unfold doneS tombS;rw [if_neg hk,hg];exact ⟨t,p,ev,hp,FT,FH,c,d.out⟩),H_ (L.mono fun _ _ s=>s.elim),H_ fun b h=>.inl h⟩
  have aa:∃ H,S.past (getT S.T x.kv.key).1=some H:=by
   revert hg
   unfold getT
   cases hf:S.T.find? (fun q=>keq q.1 x.kv.key) with
   | none=>intro h;cases h
   | some q=>intro _;exact hok.id q (List.mem_of_find?_eq_some hf)
  obtain ⟨H,Y⟩:=aa;obtain ⟨h,hh,g,m,z,b,B⟩:=c.hist _ _ Y;have aS:=hok.ids _ _ Y;have b9:=hok.next;have aj:(Lit.int .i64 (getT S.T x.kv.key).1).wf=true:=wf64 (by omega) (by omega);have ag:=MapAt.look (P:=Tryz.prog) (t:=105) c.map Tryz.underlying105 Tryz.underlying3 aj (zero142 _);have af:((hp (getT S.T x.kv.key).1).map fun h=>Value.pointer (some ⟨h,0,none⟩)).getD (.pointer none)=.pointer (some ⟨h,0,none⟩):=(by rw [hh];rfl);have c1:=c.obj.cell 1 rfl;have h0:=b.obj.cell 0 rfl;have k4:w1.cell? ⟨w.heap.size,4,none⟩=some (.int .i64 x.kv.mod):=cellAt J 4 rfl;have aW:w.heap.size<w1.heap.size:=zab J;have aI:¬ z s:=fun e=>c.ds.2.2 _ ((B _).2 (.inr (.inr e)));have aH:¬ z p:=fun e=>c.dp.2.2 _ ((B _).2 (.inr (.inr e)))
  have ak:¬ z w.heap.size:=fun e=>by
   have:=A.out.lt hT _ (.inr (.inr (.inr (.inr ⟨_,(B _).2 (.inr (.inr e))⟩))));omega
  have lh:=b.obj.lt;have bi:=c.obj.lt
  have a4:∀ W,Fr z w1 W->W.cell? ⟨s,1,none⟩=some (.map (some p))/\(Instr.lookup 105 (.map (some p)) (.int .i64 (getT S.T x.kv.key).1) false).run Tryz.prog W=.ok (.pointer (some ⟨h,0,none⟩)) W ∧
   W.cell? ⟨h,0,none⟩=some (.pointer (some ⟨g,0,none⟩))/\W.cell? ⟨w.heap.size,4,none⟩=some (.int .i64 x.kv.mod):=by
   intro W hW;refine ⟨hW.cell c1 aI,?_,hW.cell h0 b.d1,hW.cell k4 ak⟩;have:=MapAt.look (P:=Tryz.prog) (t:=105) (c.map.fr hW aH) Tryz.underlying105 Tryz.underlying3 aj (zero142 _);rw [af] at this;exact this
  have H1:=H_ a4;have au:=H_ c;have Q:=H_ b;have R:=H_ B;have a3:=H_ (hok.hist _ _ Y);clear a4 c b B ag af;go_wp2_with fail
  go_region_held (fun W=>W.cell? ⟨s,1,none⟩=some (.map (some p))/\(Instr.lookup 105 (.map (some p)) (.int .i64 (getT S.T x.kv.key).1) false).run Tryz.prog W=.ok (.pointer (some ⟨h,0,none⟩)) W ∧
   W.cell? ⟨h,0,none⟩=some (.pointer (some ⟨g,0,none⟩))/\W.cell? ⟨w.heap.size,4,none⟩=some (.int .i64 x.kv.mod))
   (first | exact H1.out _ (Fr.refl z w1).drew | exact H1.out _ ((Fr.refl z w1).drew.trans j fun _ _ h=>h))
   (first | (go_at_call 123;refine (zlj _ g H.gens H.last x.kv.mod z (Q.out.key.fr (Fr.refl No w1).drew (fun _ _ s=>s)) (a3.out.1.fits hn) (M.out.opened hk H Y hg) M.out.m1 M.out.m2 (M.out.last H Y hg)).mono ?_;rintro e Z ⟨rfl,ay,j⟩))
  go_wp2_with fail;go_meet
  case rel =>
   have r:Fr z w1 Z:=(Fr.refl z w1).drew.trans j fun _ _ h=>h;have a8:Fr (FH (getT S.T x.kv.key).1) w1 Z:=r.mono fun b _ e=>(R.out b).2 (.inr (.inr e))
   have X:HistAt Z h (tombH H x.kv.mod) (fun b=>b=h\/b=m\/z b) :=
    ⟨g,m,z,⟨Q.out.obj.fr r Q.out.d1,ay,Q.out.map.fr r Q.out.d2,Q.out.d1,Q.out.d2⟩,fun _=>Iff.rfl⟩
   have E:=au.out.setHist hT hh a8 X fun b hb=>.inl ((R.out b).2 hb)
   have aw:doneS S x = { S with past:=fun i=>if i=(getT S.T x.kv.key).1 then some (tombH H x.kv.mod) else S.past i }:=by
    unfold doneS tombS;rw [if_neg hk,hg,Y]
    rfl
   have ai:∀ b,storeF s p ev FT (fun i=>if i=(getT S.T x.kv.key).1 then (fun b=>b=h\/b=m\/z b) else FH i) b->F b:=by
    rintro b (e | e | e | e | ⟨i,e⟩)
    · exact (d.out b).2 (.inl e)
    · exact (d.out b).2 (.inr (.inl e))
    · exact (d.out b).2 (.inr (.inr (.inl e)))
    · exact (d.out b).2 (.inr (.inr (.inr (.inl e))))
    by_cases hi:i=(getT S.T x.kv.key).1
    · rw [if_pos hi] at e
      exact (d.out b).2 (.inr (.inr (.inr (.inr ⟨_,(R.out b).2 e⟩))))
    rw [if_neg hi] at e
    exact (d.out b).2 (.inr (.inr (.inr (.inr ⟨i,e⟩))))
   exact ⟨H_ (r.heap J ak),_,H_ (by rw [aw];exact ⟨t,p,ev,hp,FT,_,E,fun _=>Iff.rfl⟩),
    H_ ((L.mono fun _ _ s=>s.elim).trans a8 fun b _ e=>(d.out b).2 (.inr (.inr (.inr (.inr ⟨_,e⟩))))),H_ fun b hb=>.inl (ai b hb)⟩
 case rest =>
  obtain ⟨l,O,aq,HF,HN⟩:=hcut;obtain ⟨t,p,ev,hp,FT,FH,a,a5⟩:=aq.out;obtain ⟨ea,o,rfl,b4,b5,b7⟩:=a.events.shape;have A:=H_ a;have y:=H_ a5;have c5:=a.obj.cell 5 rfl;have f5:=a.obj.free 5;have ls:=a.obj.lt;have lb:=zab l.out;have k0:wc.cell? ⟨w.heap.size,0,none⟩=some (.int .i64 x.kind):=(by simp [World.cell?,l.out]);have k1:wc.cell? ⟨w.heap.size,1,none⟩=some (.string x.kv.key):=(by simp [World.cell?,l.out]);have k2:wc.cell? ⟨w.heap.size,2,none⟩=some (.string x.kv.value):=(by simp [World.cell?,l.out]);have k3:wc.cell? ⟨w.heap.size,3,none⟩=some (.int .i64 x.kv.create):=(by simp [World.cell?,l.out]);have k4:wc.cell? ⟨w.heap.size,4,none⟩=some (.int .i64 x.kv.mod):=(by simp [World.cell?,l.out])
  have k5:wc.cell? ⟨w.heap.size,5,none⟩=some (.int .i64 x.kv.version):=(by simp [World.cell?,l.out]);have k6:wc.cell? ⟨w.heap.size,6,none⟩=some (.int .i64 x.kv.lease):=(by simp [World.cell?,l.out]);have k7:wc.cell? ⟨w.heap.size,7,none⟩=some (.string x.prev.key):=(by simp [World.cell?,l.out]);have k8:wc.cell? ⟨w.heap.size,8,none⟩=some (.string x.prev.value):=(by simp [World.cell?,l.out]);have k9:wc.cell? ⟨w.heap.size,9,none⟩=some (.int .i64 x.prev.create):=(by simp [World.cell?,l.out]);have bd:wc.cell? ⟨w.heap.size,10,none⟩=some (.int .i64 x.prev.mod):=(by simp [World.cell?,l.out]);have be:wc.cell? ⟨w.heap.size,11,none⟩=some (.int .i64 x.prev.version):=(by simp [World.cell?,l.out]);have bf:wc.cell? ⟨w.heap.size,12,none⟩=some (.int .i64 x.prev.lease):=(by simp [World.cell?,l.out]);clear a a5
  go_wp2_with fail;obtain ⟨i0,ax,aE,aF,aG⟩:=info_parts info73;have ad:=zbb wc.drew [.int .i64 x.kind,.string x.kv.key,.string x.kv.value,.int .i64 x.kv.create,.int .i64 x.kv.mod,.int .i64 x.kv.version,.int .i64 x.kv.lease,.string x.prev.key,.string x.prev.value,.int .i64 x.prev.create,.int .i64 x.prev.mod,.int .i64 x.prev.version,.int .i64 x.prev.lease] 101 (0,0);have b8:(doneS S x).events.length<=1099511627:=(by rw [zeb];exact Nat.le_trans hok.ev hn);have K:(Value.slice ea (doneS S x).events.length o).ownBlock≠some s:=A.out.ds.2.1;have aQ:=A.out.events.lt
  go_region_law (refine zck rfl _ _ 28 rfl 101 i0 _ 13 136 Tryz.underlying28 ax aE aF aG rfl (by decide) _ (doneS S x).events rfl (A.out.events.fr0 ((Fr.refl No wc).drew.alloc _)) wc.heap.size 1 x rfl ad rfl (by intro u hu;simp [evC,kvC] at hu;rcases hu with rfl | rfl | rfl | rfl | rfl | rfl | rfl | rfl | rfl | rfl | rfl | rfl | rfl <;> rfl) (by unfold maxLen;omega) (by omega) ?_;intro I o' cap Z ah a9 a6 aT;have j:Fr (fun k=>(Value.slice ea (doneS S x).events.length o).ownBlock=some k) wc Z:=((Fr.refl _ wc).drew.alloc _).grown a9 (fun k hk=>.inl hk);have e5:=j.cell c5 K;have ef:=j.free c5 f5 K;have ar:=H_ ah;have ao:=H_ a6;have a2:=H_ j;clear ah a9 a6 j)
  all_goals
   go_wp2;refine bodyPost_end (results_none rfl _ _ _) rfl ?_
   have V:I≠s/\((Value.slice ea (doneS S x).events.length o).ownBlock=some I\/wc.heap.size<=I):=by
    rcases ao.out with h | h
    · exact ⟨fun e=>K (e▸h),.inl h⟩
    have h':I=wc.heap.size+1:=by simpa using h
    exact ⟨by omega,.inr (by omega)⟩
   have a7:Fr (fun b=>b=s\/(Value.slice ea (doneS S x).events.length o).ownBlock=some b) wc (Z.setCell ⟨s,5,none⟩ (.slice (some ⟨I,o',none⟩) ((doneS S x).events.length+1) cap)) :=
    (a2.out.mono fun _ _ h=>.inr h).setCell (p:=⟨s,5,none⟩) (.inl (.inl rfl)) _
   have ho:=(A.out.obj.fr a2.out K).set 5 (.slice (some ⟨I,o',none⟩) ((doneS S x).events.length+1) cap);have he:=ar.out.other ⟨s,5,none⟩ (.slice (some ⟨I,o',none⟩) ((doneS S x).events.length+1) cap) (by simp [Value.ownBlock];exact V.1)
   have E:=A.out.setEvents hT a7 ho he (fun b hb=>by
    obtain rfl:I=b:=by simpa [Value.ownBlock] using hb
    exact V.2)
   have bb:=HF.out.size;refine ⟨⟨_,rfl⟩,_,⟨t,p,_,hp,FT,FH,E,fun _=>Iff.rfl⟩,?_,?_⟩
   · refine HF.out.trans a7 fun b hb e=>?_
     have h1:O b:=(y.out b).2 (by
      rcases e with e | e
      · exact .inl e
      exact .inr (.inr (.inr (.inl e))))
     rcases HN.out b h1 with h | h
     · exact h
     omega
   have G:∀ b,O b->F b\/w.heap.size<=b:=fun b hb=>by
    rcases HN.out b hb with h | h
    · exact .inl h
    exact .inr (by omega)
   rintro b (e | e | e | e | e)
   · exact G b ((y.out b).2 (.inl e))
   · exact G b ((y.out b).2 (.inr (.inl e)))
   · exact G b ((y.out b).2 (.inr (.inr (.inl e))))
   · obtain rfl:I=b:=by simpa [Value.ownBlock] using e
     rcases V.2 with h | h
     · exact G _ ((y.out _).2 (.inr (.inr (.inr (.inl h)))))
     exact .inr (by omega)
   exact G b ((y.out b).2 (.inr (.inr (.inr (.inr e)))))
def putAt:List Value->Nat->List Value->List Value
 | cs,_,[]=>cs
 | cs,o,x :: xs=>putAt (cs.set o x) (o+1) xs
theorem zin:∀ (xs:List Value) (cs:List Value) (o:Nat),(putAt cs o xs).length=cs.length
 | [],_,_=>rfl
 | x :: xs,cs,o=>by unfold putAt;rw [zin xs,List.length_set]
theorem zio:∀ (xs ys:List Value) (cs:List Value) (o:Nat),putAt cs o (xs++ys)=putAt (putAt cs o xs) (o+xs.length) ys
 | [],ys,cs,o=>rfl
 | x :: xs,ys,cs,o=>by
   show putAt (cs.set o x) (o+1) (xs++ys)=_
   rw [zio xs ys];unfold putAt;rw [List.length_cons,show o+1+xs.length=o+(xs.length+1) by omega];cases ys <;> rfl
theorem zne:∀ (xs:List Value) (cs:List Value) (o j:Nat),j<o->(putAt cs o xs)[j]?=cs[j]?
 | [],_,_,_,_=>rfl
 | x :: xs,cs,o,j,h=>by unfold putAt;rw [zne xs _ _ _ (by omega),List.getElem?_set_ne (by omega)]
theorem zjg:∀ (xs:List Value) (cs:List Value) (o j:Nat),o+xs.length<=j->(putAt cs o xs)[j]?=cs[j]?
 | [],_,_,_,_=>rfl
 | x :: xs,cs,o,j,h=>by rw [List.length_cons] at h;unfold putAt;rw [zjg xs _ _ _ (by omega),List.getElem?_set_ne (by omega)]
theorem zsu:∀ (xs:List Value) (cs:List Value) (o j:Nat),o+xs.length<=cs.length->j<xs.length->(putAt cs o xs)[o+j]?=xs[j]?
 | [],_,_,_,_,h=>by simp at h
 | x :: xs,cs,o,0,h,_=>by
   unfold putAt;rw [zne xs _ _ _ (by omega)];rw [List.length_cons] at h;rw [Nat.add_zero,List.getElem?_set_self (by omega)]
   rfl
 | x :: xs,cs,o,j+1,h,hj=>by
   rw [List.length_cons] at h hj;unfold putAt;rw [show o+(j+1)=o+1+j by omega,zsu xs _ _ _ (by rw [List.length_set];omega) (by omega)];simp
structure Cod (σ:Type) where
 c:Nat
 nf:FuncId
 tf:FuncId
 nc:Array Value
 tc:Array Value
 num:σ->Int->σ×Int
 txt:σ->ByteArray->σ×ByteArray
 bad:σ->Bool
 small:σ->Prop
 At:World->σ->(Nat->Prop)->Prop
structure CodOk {σ:Type} (C:Cod σ):Prop where
 enf:∀ args w,(callFunc C.nf args).run Tryz.prog w=.ok (.enter C.nf args) w
 etf:∀ args w,(callFunc C.tf args).run Tryz.prog w=.ok (.enter C.tf args) w
 cell:∀ w s F,C.At w s F->Has w C.c [.func (.func C.nf) #[] C.nc,.func (.func C.tf) #[] C.tc,.bool (C.bad s)]
 lt:∀ w s F,C.At w s F->∀ b,F b->b<w.heap.size
 inF:∀ w s F,C.At w s F->F C.c
 fr:∀ w w' s F S,C.At w s F->Fr S w w'->(∀ b,S b->¬ F b)->C.At w' s F
 snum:∀ s n,C.small (C.num s n).1->C.small s
 stxt:∀ s t,C.small (C.txt s t).1->C.small s
 num:∀ w s F (g:Nat) e cs i n,C.At w s F->w.heap[g]?=some (.cells (List.toArray cs) e (0,0))->cs[i]?=some (.int .i64 n)->¬ F g->C.small (C.num s n).1 →
  Calls Tryz.prog C.nf (#[.pointer (some ⟨g,i,none⟩)]++C.nc) w fun en w'=>en=.returned (.tuple #[])/\∃ F',C.At w' (C.num s n).1 F'/\w'.heap[g]?=some (.cells (cs.set i (.int .i64 (C.num s n).2)).toArray e (0,0)) ∧
   Fr (fun b=>F b\/b=g) w w'/\(∀ b,F' b->F b\/w.heap.size<=b)
 txt:∀ w s F (g:Nat) e cs i t,C.At w s F->w.heap[g]?=some (.cells (List.toArray cs) e (0,0))->cs[i]?=some (.string t)->¬ F g->C.small (C.txt s t).1 →
  Calls Tryz.prog C.tf (#[.pointer (some ⟨g,i,none⟩)]++C.tc) w fun en w'=>en=.returned (.tuple #[])/\∃ F',C.At w' (C.txt s t).1 F'/\w'.heap[g]?=some (.cells (cs.set i (.string (C.txt s t).2)).toArray e (0,0)) ∧
   Fr (fun b=>F b\/b=g) w w'/\(∀ b,F' b->F b\/w.heap.size<=b)
section
variable {σ:Type} (C:Cod σ)
def numsS:σ->List Int->σ×List Int
 | s,[]=>(s,[])
 | s,n :: ns=>((numsS (C.num s n).1 ns).1,(C.num s n).2 :: (numsS (C.num s n).1 ns).2)
def kvS (s:σ) (x:Kv):σ×Kv :=
 let k:=C.txt s x.key
 let v:=C.txt k.1 x.value
 let a:=C.num v.1 x.create
 let b:=C.num a.1 x.mod
 let c:=C.num b.1 x.version
 let d:=C.num c.1 x.lease
 (d.1,⟨k.2,v.2,a.2,b.2,c.2,d.2⟩)
def evS (s:σ) (x:Ev):σ×Ev :=
 let k:=C.num s x.kind
 let a:=kvS C k.1 x.kv
 let b:=kvS C a.1 x.prev
 (b.1,⟨k.2,a.2,b.2⟩)
theorem zkg {C:Cod σ} (K:CodOk C):∀ (ns:List Int) (s:σ),C.small (numsS C s ns).1->C.small s
 | [],_,h=>h
 | n :: ns,s,h=>K.snum s n (zkg K ns _ h)
theorem zdr {C:Cod σ} (K:CodOk C) (s:σ) (x:Kv) (h:C.small (kvS C s x).1):C.small s :=
 K.stxt _ _ (K.stxt _ _ (K.snum _ _ (K.snum _ _ (K.snum _ _ (K.snum _ _ h)))))
theorem zla {C:Cod σ} (K:CodOk C) (s:σ) (x:Ev) (h:C.small (evS C s x).1):C.small s :=
 K.snum _ _ (zdr K _ _ (zdr K _ _ h))
end
theorem zip {σ:Type} (C:Cod σ):∀ (ns:List Int) (s:σ),(numsS C s ns).2.length=ns.length
 | [],_=>rfl
 | n :: ns,s=>by unfold numsS;simp [zip C ns]
theorem zdx {σ:Type} (C:Cod σ):∀ (a b:List Int) (s:σ),numsS C s (a++b)=((numsS C (numsS C s a).1 b).1,(numsS C s a).2++(numsS C (numsS C s a).1 b).2)
 | [],_,_=>rfl
 | n :: a,b,s=>by simp [numsS,zdx C a b]
def ptrC (g i n:Nat):List Value:=(List.range n).map fun j=>.pointer (some ⟨g,i+j,none⟩)
set_option maxHeartbeats 4000000 in
theorem zhp {σ:Type} {C:Cod σ} (K:CodOk C) (w:World) (s:σ) (F:Nat->Prop) (g:Nat) (e:TypeId) (cs:List Value) (i:Nat) (ns:List Int) (pb:Nat) (e2:TypeId) (hA:C.At w s F) (hg:w.heap[g]?=some (.cells cs.toArray e (0,0)))
 (hc:∀ j n,ns[j]?=some n->cs[i+j]?=some (.int .i64 n)) (nF:¬ F g) (hsm:C.small (numsS C s ns).1) (hl:ns.length<=100) (hp:w.heap[pb]?=some (.cells (ptrC g i ns.length).toArray e2 (0,0))) (npF:¬ F pb) (npg:pb≠g) :
 Calls Tryz.prog 139 #[.pointer (some ⟨C.c,0,none⟩),.slice (some ⟨pb,0,none⟩) ns.length ns.length] w fun en w'=>en=.returned (.tuple #[])/\∃ F',C.At w' (numsS C s ns).1 F'/\w'.heap[g]?=some (.cells (putAt cs i (ints (numsS C s ns).2)).toArray e (0,0)) ∧
  Fr (fun b=>F b\/b=g) w w'/\(∀ b,F' b->F b\/w.heap.size<=b):=by
 have Q:=K.enf;have M:=H_ hA;have O:=H_ hg;have P:=H_ hp;have N:=H_ hc;have X:=zab hg;have Z:=zab hp;clear hA hg hp hc;go_enter Tryz.func139,Tryz.ntmps139;go_wp2
 go_loopg [8] ns.length (fun gg s8 wr=>∃ (k:Nat) (r:Nat->Prop),s8=.int .i64 k/\k+gg=ns.length/\Hid (C.At wr (numsS C s (ns.take k)).1 r)/\Hid (wr.heap[g]?=some (.cells (putAt cs i (ints (numsS C s (ns.take k)).2)).toArray e (0,0))) ∧
  Hid (Fr (fun b=>F b\/b=g) w wr)/\Hid (∀ b,r b->F b\/w.heap.size<=b))
 case atStart=>exact ⟨0,F,rfl,by simp,M,O,H_ (Fr.refl _ w),H_ fun b h=>.inl h⟩
 case round =>
  obtain ⟨k,r,rfl,hk,z,D,A,B⟩:=hrel
  cases gk with
  | zero =>
    have Y:¬ (k:Int)<(ns.length:Int):=(by omega);go_wp2;refine bodyPost_end (results_none rfl _ _ _) rfl ?_;have G:ns.take k=ns:=List.take_of_length_le (by omega);rw [G] at z D;exact ⟨rfl,r,z.out,D.out,A.out,B.out⟩
  | succ q =>
    obtain ⟨n,I⟩:∃ n,ns[k]?=some n:=⟨_,List.getElem?_eq_getElem (by omega)⟩;have p:ns.take (k+1)=ns.take k++[n]:=(by rw [List.take_add_one,I];rfl);have o:(numsS C s (ns.take (k+1))).1=(C.num (numsS C s (ns.take k)).1 n).1:=(by rw [p,zdx];rfl);have y:(numsS C s (ns.take (k+1))).2=(numsS C s (ns.take k)).2++[(C.num (numsS C s (ns.take k)).1 n).2]:=(by rw [p,zdx];rfl)
    have f:C.small (C.num (numsS C s (ns.take k)).1 n).1:=by
     rw [<-o];have:=zdx C (ns.take (k+1)) (ns.drop (k+1)) s;rw [List.take_append_drop] at this;rw [this] at hsm;exact zkg K _ _ hsm
    have x:(ints (numsS C s (ns.take k)).2).length=k:=(by unfold ints;rw [List.length_map,zip,List.length_take];omega);have v:(putAt cs i (ints (numsS C s (ns.take k)).2))[i+k]?=some (.int .i64 n):=(by rw [zjg _ _ _ _ (by omega)];exact N.out k n I)
    have a:putAt cs i (ints (numsS C s (ns.take (k+1))).2)=(putAt cs i (ints (numsS C s (ns.take k)).2)).set (i+k) (.int .i64 (C.num (numsS C s (ns.take k)).1 n).2):=by
     rw [y];unfold ints;rw [List.map_append,zio];have:(List.map (Value.int .i64) (numsS C s (ns.take k)).2).length=k:=x;rw [this]
     rfl
    have m:=A.out.heap P.out (fun h=>by rcases h with h | h;exact npF h;exact npg h)
    have pk:wr.cell? ⟨pb,k,none⟩=some (.pointer (some ⟨g,i+k,none⟩)):=by
     have R:(ptrC g i ns.length)[k]?=some (.pointer (some ⟨g,i+k,none⟩)):=by
      unfold ptrC;rw [List.getElem?_map,List.getElem?_range (by omega)]
      rfl
     simp [World.cell?,m,R]
    have l:=K.cell _ _ _ z.out;have c0:=l.cell 0 rfl;have W:=l.lt;have J:=zab m
    have H:¬ r g:=fun h=>by
     rcases B.out g h with h | h
     · exact nF h
     omega
    have d:=K.num wr _ r g e _ (i+k) n z.out D.out v H f;have u:=H_ d;have E:=H_ o;have t:=H_ a;clear d o a v m l p y f;go_wp2_with (go_at_fn C.nf;refine u.out.mono ?_;rintro en w2 ⟨rfl,L,S,T,U,V⟩);go_roundg q
    case rel =>
     refine ⟨k+1,L,rfl,by omega,H_ (by rw [E.out];exact S),H_ (by rw [t.out];exact T),H_ (A.out.trans U fun b hb h=>?_),H_ fun b hb=>?_⟩
     · rcases h with h | h
       · rcases B.out b h with h | h
         · exact .inl h
         omega
       exact .inr h
     have:=A.out.size
     rcases V b hb with h | h
     · exact B.out b h
     exact .inr (by omega)
    case measure=>omega
end Go.Proofs.YthljnnjpmdgkoaaGreat