/- Own lemmas. -/
import Derived.Test.YthljnnjpmdgkoaaGreatK14
import Derived.Test.YthljnnjpmdgkoaaGreatK00
import Derived.Test.YthljnnjpmdgkoaaGreatK06
import Derived.BigQuiet
namespace Go.Proofs.YthljnnjpmdgkoaaGreat
open Go Go.Proofs Go.RowKit
set_option maxRecDepth 100000
structure Rg where
 key:ByteArray
 end_:ByteArray
 rev:Int
 limit:Int
 keys:Bool
 count:Bool
 desc:Bool
def rgV (g:Rg):Value:=.agg #[.string g.key,.string g.end_,.int .i64 g.rev,.int .i64 g.limit,.bool g.keys,.bool g.count,.bool g.desc]
def rgC (g:Rg):List Value:=[.string g.key,.string g.end_,.int .i64 g.rev,.int .i64 g.limit,.bool g.keys,.bool g.count,.bool g.desc]
structure Opr where
 kind:Int
 rg:Rg
 value:ByteArray
 lease:Int
def opV (o:Opr):Value:=.agg #[.int .i64 o.kind,.string o.rg.key,.string o.rg.end_,.int .i64 o.rg.rev,.int .i64 o.rg.limit,.bool o.rg.keys,.bool o.rg.count,.bool o.rg.desc,.string o.value,.int .i64 o.lease]
def opC (o:Opr):List Value:=.int .i64 o.kind :: (rgC o.rg++[.string o.value,.int .i64 o.lease])
theorem zaf (o:Opr):(opC o).length=10:=rfl
def askE (g:Rg):Int:=if keyE g.key≠0 then keyE g.key else if 64<g.end_.size then 31 else if g.rev<0\/g.limit<0 then 1 else 0
theorem zgf (w:World) (g:Rg) (hs:g.key.size<=1099511627776):Calls Tryz.prog 97 #[rgV g] w fun e w'=>e=.returned (.int .i64 (askE g))/\Fr No w w':=by
 have i:=fun W=>zkc W g.key hs;obtain ⟨j,c,d,f,n,m,l⟩:=g;unfold askE rgV;dsimp only at *;generalize keyE j=k at *;clear hs;by_cases h1:k≠0
 · have q:(k==0)=false:=by simpa using h1
   rw [if_pos h1];go_enter Tryz.func97,Tryz.ntmps97;go_wp2_with (go_at_call 65;refine (i _).mono ?_;rintro e w1 ⟨rfl,a⟩);go_ret;exact ⟨rfl,((Fr.refl No w).alloc _).trans0 a⟩
 have q:(k==0)=true:=by simpa using h1
 rw [if_neg h1];by_cases h2:64<c.size
 · have p:(64:Int)<(c.size:Int):=by omega
   rw [if_pos h2];go_enter Tryz.func97,Tryz.ntmps97
   go_wp2_with (go_at_call 65;refine (i _).mono ?_;rintro e w1 ⟨rfl,a⟩
                have b:w1.heap[w.heap.size]?=some (.cells #[.string j,.string c,.int .i64 d,.int .i64 f,.bool n,.bool m,.bool l] 35 (0,0)):=a.heap (zad _ _ _ rfl) id;have o:w1.cell? ⟨w.heap.size,1,none⟩=some (.string c):=cellAt b 1 rfl)
   go_ret;exact ⟨rfl,((Fr.refl No w).alloc _).trans0 a⟩
 have p:¬ (64:Int)<(c.size:Int):=by omega
 rw [if_neg h2];by_cases h3:d<0
 · have u:¬ 0<=d:=by omega
   rw [if_pos (.inl h3)];go_enter Tryz.func97,Tryz.ntmps97
   go_wp2_with (go_at_call 65;refine (i _).mono ?_;rintro e w1 ⟨rfl,a⟩
                have b:w1.heap[w.heap.size]?=some (.cells #[.string j,.string c,.int .i64 d,.int .i64 f,.bool n,.bool m,.bool l] 35 (0,0)):=a.heap (zad _ _ _ rfl) id;have o:w1.cell? ⟨w.heap.size,1,none⟩=some (.string c):=cellAt b 1 rfl;have r:w1.cell? ⟨w.heap.size,2,none⟩=some (.int .i64 d):=cellAt b 2 rfl)
   go_ret;exact ⟨rfl,((Fr.refl No w).alloc _).trans0 a⟩
 by_cases h4:f<0
 · have s:¬ 0<=f:=by omega
   rw [if_pos (.inr h4)];go_enter Tryz.func97,Tryz.ntmps97
   go_wp2_with (go_at_call 65;refine (i _).mono ?_;rintro e w1 ⟨rfl,a⟩
                have b:w1.heap[w.heap.size]?=some (.cells #[.string j,.string c,.int .i64 d,.int .i64 f,.bool n,.bool m,.bool l] 35 (0,0)):=a.heap (zad _ _ _ rfl) id;have o:w1.cell? ⟨w.heap.size,1,none⟩=some (.string c):=cellAt b 1 rfl;have r:w1.cell? ⟨w.heap.size,2,none⟩=some (.int .i64 d):=cellAt b 2 rfl;have t:w1.cell? ⟨w.heap.size,3,none⟩=some (.int .i64 f):=cellAt b 3 rfl)
   go_ret;exact ⟨rfl,((Fr.refl No w).alloc _).trans0 a⟩
 rw [if_neg (by omega)]
 go_enter Tryz.func97,Tryz.ntmps97
 go_wp2_with (go_at_call 65;refine (i _).mono ?_;rintro e w1 ⟨rfl,a⟩
              have b:w1.heap[w.heap.size]?=some (.cells #[.string j,.string c,.int .i64 d,.int .i64 f,.bool n,.bool m,.bool l] 35 (0,0)):=a.heap (zad _ _ _ rfl) id;have o:w1.cell? ⟨w.heap.size,1,none⟩=some (.string c):=cellAt b 1 rfl;have r:w1.cell? ⟨w.heap.size,2,none⟩=some (.int .i64 d):=cellAt b 2 rfl;have t:w1.cell? ⟨w.heap.size,3,none⟩=some (.int .i64 f):=cellAt b 3 rfl)
 go_ret;exact ⟨rfl,((Fr.refl No w).alloc _).trans0 a⟩
def oneE (o:Opr):Int :=
 if o.kind=3 then askE o.rg else if o.kind=2 then askE ⟨o.rg.key,o.rg.end_,0,0,false,false,false⟩
 else if o.kind=1 then (if keyE o.rg.key≠0 then keyE o.rg.key else if 1024<o.value.size then 31 else if 0<=o.lease then 0 else 1) else 1
theorem zuw (w:World) (o:Opr) (hs:o.rg.key.size<=1099511627776):Calls Tryz.prog 127 #[opV o] w fun e w'=>e=.returned (.int .i64 (oneE o))/\Fr No w w':=by
 have y:=fun W=>zkc W o.rg.key hs;have A:=fun W=>zgf W o.rg hs;have d:=fun W=>zgf W ⟨o.rg.key,o.rg.end_,0,0,false,false,false⟩ hs;obtain ⟨g,⟨m,r,u,s,x,v,p⟩,f,i⟩:=o;unfold oneE opV;unfold rgV at *;dsimp only at *;generalize keyE m=k at *;generalize askE _=a at *;generalize askE _=b at *;have n:=H_ y;have D:=H_ A;have E:=H_ d;clear hs y A d;by_cases h1:g=3
 · have l:(g==3)=true:=by simpa using h1
   rw [if_pos h1];go_enter Tryz.func127,Tryz.ntmps127;go_wp2_with (go_at_call 97;refine (D.out _).mono ?_;rintro e w1 ⟨rfl,c⟩);go_ret;exact ⟨rfl,((Fr.refl No w).alloc _).trans0 c⟩
 have l:(g==3)=false:=by simpa using h1
 rw [if_neg h1];by_cases h2:g=2
 · have j:(g==2)=true:=by simpa using h2
   rw [if_pos h2];go_enter Tryz.func127,Tryz.ntmps127;go_wp2_with (go_at_call 97;refine (E.out _).mono ?_;rintro e w1 ⟨rfl,c⟩);go_ret;exact ⟨rfl,((Fr.refl No w).alloc _).trans0 c⟩
 have j:(g==2)=false:=by simpa using h2
 rw [if_neg h2];by_cases h3:g=1
 · rw [if_pos h3]
   subst h3;clear h1 h2 l j;by_cases h4:k≠0
   · have q:(k==0)=false:=by simpa using h4
     rw [if_pos h4];go_enter Tryz.func127,Tryz.ntmps127;go_wp2_with (go_at_call 65;refine (n.out _).mono ?_;rintro e w1 ⟨rfl,c⟩);go_ret;exact ⟨rfl,((Fr.refl No w).alloc _).trans0 c⟩
   have q:(k==0)=true:=by simpa using h4
   rw [if_neg h4];by_cases h5:1024<f.size
   · have t:(1024:Int)<(f.size:Int):=by omega
     rw [if_pos h5];go_enter Tryz.func127,Tryz.ntmps127
     go_wp2_with (go_at_call 65;refine (n.out _).mono ?_;rintro e w1 ⟨rfl,c⟩
                  have d:w1.heap[w.heap.size]?=some (.cells #[.int .i64 1,.string m,.string r,.int .i64 u,.int .i64 s,.bool x,.bool v,.bool p,.string f,.int .i64 i] 94 (0,0)):=c.heap (zad _ _ _ rfl) id;have z:w1.cell? ⟨w.heap.size,8,none⟩=some (.string f):=cellAt d 8 rfl)
     go_ret;exact ⟨rfl,((Fr.refl No w).alloc _).trans0 c⟩
   have t:¬ (1024:Int)<(f.size:Int):=by omega
   rw [if_neg h5];by_cases h6:0<=i
   · rw [if_pos h6]
     go_enter Tryz.func127,Tryz.ntmps127
     go_wp2_with (go_at_call 65;refine (n.out _).mono ?_;rintro e w1 ⟨rfl,c⟩
                  have d:w1.heap[w.heap.size]?=some (.cells #[.int .i64 1,.string m,.string r,.int .i64 u,.int .i64 s,.bool x,.bool v,.bool p,.string f,.int .i64 i] 94 (0,0)):=c.heap (zad _ _ _ rfl) id;have z:w1.cell? ⟨w.heap.size,8,none⟩=some (.string f):=cellAt d 8 rfl;have B:w1.cell? ⟨w.heap.size,9,none⟩=some (.int .i64 i):=cellAt d 9 rfl)
     go_ret;exact ⟨rfl,((Fr.refl No w).alloc _).trans0 c⟩
   rw [if_neg h6]
   go_enter Tryz.func127,Tryz.ntmps127
   go_wp2_with (go_at_call 65;refine (n.out _).mono ?_;rintro e w1 ⟨rfl,c⟩
                have d:w1.heap[w.heap.size]?=some (.cells #[.int .i64 1,.string m,.string r,.int .i64 u,.int .i64 s,.bool x,.bool v,.bool p,.string f,.int .i64 i] 94 (0,0)):=c.heap (zad _ _ _ rfl) id;have z:w1.cell? ⟨w.heap.size,8,none⟩=some (.string f):=cellAt d 8 rfl;have B:w1.cell? ⟨w.heap.size,9,none⟩=some (.int .i64 i):=cellAt d 9 rfl)
   go_ret;exact ⟨rfl,((Fr.refl No w).alloc _).trans0 c⟩
 have C:(g==1)=false:=by simpa using h3
 rw [if_neg h3];go_enter Tryz.func127,Tryz.ntmps127;go_wp2;go_ret;exact ⟨rfl,(Fr.refl No w).alloc _⟩
def inB (key frm end_:ByteArray):Bool :=
 if end_.toList.isEmpty then key.toList==frm.toList else if end_.toList == [0] then !Op.bytesLess key.toList frm.toList else !Op.bytesLess key.toList frm.toList&&Op.bytesLess key.toList end_.toList
theorem zyj (w:World) (key frm end_:ByteArray):Calls Tryz.prog 129 #[.string key,.string frm,.string end_] w fun e w'=>e=.returned (.bool (inB key frm end_))/\w=w':=by
 unfold inB;cases h1:end_.toList.isEmpty
 · cases h2:(end_.toList == [0])
   · cases h3:Op.bytesLess key.toList frm.toList <;>
     · go_enter Tryz.func129,Tryz.ntmps129
       go_wp2;go_ret;exact ⟨by simp,rfl⟩
   go_enter Tryz.func129,Tryz.ntmps129
   go_wp2;go_ret;exact ⟨by simp,rfl⟩
 go_enter Tryz.func129,Tryz.ntmps129
 go_wp2;go_ret;exact ⟨by simp,rfl⟩
theorem zof {w X:World} {b:Nat} {a0 a1 a2 a3 a4 a5 a6 a7 a8 a9 a10 a11 a12:Value} (hk:X.heap[b]?=some (.cells #[a0,a1,a2,a3,a4,a5,a6,a7,a8,a9,a10,a11,a12] 101 (0,0))) (r:Ev) :
 ∃ Z,(((((((((((((X.setCell ⟨b,0,none⟩ (.int .i64 r.kind)).setCell ⟨b,1,none⟩ (.string r.kv.key)).setCell ⟨b,2,none⟩ (.string r.kv.value)).setCell ⟨b,3,none⟩ (.int .i64 r.kv.create)).setCell ⟨b,4,none⟩ (.int .i64 r.kv.mod)).setCell ⟨b,5,none⟩ (.int .i64 r.kv.version)).setCell ⟨b,6,none⟩ (.int .i64 r.kv.lease)).setCell ⟨b,7,none⟩ (.string r.prev.key)).setCell ⟨b,8,none⟩ (.string r.prev.value)).setCell ⟨b,9,none⟩ (.int .i64 r.prev.create)).setCell ⟨b,10,none⟩ (.int .i64 r.prev.mod)).setCell ⟨b,11,none⟩ (.int .i64 r.prev.version)).setCell ⟨b,12,none⟩ (.int .i64 r.prev.lease))=Z ∧
  Z.heap[b]?=some (.cells #[.int .i64 r.kind,.string r.kv.key,.string r.kv.value,.int .i64 r.kv.create,.int .i64 r.kv.mod,.int .i64 r.kv.version,.int .i64 r.kv.lease,.string r.prev.key,.string r.prev.value,.int .i64 r.prev.create,.int .i64 r.prev.mod,.int .i64 r.prev.version,.int .i64 r.prev.lease] 101 (0,0))/\(Fr No w X->w.heap.size<=b->Fr No w Z):=by
 have k:=zab hk 0 (.int .i64 r.kind);have n:=zab k 1 (.string r.kv.key);have g:=zab n 2 (.string r.kv.value);have i:=zab g 3 (.int .i64 r.kv.create);have s:=zab i 4 (.int .i64 r.kv.mod);have q:=zab s 5 (.int .i64 r.kv.version);have o:=zab q 6 (.int .i64 r.kv.lease);have m:=zab o 7 (.string r.prev.key);have p:=zab m 8 (.string r.prev.value);have l:=zab p 9 (.int .i64 r.prev.create);have c:=zab l 10 (.int .i64 r.prev.mod);have a:=zab c 11 (.int .i64 r.prev.version);have d:=zab a 12 (.int .i64 r.prev.lease)
 have f:=((((((((((((((Fr.refl (fun x=>x=b) X).setAt 0 (.int .i64 r.kind)).setAt 1 (.string r.kv.key)).setAt 2 (.string r.kv.value)).setAt 3 (.int .i64 r.kv.create)).setAt 4 (.int .i64 r.kv.mod)).setAt 5 (.int .i64 r.kv.version)).setAt 6 (.int .i64 r.kv.lease)).setAt 7 (.string r.prev.key)).setAt 8 (.string r.prev.value)).setAt 9 (.int .i64 r.prev.create)).setAt 10 (.int .i64 r.prev.mod)).setAt 11 (.int .i64 r.prev.version)).setAt 12 (.int .i64 r.prev.lease));clear k n g i s q o m p l c a
 generalize (((((((((((((X.setCell ⟨b,0,none⟩ (.int .i64 r.kind)).setCell ⟨b,1,none⟩ (.string r.kv.key)).setCell ⟨b,2,none⟩ (.string r.kv.value)).setCell ⟨b,3,none⟩ (.int .i64 r.kv.create)).setCell ⟨b,4,none⟩ (.int .i64 r.kv.mod)).setCell ⟨b,5,none⟩ (.int .i64 r.kv.version)).setCell ⟨b,6,none⟩ (.int .i64 r.kv.lease)).setCell ⟨b,7,none⟩ (.string r.prev.key)).setCell ⟨b,8,none⟩ (.string r.prev.value)).setCell ⟨b,9,none⟩ (.int .i64 r.prev.create)).setCell ⟨b,10,none⟩ (.int .i64 r.prev.mod)).setCell ⟨b,11,none⟩ (.int .i64 r.prev.version)).setCell ⟨b,12,none⟩ (.int .i64 r.prev.lease))=Z at *;refine ⟨Z,rfl,?_,fun hf hb=>hf.trans f fun j hj e=>?_⟩
 · rw [d];simp
 have t:j=b:=e
 omega
def zax (S:St) (o:Opr) (rev:Int):Ev :=
 ⟨1,⟨o.rg.key,o.value,if (livesS S o.rg.key rev).1.version=0 then rev else (livesS S o.rg.key rev).1.create,rev,(livesS S o.rg.key rev).1.version+1,o.lease⟩,(livesS S o.rg.key rev).1⟩
set_option maxHeartbeats 2000000 in
theorem zlq {TA:zaq} {N:Nat} (hT:TreeOk TA N) {n:Nat} (hn:n<=1099511627) (w:World) (s:Nat) (S:St) (F:Nat->Prop) (hS:zak TA w s S F) (hok:StOk n S) (o:Opr) (rev:Int)
 (hv0:0<=(livesS S o.rg.key rev).1.version) (hv1:(livesS S o.rg.key rev).1.version<=top) :
 Calls Tryz.prog 87 #[.pointer (some ⟨s,0,none⟩),opV o,.int .i64 rev] w fun e w'=>e=.returned (evV (zax S o rev))/\Fr No w w':=by
 have J:=fun W hW=>zji hT hn W s S F hW hok o.rg.key rev;obtain ⟨E,⟨g,A,K,B,O,M,z⟩,j,k⟩:=o;have H:=H_ hS;have I:=H_ J;unfold zax opV;dsimp only at *;rcases hr:livesS S g rev with ⟨⟨y,G,q,C,l,D⟩,rb⟩
 rw [hr] at hv0 hv1;unfold top at hv1;have L:=H_ hr;clear hS J hr hok;dsimp only at *;have X:l+1<=1099511627777:=by omega
 by_cases hz:l=0
 · subst hz
   go_enter Tryz.func87,Tryz.ntmps87
   go_wp2_with (go_at_call 66;refine (I.out _ ((H.out.fr0 hT ((Fr.refl No w).alloc _)).fr0 hT ((Fr.refl No _).alloc _))).mono ?_;rintro e w1 ⟨rfl,a⟩
                rw [L.out];unfold zct kvV;have d:Fr No w w1:=(((Fr.refl No w).alloc _).alloc _).trans0 a;have b:w1.heap[w.heap.size]?=some (.cells #[.int .i64 E,.string g,.string A,.int .i64 K,.int .i64 B,.bool O,.bool M,.bool z,.string j,.int .i64 k] 94 (0,0)):=a.heap (zaj (zad _ _ _ rfl) _) id;have c:w1.heap[w.heap.size+1]?=some (.cells #[.int .i64 0,.string ByteArray.empty,.string ByteArray.empty,.int .i64 0,.int .i64 0,.int .i64 0,.int .i64 0,.string ByteArray.empty,.string ByteArray.empty,.int .i64 0,.int .i64 0,.int .i64 0,.int .i64 0] 101 (0,0)):=a.heap (zad _ _ _ (by simp)) id;have x1:w1.cell? ⟨w.heap.size,1,none⟩=some (.string g):=cellAt b 1 rfl;have Y:w1.cell? ⟨w.heap.size,8,none⟩=some (.string j):=cellAt b 8 rfl
                have Q:w1.cell? ⟨w.heap.size,9,none⟩=some (.int .i64 k):=cellAt b 9 rfl;obtain ⟨k0,k1,k2,T,k4,k5,k6,P,R,V,v,t,u⟩:=cells13 c;have U:∀ i,w1.frozen? ⟨w.heap.size+1,i,none⟩=false:=fun i=>by simp [World.frozen?,c]
                have r:w.heap.size<w1.heap.size:=zaa b;have x:w.heap.size+1<w1.heap.size:=zaa c)
   obtain ⟨Z,p,m,f⟩:=zof (w:=w) c ⟨1,⟨g,j,rev,rev,1,k⟩,⟨y,G,q,C,0,D⟩⟩;dsimp only at p m;rw [p];exact bodyPost_ret (results_cell_row rfl _ _ (w.heap.size+1) 101 _ (0,0) _ rfl (zaj (zaj m _) _) Tryz.underlying101 rfl (by kernel_rfl)) rfl ⟨by first | rfl | (rw [if_neg hz];rfl),((f d (by omega)).alloc _).alloc _⟩
 have a7:(l==0)=false:=by simpa using hz
 go_enter Tryz.func87,Tryz.ntmps87
 go_wp2_with (go_at_call 66;refine (I.out _ ((H.out.fr0 hT ((Fr.refl No w).alloc _)).fr0 hT ((Fr.refl No _).alloc _))).mono ?_;rintro e w1 ⟨rfl,a⟩
              rw [L.out];unfold zct kvV;have d:Fr No w w1:=(((Fr.refl No w).alloc _).alloc _).trans0 a;have b:w1.heap[w.heap.size]?=some (.cells #[.int .i64 E,.string g,.string A,.int .i64 K,.int .i64 B,.bool O,.bool M,.bool z,.string j,.int .i64 k] 94 (0,0)):=a.heap (zaj (zad _ _ _ rfl) _) id;have c:w1.heap[w.heap.size+1]?=some (.cells #[.int .i64 0,.string ByteArray.empty,.string ByteArray.empty,.int .i64 0,.int .i64 0,.int .i64 0,.int .i64 0,.string ByteArray.empty,.string ByteArray.empty,.int .i64 0,.int .i64 0,.int .i64 0,.int .i64 0] 101 (0,0)):=a.heap (zad _ _ _ (by simp)) id;have x1:w1.cell? ⟨w.heap.size,1,none⟩=some (.string g):=cellAt b 1 rfl;have Y:w1.cell? ⟨w.heap.size,8,none⟩=some (.string j):=cellAt b 8 rfl
              have Q:w1.cell? ⟨w.heap.size,9,none⟩=some (.int .i64 k):=cellAt b 9 rfl;obtain ⟨k0,k1,k2,T,k4,k5,k6,P,R,V,v,t,u⟩:=cells13 c;have U:∀ i,w1.frozen? ⟨w.heap.size+1,i,none⟩=false:=fun i=>by simp [World.frozen?,c]
              have r:w.heap.size<w1.heap.size:=zaa b;have x:w.heap.size+1<w1.heap.size:=zaa c)
 obtain ⟨Z,p,m,f⟩:=zof (w:=w) c ⟨1,⟨g,j,q,rev,l+1,k⟩,⟨y,G,q,C,l,D⟩⟩;dsimp only at p m;rw [p];exact bodyPost_ret (results_cell_row rfl _ _ (w.heap.size+1) 101 _ (0,0) _ rfl (zaj (zaj m _) _) Tryz.underlying101 rfl (by kernel_rfl)) rfl ⟨by first | rfl | (rw [if_neg hz];rfl),((f d (by omega)).alloc _).alloc _⟩
def tombH (H:Hist) (rev:Int):Hist:={ H with gens:=tombK H.gens rev,last:=rev }
def tombS (S:St) (x:Kv):St :=
 if (getT S.T x.key).2 then { S with past:=fun i=>if i=(getT S.T x.key).1 then (S.past (getT S.T x.key).1).map (fun H=>tombH H x.mod) else S.past i } else S
def doneS (S:St) (x:Ev):St:=if x.kind=1 then putS S x.kv else tombS S x.kv
def doS (S:St) (x:Ev):St:={ doneS S x with events:=(doneS S x).events++[x] }
theorem info73:(Tryz.prog.info? 101).map (fun i=>(i.zero,i.size,i.bytes))=some (some (.agg #[.int .i64 0,.string ByteArray.empty,.string ByteArray.empty,.int .i64 0,.int .i64 0,.int .i64 0,.int .i64 0,.string ByteArray.empty,.string ByteArray.empty,.int .i64 0,.int .i64 0,.int .i64 0,.int .i64 0]),13,136):=by kernel_rfl
theorem zfv (S:St) (x:Ev):(doneS S x).events=S.events:=by
 unfold doneS putS tombS madeS;dsimp only
 split
 · split <;> rfl
 split <;> rfl
structure DoOk (N:Nat) (S:St) (x:Ev):Prop where
 m1:1<=x.kv.mod
 m2:x.kv.mod<=top
 last:∀ H,S.past (getT S.T x.kv.key).1=some H->(getT S.T x.kv.key).2=true->H.last<x.kv.mod
 room:x.kind=1->(getT S.T x.kv.key).2=false->S.T.length<N
 opened:x.kind≠1->∀ H,S.past (getT S.T x.kv.key).1=some H->(getT S.T x.kv.key).2=true->isOpen H.gens=true
set_option maxHeartbeats 4000000 in
theorem zrp {TA:zaq} {N:Nat} (hT:TreeOk TA N) {n:Nat} (hn:n<=1099511627) (w:World) (s:Nat) (S:St) (F:Nat->Prop) (hS:zak TA w s S F) (hok:StOk n S) (x:Ev) (hx:DoOk N S x) :
 Calls Tryz.prog 68 #[.pointer (some ⟨s,0,none⟩),evV x] w fun e w'=>(∃ v,e=.returned v)/\∃ F',zak TA w' s (doS S x) F'/\Fr F w w'/\(∀ b,F' b->F b\/w.heap.size<=b):=by
 have ay:(∃ v,kvV x.kv=v):=⟨_,rfl⟩;have HS:=H_ hS;have M:=H_ hx;have ad:=hS.lt hT;have au:=H_ ad;unfold evV;clear hS hx ad ay;go_enter Tryz.func68,Tryz.ntmps68;go_upto_if 8 with fail
 go_cut [1] (fun _ wx=>Hid (wx.heap[w.heap.size]?=some (.cells #[.int .i64 x.kind,.string x.kv.key,.string x.kv.value,.int .i64 x.kv.create,.int .i64 x.kv.mod,.int .i64 x.kv.version,.int .i64 x.kv.lease,.string x.prev.key,.string x.prev.value,.int .i64 x.prev.create,.int .i64 x.prev.mod,.int .i64 x.prev.version,.int .i64 x.prev.lease] 101 (0,0)))/\∃ V,Hid (zak TA wx s (doneS S x) V)/\Hid (Fr F w wx)/\Hid (∀ b,V b->F b\/w.heap.size<b))
 case first =>
  by_cases hk:x.kind=1
  · have ap:(x.kind==1)=true:=by simpa using hk
    have X:=H_ hk;go_wp2_with (go_at_call 122;refine (zul hT hn _ s S F (HS.out.fr0 hT ((Fr.refl No w).alloc _)) hok x.kv (M.out.room X.out) M.out.m1 M.out.m2 M.out.last).mono ?_;rintro e w1 ⟨⟨v,rfl⟩,V,aK,d,az⟩);go_meet
    case rel =>
     have aB:¬ F w.heap.size:=fun h=>by have:=au.out _ h;omega
     refine ⟨H_ (d.heap ?_ aB),V,H_ (by unfold doneS;rw [if_pos X.out];exact aK),H_ (((Fr.refl F w).alloc _).trans d fun _ _ h=>h),H_ fun b hb=>?_⟩
     · rw [X.out];exact zad _ _ _ rfl
     rcases az b hb with h | h
     · exact .inl h
     simp at h;exact .inr (by omega)
  have ap:(x.kind==1)=false:=by simpa using hk
  obtain ⟨t,p,ev,hp,FT,FH,a,hF⟩:=HS.out;have G:=H_ a;have f:=H_ hF;have D:=zad w (Obj.cells #[.int .i64 x.kind,.string x.kv.key,.string x.kv.value,.int .i64 x.kv.create,.int .i64 x.kv.mod,.int .i64 x.kv.version,.int .i64 x.kv.lease,.string x.prev.key,.string x.prev.value,.int .i64 x.prev.create,.int .i64 x.prev.mod,.int .i64 x.prev.version,.int .i64 x.prev.lease] 101) _ rfl;have E:Fr No w (w.alloc (Obj.cells #[.int .i64 x.kind,.string x.kv.key,.string x.kv.value,.int .i64 x.kv.create,.int .i64 x.kv.mod,.int .i64 x.kv.version,.int .i64 x.kv.lease,.string x.prev.key,.string x.prev.value,.int .i64 x.prev.create,.int .i64 x.prev.mod,.int .i64 x.prev.version,.int .i64 x.prev.lease] 101)):=(Fr.refl No w).alloc _;clear a hF;go_wp2_with fail
  generalize w.alloc (Obj.cells #[.int .i64 x.kind,.string x.kv.key,.string x.kv.value,.int .i64 x.kv.create,.int .i64 x.kv.mod,.int .i64 x.kv.version,.int .i64 x.kv.lease,.string x.prev.key,.string x.prev.value,.int .i64 x.prev.create,.int .i64 x.prev.mod,.int .i64 x.prev.version,.int .i64 x.prev.lease] 101)=W0 at D E ⊢
  have c0:=G.out.obj.cell 0 rfl;have e0:=E.cell0 c0;have k0:W0.cell? ⟨w.heap.size,1,none⟩=some (.string x.kv.key):=cellAt D 1 rfl;have ls:=G.out.obj.lt;have lb:=zaa D
  go_region_held (fun W=>W.cell? ⟨s,0,none⟩=some (.pointer (some ⟨t,0,none⟩))/\W.cell? ⟨w.heap.size,1,none⟩=some (.string x.kv.key))
   (first | exact ⟨e0,k0⟩ | exact ⟨d.cell0 e0,d.cell0 k0⟩)
   (first | (go_at_call 121;refine (hT.get x.kv.key (hT.fr G.out.tree E.drew (fun _ _ s=>s))).mono ?_;rintro e w1 ⟨rfl,d⟩;unfold zcw))
  have L:Fr No w w1:=E.drew.trans0 d;have I:=d.heap (b:=w.heap.size) D id;have c:=G.out.fr hT L fun _ _ s=>s;have b5:=L.size;clear d e0 k0 c0 E D;cases hg:(getT S.T x.kv.key).2
  · go_wp2_with fail
    go_meet
    case rel=>exact ⟨H_ I,F,H_ (by unfold doneS tombS;rw [if_neg hk,hg];exact ⟨t,p,ev,hp,FT,FH,c,f.out⟩),H_ (L.mono fun _ _ s=>s.elim),H_ fun b h=>.inl h⟩
  have ak:∃ H,S.past (getT S.T x.kv.key).1=some H:=by
   revert hg
   unfold getT
   cases hf:S.T.find? (fun q=>keq q.1 x.kv.key) with
   | none=>intro h;cases h
   | some q=>intro _;exact hok.id q (List.mem_of_find?_eq_some hf)
  obtain ⟨H,Z⟩:=ak;obtain ⟨h,hh,g,m,z,b,B⟩:=c.hist _ _ Z;have aL:=hok.ids _ _ Z;have bh:=hok.next;have aj:(Lit.int .i64 (getT S.T x.kv.key).1).wf=true:=wf64 (by omega) (by omega);have aa:=MapAt.look (P:=Tryz.prog) (t:=105) c.map Tryz.underlying105 Tryz.underlying3 aj (zero142 _);have a2:((hp (getT S.T x.kv.key).1).map fun h=>Value.pointer (some ⟨h,0,none⟩)).getD (.pointer none)=.pointer (some ⟨h,0,none⟩):=(by rw [hh];rfl);have c1:=c.obj.cell 1 rfl;have h0:=b.obj.cell 0 rfl;have k4:w1.cell? ⟨w.heap.size,4,none⟩=some (.int .i64 x.kv.mod):=cellAt I 4 rfl;have aV:w.heap.size<w1.heap.size:=zaa I;have ar:¬ z s:=fun e=>c.ds.2.2 _ ((B _).2 (.inr (.inr e)));have av:¬ z p:=fun e=>c.dp.2.2 _ ((B _).2 (.inr (.inr e)))
  have a8:¬ z w.heap.size:=fun e=>by
   have:=G.out.lt hT _ (.inr (.inr (.inr (.inr ⟨_,(B _).2 (.inr (.inr e))⟩))));omega
  have lh:=b.obj.lt;have b8:=c.obj.lt
  have a0:∀ W,Fr z w1 W->W.cell? ⟨s,1,none⟩=some (.map (some p))/\(Instr.lookup 105 (.map (some p)) (.int .i64 (getT S.T x.kv.key).1) false).run Tryz.prog W=.ok (.pointer (some ⟨h,0,none⟩)) W ∧
   W.cell? ⟨h,0,none⟩=some (.pointer (some ⟨g,0,none⟩))/\W.cell? ⟨w.heap.size,4,none⟩=some (.int .i64 x.kv.mod):=by
   intro W hW;refine ⟨hW.cell c1 ar,?_,hW.cell h0 b.d1,hW.cell k4 a8⟩;have:=MapAt.look (P:=Tryz.prog) (t:=105) (c.map.fr hW av) Tryz.underlying105 Tryz.underlying3 aj (zero142 _);rw [a2] at this;exact this
  have H1:=H_ a0;have aF:=H_ c;have Q:=H_ b;have U:=H_ B;have af:=H_ (hok.hist _ _ Z);clear a0 c b B aa a2;go_wp2_with fail
  go_region_held (fun W=>W.cell? ⟨s,1,none⟩=some (.map (some p))/\(Instr.lookup 105 (.map (some p)) (.int .i64 (getT S.T x.kv.key).1) false).run Tryz.prog W=.ok (.pointer (some ⟨h,0,none⟩)) W ∧
   W.cell? ⟨h,0,none⟩=some (.pointer (some ⟨g,0,none⟩))/\W.cell? ⟨w.heap.size,4,none⟩=some (.int .i64 x.kv.mod))
   (first | exact H1.out _ (Fr.refl z w1).drew | exact H1.out _ ((Fr.refl z w1).drew.trans j fun _ _ h=>h))
   (first | (go_at_call 123;refine (zka _ g H.gens H.last x.kv.mod z (Q.out.key.fr (Fr.refl No w1).drew (fun _ _ s=>s)) (af.out.1.fits hn) (M.out.opened hk H Z hg) M.out.m1 M.out.m2 (M.out.last H Z hg)).mono ?_;rintro e Y ⟨rfl,aJ,j⟩))
  go_wp2_with fail;go_meet
  case rel =>
   have o:Fr z w1 Y:=(Fr.refl z w1).drew.trans j fun _ _ h=>h;have a5:Fr (FH (getT S.T x.kv.key).1) w1 Y:=o.mono fun b _ e=>(U.out b).2 (.inr (.inr e))
   have O:HistAt Y h (tombH H x.kv.mod) (fun b=>b=h\/b=m\/z b) :=
    ⟨g,m,z,⟨Q.out.obj.fr o Q.out.d1,aJ,Q.out.map.fr o Q.out.d2,Q.out.d1,Q.out.d2⟩,fun _=>Iff.rfl⟩
   have C:=aF.out.setHist hT hh a5 O fun b hb=>.inl ((U.out b).2 hb)
   have aI:doneS S x = { S with past:=fun i=>if i=(getT S.T x.kv.key).1 then some (tombH H x.kv.mod) else S.past i }:=by
    unfold doneS tombS;rw [if_neg hk,hg,Z]
    rfl
   have ai:∀ b,storeF s p ev FT (fun i=>if i=(getT S.T x.kv.key).1 then (fun b=>b=h\/b=m\/z b) else FH i) b->F b:=by
    rintro b (e | e | e | e | ⟨i,e⟩)
    · exact (f.out b).2 (.inl e)
    · exact (f.out b).2 (.inr (.inl e))
    · exact (f.out b).2 (.inr (.inr (.inl e)))
    · exact (f.out b).2 (.inr (.inr (.inr (.inl e))))
    by_cases hi:i=(getT S.T x.kv.key).1
    · rw [if_pos hi] at e
      exact (f.out b).2 (.inr (.inr (.inr (.inr ⟨_,(U.out b).2 e⟩))))
    rw [if_neg hi] at e
    exact (f.out b).2 (.inr (.inr (.inr (.inr ⟨i,e⟩))))
   exact ⟨H_ (o.heap I a8),_,H_ (by rw [aI];exact ⟨t,p,ev,hp,FT,_,C,fun _=>Iff.rfl⟩),
    H_ ((L.mono fun _ _ s=>s.elim).trans a5 fun b _ e=>(f.out b).2 (.inr (.inr (.inr (.inr ⟨_,e⟩))))),H_ fun b hb=>.inl (ai b hb)⟩
 case rest =>
  obtain ⟨r,V,aH,HF,HN⟩:=hcut;obtain ⟨t,p,ev,hp,FT,FH,a,ae⟩:=aH.out;obtain ⟨ea,l,rfl,b0,bg,ba⟩:=a.events.shape;have G:=H_ a;have y:=H_ ae;have c5:=a.obj.cell 5 rfl;have f5:=a.obj.free 5;have ls:=a.obj.lt;have lb:=zaa r.out;have k0:wc.cell? ⟨w.heap.size,0,none⟩=some (.int .i64 x.kind):=(by simp [World.cell?,r.out]);have k1:wc.cell? ⟨w.heap.size,1,none⟩=some (.string x.kv.key):=(by simp [World.cell?,r.out]);have k2:wc.cell? ⟨w.heap.size,2,none⟩=some (.string x.kv.value):=(by simp [World.cell?,r.out]);have k3:wc.cell? ⟨w.heap.size,3,none⟩=some (.int .i64 x.kv.create):=(by simp [World.cell?,r.out]);have k4:wc.cell? ⟨w.heap.size,4,none⟩=some (.int .i64 x.kv.mod):=(by simp [World.cell?,r.out])
  have k5:wc.cell? ⟨w.heap.size,5,none⟩=some (.int .i64 x.kv.version):=(by simp [World.cell?,r.out]);have k6:wc.cell? ⟨w.heap.size,6,none⟩=some (.int .i64 x.kv.lease):=(by simp [World.cell?,r.out]);have k7:wc.cell? ⟨w.heap.size,7,none⟩=some (.string x.prev.key):=(by simp [World.cell?,r.out]);have k8:wc.cell? ⟨w.heap.size,8,none⟩=some (.string x.prev.value):=(by simp [World.cell?,r.out]);have k9:wc.cell? ⟨w.heap.size,9,none⟩=some (.int .i64 x.prev.create):=(by simp [World.cell?,r.out]);have bj:wc.cell? ⟨w.heap.size,10,none⟩=some (.int .i64 x.prev.mod):=(by simp [World.cell?,r.out]);have bi:wc.cell? ⟨w.heap.size,11,none⟩=some (.int .i64 x.prev.version):=(by simp [World.cell?,r.out]);have bb:wc.cell? ⟨w.heap.size,12,none⟩=some (.int .i64 x.prev.lease):=(by simp [World.cell?,r.out]);clear a ae
  go_wp2_with fail;obtain ⟨i0,aw,aE,aD,ax⟩:=info_parts info73;have a3:=zar wc.drew [.int .i64 x.kind,.string x.kv.key,.string x.kv.value,.int .i64 x.kv.create,.int .i64 x.kv.mod,.int .i64 x.kv.version,.int .i64 x.kv.lease,.string x.prev.key,.string x.prev.value,.int .i64 x.prev.create,.int .i64 x.prev.mod,.int .i64 x.prev.version,.int .i64 x.prev.lease] 101 (0,0);have bd:(doneS S x).events.length<=1099511627:=(by rw [zfv];exact Nat.le_trans hok.ev hn);have J:(Value.slice ea (doneS S x).events.length l).ownBlock≠some s:=G.out.ds.2.1;have aU:=G.out.events.lt
  go_region_law (refine zgw rfl _ _ 28 rfl 101 i0 _ 13 136 Tryz.underlying28 aw aE aD ax rfl (by decide) _ (doneS S x).events rfl (G.out.events.fr0 ((Fr.refl No wc).drew.alloc _)) wc.heap.size 1 x rfl a3 rfl (by intro u hu;simp [evC,kvC] at hu;rcases hu with rfl | rfl | rfl | rfl | rfl | rfl | rfl | rfl | rfl | rfl | rfl | rfl | rfl <;> rfl) (by unfold maxLen;omega) (by omega) ?_;intro K o' cap Y a9 ab a1 aO;have j:Fr (fun k=>(Value.slice ea (doneS S x).events.length l).ownBlock=some k) wc Y:=((Fr.refl _ wc).drew.alloc _).grown ab (fun k hk=>.inl hk);have e5:=j.cell c5 J;have ef:=j.free c5 f5 J;have aA:=H_ a9;have aG:=H_ a1;have ag:=H_ j;clear a9 ab a1 j)
  all_goals
   go_wp2;refine bodyPost_end (results_none rfl _ _ _) rfl ?_
   have R:K≠s/\((Value.slice ea (doneS S x).events.length l).ownBlock=some K\/wc.heap.size<=K):=by
    rcases aG.out with h | h
    · exact ⟨fun e=>J (e▸h),.inl h⟩
    have h':K=wc.heap.size+1:=by simpa using h
    exact ⟨by omega,.inr (by omega)⟩
   have a4:Fr (fun b=>b=s\/(Value.slice ea (doneS S x).events.length l).ownBlock=some b) wc (Y.setCell ⟨s,5,none⟩ (.slice (some ⟨K,o',none⟩) ((doneS S x).events.length+1) cap)) :=
    (ag.out.mono fun _ _ h=>.inr h).setCell (p:=⟨s,5,none⟩) (.inl (.inl rfl)) _
   have ho:=(G.out.obj.fr ag.out J).set 5 (.slice (some ⟨K,o',none⟩) ((doneS S x).events.length+1) cap);have he:=aA.out.other ⟨s,5,none⟩ (.slice (some ⟨K,o',none⟩) ((doneS S x).events.length+1) cap) (by simp [Value.ownBlock];exact R.1)
   have C:=G.out.setEvents hT a4 ho he (fun b hb=>by
    obtain rfl:K=b:=by simpa [Value.ownBlock] using hb
    exact R.2)
   have aZ:=HF.out.size;refine ⟨⟨_,rfl⟩,_,⟨t,p,_,hp,FT,FH,C,fun _=>Iff.rfl⟩,?_,?_⟩
   · refine HF.out.trans a4 fun b hb e=>?_
     have h1:V b:=(y.out b).2 (by
      rcases e with e | e
      · exact .inl e
      exact .inr (.inr (.inr (.inl e))))
     rcases HN.out b h1 with h | h
     · exact h
     omega
   have A:∀ b,V b->F b\/w.heap.size<=b:=fun b hb=>by
    rcases HN.out b hb with h | h
    · exact .inl h
    exact .inr (by omega)
   rintro b (e | e | e | e | e)
   · exact A b ((y.out b).2 (.inl e))
   · exact A b ((y.out b).2 (.inr (.inl e)))
   · exact A b ((y.out b).2 (.inr (.inr (.inl e))))
   · obtain rfl:K=b:=by simpa [Value.ownBlock] using e
     rcases R.2 with h | h
     · exact A _ ((y.out _).2 (.inr (.inr (.inr (.inl h)))))
     exact .inr (by omega)
   exact A b ((y.out b).2 (.inr (.inr (.inr (.inr e)))))
def toOf (key end_:ByteArray):ByteArray:=if end_.toList.isEmpty then key++⟨#[0]⟩ else if end_.toList == [0] then ByteArray.empty else end_
def oneL (S:St) (rev:Int) (p:ByteArray×Int):Option Kv:=match S.past p.2 with
 | some H=>if (hadH H rev).2 then some (hadH H rev).1 else none
 | none=>none
def zan (S:St) (R:Pairs) (rev:Int):List Kv:=R.filterMap (oneL S rev)
def zaz (S:St) (key end_:ByteArray) (rev:Int):List Kv:=zan S (rangeT S.T key (toOf key end_)) rev
theorem info57:(Tryz.prog.info? 99).map (fun i=>(i.zero,i.size,i.bytes))=some (some (.agg #[.string ByteArray.empty,.string ByteArray.empty,.int .i64 0,.int .i64 0,.int .i64 0,.int .i64 0]),6,64):=by kernel_rfl
theorem zht {T:Pairs} {a b:ByteArray} {p:ByteArray×Int} (h:p∈rangeT T a b):p∈T:=(List.mem_filter.1 h).1
set_option maxHeartbeats 4000000 in
theorem zhk {TA:zaq} {N:Nat} (hT:TreeOk TA N) {n:Nat} (hn:n<=1099511627) (w:World) (s:Nat) (S:St) (F:Nat->Prop) (hS:zak TA w s S F) (hok:StOk n S) (hN:S.T.length<=1099511627) (key end_:ByteArray) (rev:Int) (hks:key.size<=1099511627776) :
 Calls Tryz.prog 88 #[.pointer (some ⟨s,0,none⟩),.string key,.string end_,.int .i64 rev] w fun e w'=>∃ v,e=.returned v/\SlF w' 99 6 kvC v (zaz S key end_ rev)/\Fr No w w'/\(∀ b,v.ownBlock=some b->w.heap.size<=b):=by
 have E:=fun W hW at_ H hH=>zjp hT hn W s S F hW hok at_ rev H hH;have a8:=H_ hS;obtain ⟨t,p,ev,hp,FT,FH,a,hF⟩:=hS;have c0:=a.obj.cell 0 rfl;have l1:=a.obj.lt;have HT:=H_ a.tree;have a7:=H_ fun W hW=>hT.len (w:=W) (t:=t) (T:=S.T) (F:=FT) hW;have c:=fun W to1 hW=>hT.range (w:=W) (t:=t) (T:=S.T) (F:=FT) key to1 hW;have HH:=H_ E;have ak:=H_ hok.id;obtain ⟨i0,ar,aj,ah,av⟩:=info_parts info57;have r:∀ to1,(rangeT S.T key to1).length<=S.T.length:=fun to1=>List.length_filter_le _ _
 have Q:(end_.toList.isEmpty=true/\toOf key end_=key++⟨#[0]⟩)\/(end_.toList.isEmpty=false/\(end_.toList == [0])=true/\toOf key end_=⟨#[]⟩)\/(end_.toList.isEmpty=false/\(end_.toList == [0])=false/\toOf key end_=end_):=by
  unfold toOf;have he:ByteArray.empty=⟨#[]⟩:=rfl;rw [he];cases h1:end_.toList.isEmpty
  · cases h2:(end_.toList == [0])
    · exact .inr (.inr ⟨rfl,rfl,by simp⟩)
    exact .inr (.inl ⟨rfl,rfl,by simp⟩)
  exact .inl ⟨rfl,by simp⟩
 have aE:¬ 9223372036854775807<key.size+1:=by omega
 clear a E hks;have aX:Fr No w w:=Fr.refl No w;have HX:∃ X,toOf key end_=X/\((end_.toList.isEmpty=true/\X=key++⟨#[0]⟩)\/(end_.toList.isEmpty=false/\(end_.toList == [0])=true/\X=⟨#[]⟩)\/(end_.toList.isEmpty=false/\(end_.toList == [0])=false/\X=end_)):=⟨_,rfl,Q⟩;obtain ⟨X,hX,Q⟩:=HX;unfold zaz;rw [hX];have ap:=r X;have L:∀ q∈rangeT S.T key X,q∈S.T:=fun q G=>zht G;have K:=fun W hW=>c W X hW;generalize rangeT S.T key X=R at ap L K ⊢
 have ax:=H_ L;have y:=H_ K;clear r c L K hX;rcases Q with ⟨h1,A⟩ | ⟨h1,h2,A⟩ | ⟨h1,h2,A⟩
 all_goals
  have ae:=H_ A;clear A;go_enter Tryz.func88,Tryz.ntmps88;go_wp2_with fail;have ai:w.drew.cell? ⟨s,0,none⟩=some (.pointer (some ⟨t,0,none⟩)):=c0
  go_region_held (fun W=>W.cell? ⟨s,0,none⟩=some (.pointer (some ⟨t,0,none⟩)))
   (first | assumption | exact I.cell0 c0)
   (first
     | (go_at_call 61;refine (a7.out _ (hT.fr HT.out (Fr.refl No w).drew (fun _ _ s=>s))).mono ?_;rintro e w' ⟨rfl,rfl⟩)
     | (go_at_call 60;(first | rw [<-ae.out] | skip);refine (y.out _ (hT.fr HT.out (Fr.refl No w).drew (fun _ _ s=>s))).mono ?_;rintro e w2 ⟨v,rfl,hv,al,aQ⟩
        have I:Fr No w w2:=(Fr.refl No w).drew.trans0 al;obtain ⟨va,aF,rfl,aW,aU,a6⟩:=hv.shape;have HV:=H_ hv;have af:=H_ a6;clear hv a6))
  clear ai;have l2:=I.size;go_wp2_with fail
  go_loopg [36,10] R.length (fun g s36 s10 wr=>∃ (i:Nat) (o:Value),s36=.int .i64 i/\s10=o/\i+g=R.length/\Hid (SlF wr 99 6 kvC o (zan S (R.take i) rev))/\Fr No w wr/\w2.heap.size<=wr.heap.size/\Hid (∀ b,o.ownBlock=some b->w2.heap.size<=b)/\Hid (Fr No w2 wr))
  case atStart=>exact ⟨0,_,rfl,rfl,by simp,H_ (SlF.nil _ _ _ _),I,Nat.le_refl _,H_ (by simp [Value.ownBlock]),H_ (Fr.refl _ _)⟩
  case round =>
   obtain ⟨i,o,rfl,rfl,hi,HO,l,au,m,P⟩:=hrel
   cases gk with
   | zero =>
     have aq:¬ (i:Int)<(R.length:Int):=(by omega);go_wp2;go_ret;have e1:=HO.out;rw [List.take_of_length_le (by omega)] at e1;exact ⟨_,rfl,e1,l,fun b hb=>by have:=m.out b hb;omega⟩
   | succ g =>
     have aq:(i:Int)<(R.length:Int):=(by omega);obtain ⟨q,G⟩:∃ q,R[i]?=some q:=⟨_,List.getElem?_eq_getElem (by omega)⟩;obtain ⟨H,hH⟩:=ak.out q (ax.out q (List.mem_of_getElem? G));obtain ⟨gb,go,rfl⟩:=af.out (by omega);have J:=HV.out.fr0 P.out;have x0:=J.cell0 zag i G rfl;have x1:=J.cell zag i 1 G rfl;have D:oneL S rev q=if (hadH H rev).2 then some (hadH H rev).1 else none:=(by unfold oneL;rw [hH])
     have f:zan S (R.take (i+1)) rev=zan S (R.take i) rev++(oneL S rev q).toList:=by
      unfold zan;rw [List.take_add_one,G,List.filterMap_append];cases h:oneL S rev q <;> simp [h]
     have B:=H_ f;have j:=H_ D;have a4:=H_ hH;have HQ:=H_ G;clear f D hH G J;rcases hr:hadH H rev with ⟨⟨U,r2,V,Z,r5,r6⟩,rb⟩
     rw [hr] at j;have HR:=H_ hr;clear hr;obtain ⟨o1,o2,rfl,aO,aR,ao⟩:=HO.out.shape;clear ao;have aN:(zan S (R.take i) rev).length<=R.length:=Nat.le_trans (List.length_filterMap_le _ _) (by simp;omega);have aM:0<=(i:Int)+1:=(by omega);cases rb
     · have HE:Hid (zan S (R.take (i+1)) rev=zan S (R.take i) rev):=H_ (by rw [B.out,j.out];simp)
       clear B j
       go_wp2_with (go_at_call 62;refine (HH.out _ (a8.out.fr0 hT (l.alloc _)) q.2 H a4.out).mono ?_;rintro e Y ⟨rfl,M⟩
                    have d:Fr No wr Y:=((Fr.refl No wr).alloc _).trans0 M;rw [HR.out];unfold zct kvV)
       go_roundg g
       case rel =>
        have z:Fr No wr (Y.alloc (Obj.cells #[Value.string U,Value.string r2,Value.int .i64 V,Value.int .i64 Z,Value.int .i64 r5,Value.int .i64 r6] 99)):=d.alloc _;exact ⟨i+1,_,by go_num,rfl,by omega,H_ (by rw [HE.out];exact HO.out.fr0 z),l.trans0 z,Nat.le_trans au z.size,m,H_ (P.out.trans0 z)⟩
       case measure=>omega
     have HE:Hid (zan S (R.take (i+1)) rev=zan S (R.take i) rev++[⟨U,r2,V,Z,r5,r6⟩]):=H_ (by rw [B.out,j.out];simp)
     clear B j
     go_wp2_with (first
      | (go_at_call 62;refine (HH.out _ (a8.out.fr0 hT (l.alloc _)) q.2 H a4.out).mono ?_;rintro e Y ⟨rfl,M⟩
         have d:Fr No wr Y:=((Fr.refl No wr).alloc _).trans0 M;have C:=zar (Y.alloc (.cells [Value.string U,.string r2,.int .i64 V,.int .i64 Z,.int .i64 r5,.int .i64 r6].toArray 99)) [Value.string U,.string r2,.int .i64 V,.int .i64 Z,.int .i64 r5,.int .i64 r6] 99 (0,0);rw [HR.out];unfold zct kvV)
      | (at_builtin;refine zao rfl _ _ 27 rfl 99 i0 _ 6 64 Tryz.underlying27 ar aj ah av rfl (by decide) _ (zan S (R.take i) rev) rfl (((HO.out.fr0 d).alloc _).alloc _) (Y.heap.size+1) 1 (⟨U,r2,V,Z,r5,r6⟩:Kv) rfl (by simpa [kvC] using C) rfl ?c1 ?c2 ?c3 ?_))
     case c1=>intro u hu;simp [kvC] at hu;rcases hu with rfl | rfl | rfl | rfl | rfl | rfl <;> rfl
     case c2=>unfold maxLen;omega
     case c3=>omega
     intro g1 o' cap w4 a9 O a5 aJ;have x:(zan S (R.take i) rev++[(⟨U,r2,V,Z,r5,r6⟩:Kv)]).length=(zan S (R.take i) rev).length+1:=(by simp);have an:Fr No w w4:=(((l.trans0 d).alloc _).alloc _).grown O fun k hk=>.inr (by have:=m.out k hk;omega);have ab:Fr No w2 w4:=(((P.out.trans0 d).alloc _).alloc _).grown O fun k hk=>.inr (m.out k hk)
     have aV:w2.heap.size<=g1:=by
      rcases a5 with e | e
      · exact m.out _ e
      have:=d.size;try simp at e
      omega
     have H4:=H_ a9;have aT:=H_ x;clear a9 x O a5 C;go_wp2;go_roundg g
     case rel =>
      exact ⟨i+1,_,by go_num,rfl,by omega,H_ (by rw [HE.out];exact H4.out),an,ab.size,H_ (fun b hb=>by simp [Value.ownBlock] at hb;omega),H_ ab⟩
     case measure=>omega
end Go.Proofs.YthljnnjpmdgkoaaGreat