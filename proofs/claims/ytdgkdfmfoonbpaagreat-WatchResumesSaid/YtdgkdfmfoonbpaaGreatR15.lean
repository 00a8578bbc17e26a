/- Own lemmas. -/
import Derived.Test.YtdgkdfmfoonbpaaGreatR14
import Derived.Test.YtdgkdfmfoonbpaaGreatR00
import Derived.Test.YtdgkdfmfoonbpaaGreatR06
import Derived.BigQuiet
namespace Go.Proofs.YtdgkdfmfoonbpaaGreat
open Go Go.Proofs Go.RowKit
set_option maxRecDepth 100000
structure Rg where
 key:ByteArray
 end_:ByteArray
 rev:Int
 limit:Int
 keys:Bool
 count:Bool
 desc:Bool
def rgV (g:Rg):Value:=.agg #[.string g.key,.string g.end_,.int .i64 g.rev,.int .i64 g.limit,.bool g.keys,.bool g.count,.bool g.desc]
def rgC (g:Rg):List Value:=[.string g.key,.string g.end_,.int .i64 g.rev,.int .i64 g.limit,.bool g.keys,.bool g.count,.bool g.desc]
structure Opr where
 kind:Int
 rg:Rg
 value:ByteArray
 lease:Int
def opV (o:Opr):Value:=.agg #[.int .i64 o.kind,.string o.rg.key,.string o.rg.end_,.int .i64 o.rg.rev,.int .i64 o.rg.limit,.bool o.rg.keys,.bool o.rg.count,.bool o.rg.desc,.string o.value,.int .i64 o.lease]
def opC (o:Opr):List Value:=.int .i64 o.kind :: (rgC o.rg++[.string o.value,.int .i64 o.lease])
theorem zaf (o:Opr):(opC o).length=10:=rfl
def askE (g:Rg):Int:=if keyE g.key≠0 then keyE g.key else if 64<g.end_.size then 31 else if g.rev<0\/g.limit<0 then 1 else 0
theorem zdp (w:World) (g:Rg) (hs:g.key.size<=1099511627776):Calls Tryz.prog 41 #[rgV g] w fun e w'=>e=.returned (.int .i64 (askE g))/\Fr No w w':=by
 have j:=fun W=>zmr W g.key hs;obtain ⟨i,c,d,f,l,m,n⟩:=g;unfold askE rgV;dsimp only at *;generalize keyE i=k at *;clear hs;by_cases h1:k≠0
 · have o:(k==0)=false:=by simpa using h1
   rw [if_pos h1];go_enter Tryz.func41,Tryz.ntmps41;go_wp2_with (go_at_call 70;refine (j _).mono ?_;rintro e w1 ⟨rfl,a⟩);go_ret;exact ⟨rfl,((Fr.refl No w).alloc _).trans0 a⟩
 have o:(k==0)=true:=by simpa using h1
 rw [if_neg h1];by_cases h2:64<c.size
 · have q:(64:Int)<(c.size:Int):=by omega
   rw [if_pos h2];go_enter Tryz.func41,Tryz.ntmps41
   go_wp2_with (go_at_call 70;refine (j _).mono ?_;rintro e w1 ⟨rfl,a⟩
                have b:w1.heap[w.heap.size]?=some (.cells #[.string i,.string c,.int .i64 d,.int .i64 f,.bool l,.bool m,.bool n] 24 (0,0)):=a.heap (zae _ _ _ rfl) id;have r:w1.cell? ⟨w.heap.size,1,none⟩=some (.string c):=cellAt b 1 rfl)
   go_ret;exact ⟨rfl,((Fr.refl No w).alloc _).trans0 a⟩
 have q:¬ (64:Int)<(c.size:Int):=by omega
 rw [if_neg h2];by_cases h3:d<0
 · have t:¬ 0<=d:=by omega
   rw [if_pos (.inl h3)];go_enter Tryz.func41,Tryz.ntmps41
   go_wp2_with (go_at_call 70;refine (j _).mono ?_;rintro e w1 ⟨rfl,a⟩
                have b:w1.heap[w.heap.size]?=some (.cells #[.string i,.string c,.int .i64 d,.int .i64 f,.bool l,.bool m,.bool n] 24 (0,0)):=a.heap (zae _ _ _ rfl) id;have r:w1.cell? ⟨w.heap.size,1,none⟩=some (.string c):=cellAt b 1 rfl;have s:w1.cell? ⟨w.heap.size,2,none⟩=some (.int .i64 d):=cellAt b 2 rfl)
   go_ret;exact ⟨rfl,((Fr.refl No w).alloc _).trans0 a⟩
 by_cases h4:f<0
 · have u:¬ 0<=f:=by omega
   rw [if_pos (.inr h4)];go_enter Tryz.func41,Tryz.ntmps41
   go_wp2_with (go_at_call 70;refine (j _).mono ?_;rintro e w1 ⟨rfl,a⟩
                have b:w1.heap[w.heap.size]?=some (.cells #[.string i,.string c,.int .i64 d,.int .i64 f,.bool l,.bool m,.bool n] 24 (0,0)):=a.heap (zae _ _ _ rfl) id;have r:w1.cell? ⟨w.heap.size,1,none⟩=some (.string c):=cellAt b 1 rfl;have s:w1.cell? ⟨w.heap.size,2,none⟩=some (.int .i64 d):=cellAt b 2 rfl;have v:w1.cell? ⟨w.heap.size,3,none⟩=some (.int .i64 f):=cellAt b 3 rfl)
   go_ret;exact ⟨rfl,((Fr.refl No w).alloc _).trans0 a⟩
 rw [if_neg (by omega)]
 go_enter Tryz.func41,Tryz.ntmps41
 go_wp2_with (go_at_call 70;refine (j _).mono ?_;rintro e w1 ⟨rfl,a⟩
              have b:w1.heap[w.heap.size]?=some (.cells #[.string i,.string c,.int .i64 d,.int .i64 f,.bool l,.bool m,.bool n] 24 (0,0)):=a.heap (zae _ _ _ rfl) id;have r:w1.cell? ⟨w.heap.size,1,none⟩=some (.string c):=cellAt b 1 rfl;have s:w1.cell? ⟨w.heap.size,2,none⟩=some (.int .i64 d):=cellAt b 2 rfl;have v:w1.cell? ⟨w.heap.size,3,none⟩=some (.int .i64 f):=cellAt b 3 rfl)
 go_ret;exact ⟨rfl,((Fr.refl No w).alloc _).trans0 a⟩
def oneE (o:Opr):Int :=
 if o.kind=3 then askE o.rg else if o.kind=2 then askE ⟨o.rg.key,o.rg.end_,0,0,false,false,false⟩
 else if o.kind=1 then (if keyE o.rg.key≠0 then keyE o.rg.key else if 1024<o.value.size then 31 else if 0<=o.lease then 0 else 1) else 1
theorem zsn (w:World) (o:Opr) (hs:o.rg.key.size<=1099511627776):Calls Tryz.prog 111 #[opV o] w fun e w'=>e=.returned (.int .i64 (oneE o))/\Fr No w w':=by
 have A:=fun W=>zmr W o.rg.key hs;have z:=fun W=>zdp W o.rg hs;have d:=fun W=>zdp W ⟨o.rg.key,o.rg.end_,0,0,false,false,false⟩ hs;obtain ⟨g,⟨n,q,r,s,t,u,v⟩,f,i⟩:=o;unfold oneE opV;unfold rgV at *;dsimp only at *;generalize keyE n=k at *;generalize askE _=a at *;generalize askE _=b at *;have m:=H_ A;have C:=H_ z;have D:=H_ d;clear hs A z d;by_cases h1:g=3
 · have j:(g==3)=true:=by simpa using h1
   rw [if_pos h1];go_enter Tryz.func111,Tryz.ntmps111;go_wp2_with (go_at_call 41;refine (C.out _).mono ?_;rintro e w1 ⟨rfl,c⟩);go_ret;exact ⟨rfl,((Fr.refl No w).alloc _).trans0 c⟩
 have j:(g==3)=false:=by simpa using h1
 rw [if_neg h1];by_cases h2:g=2
 · have l:(g==2)=true:=by simpa using h2
   rw [if_pos h2];go_enter Tryz.func111,Tryz.ntmps111;go_wp2_with (go_at_call 41;refine (D.out _).mono ?_;rintro e w1 ⟨rfl,c⟩);go_ret;exact ⟨rfl,((Fr.refl No w).alloc _).trans0 c⟩
 have l:(g==2)=false:=by simpa using h2
 rw [if_neg h2];by_cases h3:g=1
 · rw [if_pos h3]
   subst h3;clear h1 h2 j l;by_cases h4:k≠0
   · have x:(k==0)=false:=by simpa using h4
     rw [if_pos h4];go_enter Tryz.func111,Tryz.ntmps111;go_wp2_with (go_at_call 70;refine (m.out _).mono ?_;rintro e w1 ⟨rfl,c⟩);go_ret;exact ⟨rfl,((Fr.refl No w).alloc _).trans0 c⟩
   have x:(k==0)=true:=by simpa using h4
   rw [if_neg h4];by_cases h5:1024<f.size
   · have y:(1024:Int)<(f.size:Int):=by omega
     rw [if_pos h5];go_enter Tryz.func111,Tryz.ntmps111
     go_wp2_with (go_at_call 70;refine (m.out _).mono ?_;rintro e w1 ⟨rfl,c⟩
                  have d:w1.heap[w.heap.size]?=some (.cells #[.int .i64 1,.string n,.string q,.int .i64 r,.int .i64 s,.bool t,.bool u,.bool v,.string f,.int .i64 i] 139 (0,0)):=c.heap (zae _ _ _ rfl) id;have B:w1.cell? ⟨w.heap.size,8,none⟩=some (.string f):=cellAt d 8 rfl)
     go_ret;exact ⟨rfl,((Fr.refl No w).alloc _).trans0 c⟩
   have y:¬ (1024:Int)<(f.size:Int):=by omega
   rw [if_neg h5];by_cases h6:0<=i
   · rw [if_pos h6]
     go_enter Tryz.func111,Tryz.ntmps111
     go_wp2_with (go_at_call 70;refine (m.out _).mono ?_;rintro e w1 ⟨rfl,c⟩
                  have d:w1.heap[w.heap.size]?=some (.cells #[.int .i64 1,.string n,.string q,.int .i64 r,.int .i64 s,.bool t,.bool u,.bool v,.string f,.int .i64 i] 139 (0,0)):=c.heap (zae _ _ _ rfl) id;have B:w1.cell? ⟨w.heap.size,8,none⟩=some (.string f):=cellAt d 8 rfl;have F:w1.cell? ⟨w.heap.size,9,none⟩=some (.int .i64 i):=cellAt d 9 rfl)
     go_ret;exact ⟨rfl,((Fr.refl No w).alloc _).trans0 c⟩
   rw [if_neg h6]
   go_enter Tryz.func111,Tryz.ntmps111
   go_wp2_with (go_at_call 70;refine (m.out _).mono ?_;rintro e w1 ⟨rfl,c⟩
                have d:w1.heap[w.heap.size]?=some (.cells #[.int .i64 1,.string n,.string q,.int .i64 r,.int .i64 s,.bool t,.bool u,.bool v,.string f,.int .i64 i] 139 (0,0)):=c.heap (zae _ _ _ rfl) id;have B:w1.cell? ⟨w.heap.size,8,none⟩=some (.string f):=cellAt d 8 rfl;have F:w1.cell? ⟨w.heap.size,9,none⟩=some (.int .i64 i):=cellAt d 9 rfl)
   go_ret;exact ⟨rfl,((Fr.refl No w).alloc _).trans0 c⟩
 have E:(g==1)=false:=by simpa using h3
 rw [if_neg h3];go_enter Tryz.func111,Tryz.ntmps111;go_wp2;go_ret;exact ⟨rfl,(Fr.refl No w).alloc _⟩
def inB (key frm end_:ByteArray):Bool :=
 if end_.toList.isEmpty then key.toList==frm.toList else if end_.toList == [0] then !Op.bytesLess key.toList frm.toList else !Op.bytesLess key.toList frm.toList&&Op.bytesLess key.toList end_.toList
theorem zpl (w:World) (key frm end_:ByteArray):Calls Tryz.prog 75 #[.string key,.string frm,.string end_] w fun e w'=>e=.returned (.bool (inB key frm end_))/\w=w':=by
 unfold inB;cases h1:end_.toList.isEmpty
 · cases h2:(end_.toList == [0])
   · cases h3:Op.bytesLess key.toList frm.toList <;>
     · go_enter Tryz.func75,Tryz.ntmps75
       go_wp2;go_ret;exact ⟨by simp,rfl⟩
   go_enter Tryz.func75,Tryz.ntmps75
   go_wp2;go_ret;exact ⟨by simp,rfl⟩
 go_enter Tryz.func75,Tryz.ntmps75
 go_wp2;go_ret;exact ⟨by simp,rfl⟩
theorem zml {w X:World} {b:Nat} {a0 a1 a2 a3 a4 a5 a6 a7 a8 a9 a10 a11 a12:Value} (hk:X.heap[b]?=some (.cells #[a0,a1,a2,a3,a4,a5,a6,a7,a8,a9,a10,a11,a12] 72 (0,0))) (r:Ev) :
 ∃ Z,(((((((((((((X.setCell ⟨b,0,none⟩ (.int .i64 r.kind)).setCell ⟨b,1,none⟩ (.string r.kv.key)).setCell ⟨b,2,none⟩ (.string r.kv.value)).setCell ⟨b,3,none⟩ (.int .i64 r.kv.create)).setCell ⟨b,4,none⟩ (.int .i64 r.kv.mod)).setCell ⟨b,5,none⟩ (.int .i64 r.kv.version)).setCell ⟨b,6,none⟩ (.int .i64 r.kv.lease)).setCell ⟨b,7,none⟩ (.string r.prev.key)).setCell ⟨b,8,none⟩ (.string r.prev.value)).setCell ⟨b,9,none⟩ (.int .i64 r.prev.create)).setCell ⟨b,10,none⟩ (.int .i64 r.prev.mod)).setCell ⟨b,11,none⟩ (.int .i64 r.prev.version)).setCell ⟨b,12,none⟩ (.int .i64 r.prev.lease))=Z ∧
  Z.heap[b]?=some (.cells #[.int .i64 r.kind,.string r.kv.key,.string r.kv.value,.int .i64 r.kv.create,.int .i64 r.kv.mod,.int .i64 r.kv.version,.int .i64 r.kv.lease,.string r.prev.key,.string r.prev.value,.int .i64 r.prev.create,.int .i64 r.prev.mod,.int .i64 r.prev.version,.int .i64 r.prev.lease] 72 (0,0))/\(Fr No w X->w.heap.size<=b->Fr No w Z):=by
 have g:=zab hk 0 (.int .i64 r.kind);have i:=zab g 1 (.string r.kv.key);have k:=zab i 2 (.string r.kv.value);have l:=zab k 3 (.int .i64 r.kv.create);have m:=zab l 4 (.int .i64 r.kv.mod);have n:=zab m 5 (.int .i64 r.kv.version);have o:=zab n 6 (.int .i64 r.kv.lease);have q:=zab o 7 (.string r.prev.key);have s:=zab q 8 (.string r.prev.value);have t:=zab s 9 (.int .i64 r.prev.create);have a:=zab t 10 (.int .i64 r.prev.mod);have c:=zab a 11 (.int .i64 r.prev.version);have f:=zab c 12 (.int .i64 r.prev.lease)
 have d:=((((((((((((((Fr.refl (fun x=>x=b) X).setAt 0 (.int .i64 r.kind)).setAt 1 (.string r.kv.key)).setAt 2 (.string r.kv.value)).setAt 3 (.int .i64 r.kv.create)).setAt 4 (.int .i64 r.kv.mod)).setAt 5 (.int .i64 r.kv.version)).setAt 6 (.int .i64 r.kv.lease)).setAt 7 (.string r.prev.key)).setAt 8 (.string r.prev.value)).setAt 9 (.int .i64 r.prev.create)).setAt 10 (.int .i64 r.prev.mod)).setAt 11 (.int .i64 r.prev.version)).setAt 12 (.int .i64 r.prev.lease));clear g i k l m n o q s t a c
 generalize (((((((((((((X.setCell ⟨b,0,none⟩ (.int .i64 r.kind)).setCell ⟨b,1,none⟩ (.string r.kv.key)).setCell ⟨b,2,none⟩ (.string r.kv.value)).setCell ⟨b,3,none⟩ (.int .i64 r.kv.create)).setCell ⟨b,4,none⟩ (.int .i64 r.kv.mod)).setCell ⟨b,5,none⟩ (.int .i64 r.kv.version)).setCell ⟨b,6,none⟩ (.int .i64 r.kv.lease)).setCell ⟨b,7,none⟩ (.string r.prev.key)).setCell ⟨b,8,none⟩ (.string r.prev.value)).setCell ⟨b,9,none⟩ (.int .i64 r.prev.create)).setCell ⟨b,10,none⟩ (.int .i64 r.prev.mod)).setCell ⟨b,11,none⟩ (.int .i64 r.prev.version)).setCell ⟨b,12,none⟩ (.int .i64 r.prev.lease))=Z at *;refine ⟨Z,rfl,?_,fun hf hb=>hf.trans d fun j hj e=>?_⟩
 · rw [f];simp
 have u:j=b:=e
 omega
def zaw (S:St) (o:Opr) (rev:Int):Ev :=
 ⟨1,⟨o.rg.key,o.value,if (livesS S o.rg.key rev).1.version=0 then rev else (livesS S o.rg.key rev).1.create,rev,(livesS S o.rg.key rev).1.version+1,o.lease⟩,(livesS S o.rg.key rev).1⟩
set_option maxHeartbeats 2000000 in
theorem zka {TA:zai} {N:Nat} (hT:TreeOk TA N) {n:Nat} (hn:n<=1099511627) (w:World) (s:Nat) (S:St) (F:Nat->Prop) (hS:zal TA w s S F) (hok:StOk n S) (o:Opr) (rev:Int)
 (hv0:0<=(livesS S o.rg.key rev).1.version) (hv1:(livesS S o.rg.key rev).1.version<=top) :
 Calls Tryz.prog 90 #[.pointer (some ⟨s,0,none⟩),opV o,.int .i64 rev] w fun e w'=>e=.returned (evV (zaw S o rev))/\Fr No w w':=by
 have J:=fun W hW=>zii hT hn W s S F hW hok o.rg.key rev;obtain ⟨K,⟨d,C,D,E,G,H,I⟩,j,k⟩:=o;have B:=H_ hS;have z:=H_ J;unfold zaw opV;dsimp only at *;rcases hr:livesS S d rev with ⟨⟨L,M,y,O,m,P⟩,rb⟩
 rw [hr] at hv0 hv1;unfold top at hv1;have A:=H_ hr;clear hS J hr hok;dsimp only at *;have Q:m+1<=1099511627777:=by omega
 by_cases hz:m=0
 · subst hz
   go_enter Tryz.func90,Tryz.ntmps90
   go_wp2_with (go_at_call 84;refine (z.out _ ((B.out.fr0 hT ((Fr.refl No w).alloc _)).fr0 hT ((Fr.refl No _).alloc _))).mono ?_;rintro e w1 ⟨rfl,a⟩
                rw [A.out];unfold zco kvV;have f:Fr No w w1:=(((Fr.refl No w).alloc _).alloc _).trans0 a;have b:w1.heap[w.heap.size]?=some (.cells #[.int .i64 K,.string d,.string C,.int .i64 D,.int .i64 E,.bool G,.bool H,.bool I,.string j,.int .i64 k] 139 (0,0)):=a.heap (zaq (zae _ _ _ rfl) _) id;have c:w1.heap[w.heap.size+1]?=some (.cells #[.int .i64 0,.string ByteArray.empty,.string ByteArray.empty,.int .i64 0,.int .i64 0,.int .i64 0,.int .i64 0,.string ByteArray.empty,.string ByteArray.empty,.int .i64 0,.int .i64 0,.int .i64 0,.int .i64 0] 72 (0,0)):=a.heap (zae _ _ _ (by simp)) id;have x1:w1.cell? ⟨w.heap.size,1,none⟩=some (.string d):=cellAt b 1 rfl;have x8:w1.cell? ⟨w.heap.size,8,none⟩=some (.string j):=cellAt b 8 rfl
                have x9:w1.cell? ⟨w.heap.size,9,none⟩=some (.int .i64 k):=cellAt b 9 rfl;obtain ⟨T,U,V,X,Y,k5,k6,k7,k8,k9,u,v,x⟩:=cells13 c;have kf:∀ i,w1.frozen? ⟨w.heap.size+1,i,none⟩=false:=fun i=>by simp [World.frozen?,c]
                have r:w.heap.size<w1.heap.size:=zac b;have t:w.heap.size+1<w1.heap.size:=zac c)
   obtain ⟨Z,l,q,g⟩:=zml (w:=w) c ⟨1,⟨d,j,rev,rev,1,k⟩,⟨L,M,y,O,0,P⟩⟩;dsimp only at l q;rw [l];exact bodyPost_ret (results_cell_row rfl _ _ (w.heap.size+1) 72 _ (0,0) _ rfl (zaq (zaq q _) _) Tryz.underlying72 rfl (by kernel_rfl)) rfl ⟨by first | rfl | (rw [if_neg hz];rfl),((g f (by omega)).alloc _).alloc _⟩
 have R:(m==0)=false:=by simpa using hz
 go_enter Tryz.func90,Tryz.ntmps90
 go_wp2_with (go_at_call 84;refine (z.out _ ((B.out.fr0 hT ((Fr.refl No w).alloc _)).fr0 hT ((Fr.refl No _).alloc _))).mono ?_;rintro e w1 ⟨rfl,a⟩
              rw [A.out];unfold zco kvV;have f:Fr No w w1:=(((Fr.refl No w).alloc _).alloc _).trans0 a;have b:w1.heap[w.heap.size]?=some (.cells #[.int .i64 K,.string d,.string C,.int .i64 D,.int .i64 E,.bool G,.bool H,.bool I,.string j,.int .i64 k] 139 (0,0)):=a.heap (zaq (zae _ _ _ rfl) _) id;have c:w1.heap[w.heap.size+1]?=some (.cells #[.int .i64 0,.string ByteArray.empty,.string ByteArray.empty,.int .i64 0,.int .i64 0,.int .i64 0,.int .i64 0,.string ByteArray.empty,.string ByteArray.empty,.int .i64 0,.int .i64 0,.int .i64 0,.int .i64 0] 72 (0,0)):=a.heap (zae _ _ _ (by simp)) id;have x1:w1.cell? ⟨w.heap.size,1,none⟩=some (.string d):=cellAt b 1 rfl;have x8:w1.cell? ⟨w.heap.size,8,none⟩=some (.string j):=cellAt b 8 rfl
              have x9:w1.cell? ⟨w.heap.size,9,none⟩=some (.int .i64 k):=cellAt b 9 rfl;obtain ⟨T,U,V,X,Y,k5,k6,k7,k8,k9,u,v,x⟩:=cells13 c;have kf:∀ i,w1.frozen? ⟨w.heap.size+1,i,none⟩=false:=fun i=>by simp [World.frozen?,c]
              have r:w.heap.size<w1.heap.size:=zac b;have t:w.heap.size+1<w1.heap.size:=zac c)
 obtain ⟨Z,l,q,g⟩:=zml (w:=w) c ⟨1,⟨d,j,y,rev,m+1,k⟩,⟨L,M,y,O,m,P⟩⟩;dsimp only at l q;rw [l];exact bodyPost_ret (results_cell_row rfl _ _ (w.heap.size+1) 72 _ (0,0) _ rfl (zaq (zaq q _) _) Tryz.underlying72 rfl (by kernel_rfl)) rfl ⟨by first | rfl | (rw [if_neg hz];rfl),((g f (by omega)).alloc _).alloc _⟩
def tombH (H:Hist) (rev:Int):Hist:={ H with gens:=tombK H.gens rev,last:=rev }
def tombS (S:St) (x:Kv):St :=
 if (getT S.T x.key).2 then { S with past:=fun i=>if i=(getT S.T x.key).1 then (S.past (getT S.T x.key).1).map (fun H=>tombH H x.mod) else S.past i } else S
def doneS (S:St) (x:Ev):St:=if x.kind=1 then putS S x.kv else tombS S x.kv
def doS (S:St) (x:Ev):St:={ doneS S x with events:=(doneS S x).events++[x] }
theorem info73:(Tryz.prog.info? 72).map (fun i=>(i.zero,i.size,i.bytes))=some (some (.agg #[.int .i64 0,.string ByteArray.empty,.string ByteArray.empty,.int .i64 0,.int .i64 0,.int .i64 0,.int .i64 0,.string ByteArray.empty,.string ByteArray.empty,.int .i64 0,.int .i64 0,.int .i64 0,.int .i64 0]),13,136):=by kernel_rfl
theorem zfa (S:St) (x:Ev):(doneS S x).events=S.events:=by
 unfold doneS putS tombS madeS;dsimp only
 split
 · split <;> rfl
 split <;> rfl
structure DoOk (N:Nat) (S:St) (x:Ev):Prop where
 m1:1<=x.kv.mod
 m2:x.kv.mod<=top
 last:∀ H,S.past (getT S.T x.kv.key).1=some H->(getT S.T x.kv.key).2=true->H.last<x.kv.mod
 room:x.kind=1->(getT S.T x.kv.key).2=false->S.T.length<N
 opened:x.kind≠1->∀ H,S.past (getT S.T x.kv.key).1=some H->(getT S.T x.kv.key).2=true->isOpen H.gens=true
set_option maxHeartbeats 4000000 in
theorem zpi {TA:zai} {N:Nat} (hT:TreeOk TA N) {n:Nat} (hn:n<=1099511627) (w:World) (s:Nat) (S:St) (F:Nat->Prop) (hS:zal TA w s S F) (hok:StOk n S) (x:Ev) (hx:DoOk N S x) :
 Calls Tryz.prog 86 #[.pointer (some ⟨s,0,none⟩),evV x] w fun e w'=>(∃ v,e=.returned v)/\∃ F',zal TA w' s (doS S x) F'/\Fr F w w'/\(∀ b,F' b->F b\/w.heap.size<=b):=by
 have aD:(∃ v,kvV x.kv=v):=⟨_,rfl⟩;have HS:=H_ hS;have M:=H_ hx;have ab:=hS.lt hT;have aq:=H_ ab;unfold evV;clear hS hx ab aD;go_enter Tryz.func86,Tryz.ntmps86;go_upto_if 8 with fail
 go_cut [1] (fun _ wx=>Hid (wx.heap[w.heap.size]?=some (.cells #[.int .i64 x.kind,.string x.kv.key,.string x.kv.value,.int .i64 x.kv.create,.int .i64 x.kv.mod,.int .i64 x.kv.version,.int .i64 x.kv.lease,.string x.prev.key,.string x.prev.value,.int .i64 x.prev.create,.int .i64 x.prev.mod,.int .i64 x.prev.version,.int .i64 x.prev.lease] 72 (0,0)))/\∃ O,Hid (zal TA wx s (doneS S x) O)/\Hid (Fr F w wx)/\Hid (∀ b,O b->F b\/w.heap.size<b))
 case first =>
  by_cases hk:x.kind=1
  · have aA:(x.kind==1)=true:=by simpa using hk
    have U:=H_ hk;go_wp2_with (go_at_call 109;refine (zsf hT hn _ s S F (HS.out.fr0 hT ((Fr.refl No w).alloc _)) hok x.kv (M.out.room U.out) M.out.m1 M.out.m2 M.out.last).mono ?_;rintro e w1 ⟨⟨v,rfl⟩,O,aE,f,aB⟩);go_meet
    case rel =>
     have aC:¬ F w.heap.size:=fun h=>by have:=aq.out _ h;omega
     refine ⟨H_ (f.heap ?_ aC),O,H_ (by unfold doneS;rw [if_pos U.out];exact aE),H_ (((Fr.refl F w).alloc _).trans f fun _ _ h=>h),H_ fun b hb=>?_⟩
     · rw [U.out];exact zae _ _ _ rfl
     rcases aB b hb with h | h
     · exact .inl h
     simp at h;exact .inr (by omega)
  have aA:(x.kind==1)=false:=by simpa using hk
  obtain ⟨t,p,ev,hp,FT,FH,a,hF⟩:=HS.out;have A:=H_ a;have d:=H_ hF;have C:=zae w (Obj.cells #[.int .i64 x.kind,.string x.kv.key,.string x.kv.value,.int .i64 x.kv.create,.int .i64 x.kv.mod,.int .i64 x.kv.version,.int .i64 x.kv.lease,.string x.prev.key,.string x.prev.value,.int .i64 x.prev.create,.int .i64 x.prev.mod,.int .i64 x.prev.version,.int .i64 x.prev.lease] 72) _ rfl;have D:Fr No w (w.alloc (Obj.cells #[.int .i64 x.kind,.string x.kv.key,.string x.kv.value,.int .i64 x.kv.create,.int .i64 x.kv.mod,.int .i64 x.kv.version,.int .i64 x.kv.lease,.string x.prev.key,.string x.prev.value,.int .i64 x.prev.create,.int .i64 x.prev.mod,.int .i64 x.prev.version,.int .i64 x.prev.lease] 72)):=(Fr.refl No w).alloc _;clear a hF;go_wp2_with fail
  generalize w.alloc (Obj.cells #[.int .i64 x.kind,.string x.kv.key,.string x.kv.value,.int .i64 x.kv.create,.int .i64 x.kv.mod,.int .i64 x.kv.version,.int .i64 x.kv.lease,.string x.prev.key,.string x.prev.value,.int .i64 x.prev.create,.int .i64 x.prev.mod,.int .i64 x.prev.version,.int .i64 x.prev.lease] 72)=W0 at C D ⊢
  have c0:=A.out.obj.cell 0 rfl;have e0:=D.cell0 c0;have k0:W0.cell? ⟨w.heap.size,1,none⟩=some (.string x.kv.key):=cellAt C 1 rfl;have ls:=A.out.obj.lt;have lb:=zac C
  go_region_held (fun W=>W.cell? ⟨s,0,none⟩=some (.pointer (some ⟨t,0,none⟩))/\W.cell? ⟨w.heap.size,1,none⟩=some (.string x.kv.key))
   (first | exact ⟨e0,k0⟩ | exact ⟨f.cell0 e0,f.cell0 k0⟩)
   (first | (go_at_call 105;refine (hT.get x.kv.key (hT.fr A.out.tree D.drew (fun _ _ s=>s))).mono ?_;rintro e w1 ⟨rfl,f⟩;unfold zcg))
  have L:Fr No w w1:=D.drew.trans0 f;have J:=f.heap (b:=w.heap.size) C id;have c:=A.out.fr hT L fun _ _ s=>s;have bh:=L.size;clear f e0 k0 c0 D C;cases hg:(getT S.T x.kv.key).2
  · go_wp2_with fail
    go_meet
    case rel=>exact ⟨H_ J,F,H_ (by unfold doneS tombS;rw [if_neg hk,hg];exact ⟨t,p,ev,hp,FT,FH,c,d.out⟩),H_ (L.mono fun _ _ s=>s.elim),H_ fun b h=>.inl h⟩
  have aa:∃ H,S.past (getT S.T x.kv.key).1=some H:=by
   revert hg
   unfold getT
   cases hf:S.T.find? (fun q=>keq q.1 x.kv.key) with
   | none=>intro h;cases h
   | some q=>intro _;exact hok.id q (List.mem_of_find?_eq_some hf)
  obtain ⟨H,Y⟩:=aa;obtain ⟨h,hh,g,m,z,b,B⟩:=c.hist _ _ Y;have aT:=hok.ids _ _ Y;have ba:=hok.next;have aj:(Lit.int .i64 (getT S.T x.kv.key).1).wf=true:=wf64 (by omega) (by omega);have ag:=MapAt.look (P:=Tryz.prog) (t:=109) c.map Tryz.underlying109 Tryz.underlying3 aj (zero142 _);have af:((hp (getT S.T x.kv.key).1).map fun h=>Value.pointer (some ⟨h,0,none⟩)).getD (.pointer none)=.pointer (some ⟨h,0,none⟩):=(by rw [hh];rfl);have c1:=c.obj.cell 1 rfl;have h0:=b.obj.cell 0 rfl;have k4:w1.cell? ⟨w.heap.size,4,none⟩=some (.int .i64 x.kv.mod):=cellAt J 4 rfl;have aX:w.heap.size<w1.heap.size:=zac J;have aJ:¬ z s:=fun e=>c.ds.2.2 _ ((B _).2 (.inr (.inr e)));have aI:¬ z p:=fun e=>c.dp.2.2 _ ((B _).2 (.inr (.inr e)))
  have ak:¬ z w.heap.size:=fun e=>by
   have:=A.out.lt hT _ (.inr (.inr (.inr (.inr ⟨_,(B _).2 (.inr (.inr e))⟩))));omega
  have lh:=b.obj.lt;have bj:=c.obj.lt
  have a4:∀ W,Fr z w1 W->W.cell? ⟨s,1,none⟩=some (.map (some p))/\(Instr.lookup 109 (.map (some p)) (.int .i64 (getT S.T x.kv.key).1) false).run Tryz.prog W=.ok (.pointer (some ⟨h,0,none⟩)) W ∧
   W.cell? ⟨h,0,none⟩=some (.pointer (some ⟨g,0,none⟩))/\W.cell? ⟨w.heap.size,4,none⟩=some (.int .i64 x.kv.mod):=by
   intro W hW;refine ⟨hW.cell c1 aJ,?_,hW.cell h0 b.d1,hW.cell k4 ak⟩;have:=MapAt.look (P:=Tryz.prog) (t:=109) (c.map.fr hW aI) Tryz.underlying109 Tryz.underlying3 aj (zero142 _);rw [af] at this;exact this
  have H1:=H_ a4;have av:=H_ c;have Q:=H_ b;have R:=H_ B;have a3:=H_ (hok.hist _ _ Y);clear a4 c b B ag af;go_wp2_with fail
  go_region_held (fun W=>W.cell? ⟨s,1,none⟩=some (.map (some p))/\(Instr.lookup 109 (.map (some p)) (.int .i64 (getT S.T x.kv.key).1) false).run Tryz.prog W=.ok (.pointer (some ⟨h,0,none⟩)) W ∧
   W.cell? ⟨h,0,none⟩=some (.pointer (some ⟨g,0,none⟩))/\W.cell? ⟨w.heap.size,4,none⟩=some (.int .i64 x.kv.mod))
   (first | exact H1.out _ (Fr.refl z w1).drew | exact H1.out _ ((Fr.refl z w1).drew.trans j fun _ _ h=>h))
   (first | (go_at_call 110;refine (ziu _ g H.gens H.last x.kv.mod z (Q.out.key.fr (Fr.refl No w1).drew (fun _ _ s=>s)) (a3.out.1.fits hn) (M.out.opened hk H Y hg) M.out.m1 M.out.m2 (M.out.last H Y hg)).mono ?_;rintro e Z ⟨rfl,az,j⟩))
  go_wp2_with fail;go_meet
  case rel =>
   have r:Fr z w1 Z:=(Fr.refl z w1).drew.trans j fun _ _ h=>h;have a8:Fr (FH (getT S.T x.kv.key).1) w1 Z:=r.mono fun b _ e=>(R.out b).2 (.inr (.inr e))
   have X:HistAt Z h (tombH H x.kv.mod) (fun b=>b=h\/b=m\/z b) :=
    ⟨g,m,z,⟨Q.out.obj.fr r Q.out.d1,az,Q.out.map.fr r Q.out.d2,Q.out.d1,Q.out.d2⟩,fun _=>Iff.rfl⟩
   have E:=av.out.setHist hT hh a8 X fun b hb=>.inl ((R.out b).2 hb)
   have ax:doneS S x = { S with past:=fun i=>if i=(getT S.T x.kv.key).1 then some (tombH H x.kv.mod) else S.past i }:=by
    unfold doneS tombS;rw [if_neg hk,hg,Y]
    rfl
   have ai:∀ b,storeF s p ev FT (fun i=>if i=(getT S.T x.kv.key).1 then (fun b=>b=h\/b=m\/z b) else FH i) b->F b:=by
    rintro b (e | e | e | e | ⟨i,e⟩)
    · exact (d.out b).2 (.inl e)
    · exact (d.out b).2 (.inr (.inl e))
    · exact (d.out b).2 (.inr (.inr (.inl e)))
    · exact (d.out b).2 (.inr (.inr (.inr (.inl e))))
    by_cases hi:i=(getT S.T x.kv.key).1
    · rw [if_pos hi] at e
      exact (d.out b).2 (.inr (.inr (.inr (.inr ⟨_,(R.out b).2 e⟩))))
    rw [if_neg hi] at e
    exact (d.out b).2 (.inr (.inr (.inr (.inr ⟨i,e⟩))))
   exact ⟨H_ (r.heap J ak),_,H_ (by rw [ax];exact ⟨t,p,ev,hp,FT,_,E,fun _=>Iff.rfl⟩),
    H_ ((L.mono fun _ _ s=>s.elim).trans a8 fun b _ e=>(d.out b).2 (.inr (.inr (.inr (.inr ⟨_,e⟩))))),H_ fun b hb=>.inl (ai b hb)⟩
 case rest =>
  obtain ⟨l,O,ar,HF,HN⟩:=hcut;obtain ⟨t,p,ev,hp,FT,FH,a,a5⟩:=ar.out;obtain ⟨ea,o,rfl,b5,b6,b8⟩:=a.events.shape;have A:=H_ a;have y:=H_ a5;have c5:=a.obj.cell 5 rfl;have f5:=a.obj.free 5;have ls:=a.obj.lt;have lb:=zac l.out;have k0:wc.cell? ⟨w.heap.size,0,none⟩=some (.int .i64 x.kind):=(by simp [World.cell?,l.out]);have k1:wc.cell? ⟨w.heap.size,1,none⟩=some (.string x.kv.key):=(by simp [World.cell?,l.out]);have k2:wc.cell? ⟨w.heap.size,2,none⟩=some (.string x.kv.value):=(by simp [World.cell?,l.out]);have k3:wc.cell? ⟨w.heap.size,3,none⟩=some (.int .i64 x.kv.create):=(by simp [World.cell?,l.out]);have k4:wc.cell? ⟨w.heap.size,4,none⟩=some (.int .i64 x.kv.mod):=(by simp [World.cell?,l.out])
  have k5:wc.cell? ⟨w.heap.size,5,none⟩=some (.int .i64 x.kv.version):=(by simp [World.cell?,l.out]);have k6:wc.cell? ⟨w.heap.size,6,none⟩=some (.int .i64 x.kv.lease):=(by simp [World.cell?,l.out]);have k7:wc.cell? ⟨w.heap.size,7,none⟩=some (.string x.prev.key):=(by simp [World.cell?,l.out]);have k8:wc.cell? ⟨w.heap.size,8,none⟩=some (.string x.prev.value):=(by simp [World.cell?,l.out]);have k9:wc.cell? ⟨w.heap.size,9,none⟩=some (.int .i64 x.prev.create):=(by simp [World.cell?,l.out]);have be:wc.cell? ⟨w.heap.size,10,none⟩=some (.int .i64 x.prev.mod):=(by simp [World.cell?,l.out]);have bf:wc.cell? ⟨w.heap.size,11,none⟩=some (.int .i64 x.prev.version):=(by simp [World.cell?,l.out]);have bg:wc.cell? ⟨w.heap.size,12,none⟩=some (.int .i64 x.prev.lease):=(by simp [World.cell?,l.out]);clear a a5
  go_wp2_with fail;obtain ⟨i0,ay,aF,aG,aH⟩:=info_parts info73;have ad:=zav wc.drew [.int .i64 x.kind,.string x.kv.key,.string x.kv.value,.int .i64 x.kv.create,.int .i64 x.kv.mod,.int .i64 x.kv.version,.int .i64 x.kv.lease,.string x.prev.key,.string x.prev.value,.int .i64 x.prev.create,.int .i64 x.prev.mod,.int .i64 x.prev.version,.int .i64 x.prev.lease] 72 (0,0);have b9:(doneS S x).events.length<=1099511627:=(by rw [zfa];exact Nat.le_trans hok.ev hn);have K:(Value.slice ea (doneS S x).events.length o).ownBlock≠some s:=A.out.ds.2.1;have aR:=A.out.events.lt
  go_region_law (refine zfw rfl _ _ 41 rfl 72 i0 _ 13 136 Tryz.underlying41 ay aF aG aH rfl (by decide) _ (doneS S x).events rfl (A.out.events.fr0 ((Fr.refl No wc).drew.alloc _)) wc.heap.size 1 x rfl ad rfl (by intro u hu;simp [evC,kvC] at hu;rcases hu with rfl | rfl | rfl | rfl | rfl | rfl | rfl | rfl | rfl | rfl | rfl | rfl | rfl <;> rfl) (by unfold maxLen;omega) (by omega) ?_;intro I o' cap Z ah a9 a6 aU;have j:Fr (fun k=>(Value.slice ea (doneS S x).events.length o).ownBlock=some k) wc Z:=((Fr.refl _ wc).drew.alloc _).grown a9 (fun k hk=>.inl hk);have e5:=j.cell c5 K;have ef:=j.free c5 f5 K;have au:=H_ ah;have ap:=H_ a6;have a2:=H_ j;clear ah a9 a6 j)
  all_goals
   go_wp2;refine bodyPost_end (results_none rfl _ _ _) rfl ?_
   have V:I≠s/\((Value.slice ea (doneS S x).events.length o).ownBlock=some I\/wc.heap.size<=I):=by
    rcases ap.out with h | h
    · exact ⟨fun e=>K (e▸h),.inl h⟩
    have h':I=wc.heap.size+1:=by simpa using h
    exact ⟨by omega,.inr (by omega)⟩
   have a7:Fr (fun b=>b=s\/(Value.slice ea (doneS S x).events.length o).ownBlock=some b) wc (Z.setCell ⟨s,5,none⟩ (.slice (some ⟨I,o',none⟩) ((doneS S x).events.length+1) cap)) :=
    (a2.out.mono fun _ _ h=>.inr h).setCell (p:=⟨s,5,none⟩) (.inl (.inl rfl)) _
   have ho:=(A.out.obj.fr a2.out K).set 5 (.slice (some ⟨I,o',none⟩) ((doneS S x).events.length+1) cap);have he:=au.out.other ⟨s,5,none⟩ (.slice (some ⟨I,o',none⟩) ((doneS S x).events.length+1) cap) (by simp [Value.ownBlock];exact V.1)
   have E:=A.out.setEvents hT a7 ho he (fun b hb=>by
    obtain rfl:I=b:=by simpa [Value.ownBlock] using hb
    exact V.2)
   have bc:=HF.out.size;refine ⟨⟨_,rfl⟩,_,⟨t,p,_,hp,FT,FH,E,fun _=>Iff.rfl⟩,?_,?_⟩
   · refine HF.out.trans a7 fun b hb e=>?_
     have h1:O b:=(y.out b).2 (by
      rcases e with e | e
      · exact .inl e
      exact .inr (.inr (.inr (.inl e))))
     rcases HN.out b h1 with h | h
     · exact h
     omega
   have G:∀ b,O b->F b\/w.heap.size<=b:=fun b hb=>by
    rcases HN.out b hb with h | h
    · exact .inl h
    exact .inr (by omega)
   rintro b (e | e | e | e | e)
   · exact G b ((y.out b).2 (.inl e))
   · exact G b ((y.out b).2 (.inr (.inl e)))
   · exact G b ((y.out b).2 (.inr (.inr (.inl e))))
   · obtain rfl:I=b:=by simpa [Value.ownBlock] using e
     rcases V.2 with h | h
     · exact G _ ((y.out _).2 (.inr (.inr (.inr (.inl h)))))
     exact .inr (by omega)
   exact G b ((y.out b).2 (.inr (.inr (.inr (.inr e)))))
def toOf (key end_:ByteArray):ByteArray:=if end_.toList.isEmpty then key++⟨#[0]⟩ else if end_.toList == [0] then ByteArray.empty else end_
def oneL (S:St) (rev:Int) (p:ByteArray×Int):Option Kv:=match S.past p.2 with
 | some H=>if (hadH H rev).2 then some (hadH H rev).1 else none
 | none=>none
def zbd (S:St) (R:Pairs) (rev:Int):List Kv:=R.filterMap (oneL S rev)
def zaz (S:St) (key end_:ByteArray) (rev:Int):List Kv:=zbd S (rangeT S.T key (toOf key end_)) rev
theorem info57:(Tryz.prog.info? 70).map (fun i=>(i.zero,i.size,i.bytes))=some (some (.agg #[.string ByteArray.empty,.string ByteArray.empty,.int .i64 0,.int .i64 0,.int .i64 0,.int .i64 0]),6,64):=by kernel_rfl
theorem zgs {T:Pairs} {a b:ByteArray} {p:ByteArray×Int} (h:p∈rangeT T a b):p∈T:=(List.mem_filter.1 h).1
set_option maxHeartbeats 4000000 in
theorem zgl {TA:zai} {N:Nat} (hT:TreeOk TA N) {n:Nat} (hn:n<=1099511627) (w:World) (s:Nat) (S:St) (F:Nat->Prop) (hS:zal TA w s S F) (hok:StOk n S) (hN:S.T.length<=1099511627) (key end_:ByteArray) (rev:Int) (hks:key.size<=1099511627776) :
 Calls Tryz.prog 91 #[.pointer (some ⟨s,0,none⟩),.string key,.string end_,.int .i64 rev] w fun e w'=>∃ v,e=.returned v/\SlF w' 70 6 kvC v (zaz S key end_ rev)/\Fr No w w'/\(∀ b,v.ownBlock=some b->w.heap.size<=b):=by
 have C:=fun W hW at_ H hH=>zme hT hn W s S F hW hok at_ rev H hH;have a7:=H_ hS;obtain ⟨t,p,ev,hp,FT,FH,a,hF⟩:=hS;have c0:=a.obj.cell 0 rfl;have l1:=a.obj.lt;have HT:=H_ a.tree;have a4:=H_ fun W hW=>hT.len (w:=W) (t:=t) (T:=S.T) (F:=FT) hW;have c:=fun W to1 hW=>hT.range (w:=W) (t:=t) (T:=S.T) (F:=FT) key to1 hW;have HH:=H_ C;have af:=H_ hok.id;obtain ⟨i0,ao,av,aw,ax⟩:=info_parts info57;have r:∀ to1,(rangeT S.T key to1).length<=S.T.length:=fun to1=>List.length_filter_le _ _
 have Q:(end_.toList.isEmpty=true/\toOf key end_=key++⟨#[0]⟩)\/(end_.toList.isEmpty=false/\(end_.toList == [0])=true/\toOf key end_=⟨#[]⟩)\/(end_.toList.isEmpty=false/\(end_.toList == [0])=false/\toOf key end_=end_):=by
  unfold toOf;have he:ByteArray.empty=⟨#[]⟩:=rfl;rw [he];cases h1:end_.toList.isEmpty
  · cases h2:(end_.toList == [0])
    · exact .inr (.inr ⟨rfl,rfl,by simp⟩)
    exact .inr (.inl ⟨rfl,rfl,by simp⟩)
  exact .inl ⟨rfl,by simp⟩
 have aG:¬ 9223372036854775807<key.size+1:=by omega
 clear a C hks;have aM:Fr No w w:=Fr.refl No w;have HX:∃ X,toOf key end_=X/\((end_.toList.isEmpty=true/\X=key++⟨#[0]⟩)\/(end_.toList.isEmpty=false/\(end_.toList == [0])=true/\X=⟨#[]⟩)\/(end_.toList.isEmpty=false/\(end_.toList == [0])=false/\X=end_)):=⟨_,rfl,Q⟩;obtain ⟨X,hX,Q⟩:=HX;unfold zaz;rw [hX];have ak:=r X;have J:∀ q∈rangeT S.T key X,q∈S.T:=fun q G=>zgs G;have P:=fun W hW=>c W X hW;generalize rangeT S.T key X=R at ak J P ⊢
 have ag:=H_ J;have y:=H_ P;clear r c J P hX;rcases Q with ⟨h1,A⟩ | ⟨h1,h2,A⟩ | ⟨h1,h2,A⟩
 all_goals
  have ai:=H_ A;clear A;go_enter Tryz.func91,Tryz.ntmps91;go_wp2_with fail;have al:w.drew.cell? ⟨s,0,none⟩=some (.pointer (some ⟨t,0,none⟩)):=c0
  go_region_held (fun W=>W.cell? ⟨s,0,none⟩=some (.pointer (some ⟨t,0,none⟩)))
   (first | assumption | exact L.cell0 c0)
   (first
     | (go_at_call 59;refine (a4.out _ (hT.fr HT.out (Fr.refl No w).drew (fun _ _ s=>s))).mono ?_;rintro e w' ⟨rfl,rfl⟩)
     | (go_at_call 58;(first | rw [<-ai.out] | skip);refine (y.out _ (hT.fr HT.out (Fr.refl No w).drew (fun _ _ s=>s))).mono ?_;rintro e w2 ⟨v,rfl,hv,am,aZ⟩
        have L:Fr No w w2:=(Fr.refl No w).drew.trans0 am;obtain ⟨va,aJ,rfl,aR,aS,ab⟩:=hv.shape;have HV:=H_ hv;have ah:=H_ ab;clear hv ab))
  clear al;have l2:=L.size;go_wp2_with fail
  go_loopg [36,10] R.length (fun g s36 s10 wr=>∃ (i:Nat) (o:Value),s36=.int .i64 i/\s10=o/\i+g=R.length/\Hid (SlF wr 70 6 kvC o (zbd S (R.take i) rev))/\Fr No w wr/\w2.heap.size<=wr.heap.size/\Hid (∀ b,o.ownBlock=some b->w2.heap.size<=b)/\Hid (Fr No w2 wr))
  case atStart=>exact ⟨0,_,rfl,rfl,by simp,H_ (SlF.nil _ _ _ _),L,Nat.le_refl _,H_ (by simp [Value.ownBlock]),H_ (Fr.refl _ _)⟩
  case round =>
   obtain ⟨i,o,rfl,rfl,hi,HO,l,ar,j,I⟩:=hrel
   cases gk with
   | zero =>
     have ap:¬ (i:Int)<(R.length:Int):=(by omega);go_wp2;go_ret;have e1:=HO.out;rw [List.take_of_length_le (by omega)] at e1;exact ⟨_,rfl,e1,l,fun b hb=>by have:=j.out b hb;omega⟩
   | succ g =>
     have ap:(i:Int)<(R.length:Int):=(by omega);obtain ⟨q,G⟩:∃ q,R[i]?=some q:=⟨_,List.getElem?_eq_getElem (by omega)⟩;obtain ⟨H,hH⟩:=af.out q (ag.out q (List.mem_of_getElem? G));obtain ⟨gb,go,rfl⟩:=ah.out (by omega);have K:=HV.out.fr0 I.out;have x0:=K.cell0 zad i G rfl;have x1:=K.cell zad i 1 G rfl;have E:oneL S rev q=if (hadH H rev).2 then some (hadH H rev).1 else none:=(by unfold oneL;rw [hH])
     have x:zbd S (R.take (i+1)) rev=zbd S (R.take i) rev++(oneL S rev q).toList:=by
      unfold zbd;rw [List.take_add_one,G,List.filterMap_append];cases h:oneL S rev q <;> simp [h]
     have z:=H_ x;have f:=H_ E;have a5:=H_ hH;have HQ:=H_ G;clear x E hH G K;rcases hr:hadH H rev with ⟨⟨U,V,Y,Z,r5,r6⟩,rb⟩
     rw [hr] at f;have HR:=H_ hr;clear hr;obtain ⟨o1,o2,rfl,aW,aX,aq⟩:=HO.out.shape;clear aq;have aY:(zbd S (R.take i) rev).length<=R.length:=Nat.le_trans (List.length_filterMap_le _ _) (by simp;omega);have aV:0<=(i:Int)+1:=(by omega);cases rb
     · have HE:Hid (zbd S (R.take (i+1)) rev=zbd S (R.take i) rev):=H_ (by rw [z.out,f.out];simp)
       clear z f
       go_wp2_with (go_at_call 60;refine (HH.out _ (a7.out.fr0 hT (l.alloc _)) q.2 H a5.out).mono ?_;rintro e w3 ⟨rfl,M⟩
                    have d:Fr No wr w3:=((Fr.refl No wr).alloc _).trans0 M;rw [HR.out];unfold zco kvV)
       go_roundg g
       case rel =>
        have B:Fr No wr (w3.alloc (Obj.cells #[Value.string U,Value.string V,Value.int .i64 Y,Value.int .i64 Z,Value.int .i64 r5,Value.int .i64 r6] 70)):=d.alloc _;exact ⟨i+1,_,by go_num,rfl,by omega,H_ (by rw [HE.out];exact HO.out.fr0 B),l.trans0 B,Nat.le_trans ar B.size,j,H_ (I.out.trans0 B)⟩
       case measure=>omega
     have HE:Hid (zbd S (R.take (i+1)) rev=zbd S (R.take i) rev++[⟨U,V,Y,Z,r5,r6⟩]):=H_ (by rw [z.out,f.out];simp)
     clear z f
     go_wp2_with (first
      | (go_at_call 60;refine (HH.out _ (a7.out.fr0 hT (l.alloc _)) q.2 H a5.out).mono ?_;rintro e w3 ⟨rfl,M⟩
         have d:Fr No wr w3:=((Fr.refl No wr).alloc _).trans0 M;have D:=zav (w3.alloc (.cells [Value.string U,.string V,.int .i64 Y,.int .i64 Z,.int .i64 r5,.int .i64 r6].toArray 70)) [Value.string U,.string V,.int .i64 Y,.int .i64 Z,.int .i64 r5,.int .i64 r6] 70 (0,0);rw [HR.out];unfold zco kvV)
      | (at_builtin;refine zao rfl _ _ 74 rfl 70 i0 _ 6 64 Tryz.underlying74 ao av aw ax rfl (by decide) _ (zbd S (R.take i) rev) rfl (((HO.out.fr0 d).alloc _).alloc _) (w3.heap.size+1) 1 (⟨U,V,Y,Z,r5,r6⟩:Kv) rfl (by simpa [kvC] using D) rfl ?c1 ?c2 ?c3 ?_))
     case c1=>intro u hu;simp [kvC] at hu;rcases hu with rfl | rfl | rfl | rfl | rfl | rfl <;> rfl
     case c2=>unfold maxLen;omega
     case c3=>omega
     intro g1 o' cap w4 aa O a8 aH;have m:(zbd S (R.take i) rev++[(⟨U,V,Y,Z,r5,r6⟩:Kv)]).length=(zbd S (R.take i) rev).length+1:=(by simp);have an:Fr No w w4:=(((l.trans0 d).alloc _).alloc _).grown O fun k hk=>.inr (by have:=j.out k hk;omega);have a9:Fr No w2 w4:=(((I.out.trans0 d).alloc _).alloc _).grown O fun k hk=>.inr (j.out k hk)
     have aU:w2.heap.size<=g1:=by
      rcases a8 with e | e
      · exact j.out _ e
      have:=d.size;try simp at e
      omega
     have H4:=H_ aa;have aN:=H_ m;clear aa m O a8 D;go_wp2;go_roundg g
     case rel =>
      exact ⟨i+1,_,by go_num,rfl,by omega,H_ (by rw [HE.out];exact H4.out),an,a9.size,H_ (fun b hb=>by simp [Value.ownBlock] at hb;omega),H_ a9⟩
     case measure=>omega
end Go.Proofs.YtdgkdfmfoonbpaaGreat