/- Own lemmas and contracts that the claim's proof needs, laid together. The conditions stand in each. -/
import Derived.Test.YthljnnjpmdgkoaaGreatB14
import Derived.Test.YthljnnjpmdgkoaaGreatB00
import Derived.Test.YthljnnjpmdgkoaaGreatB06
import Derived.BigQuiet
namespace Go.Proofs.YthljnnjpmdgkoaaGreat
open Go Go.Proofs Go.RowKit
set_option maxRecDepth 100000
structure Rg where
 key:ByteArray
 end_:ByteArray
 rev:Int
 limit:Int
 keys:Bool
 count:Bool
 desc:Bool
def rgV (g:Rg):Value:=.agg #[.string g.key,.string g.end_,.int .i64 g.rev,.int .i64 g.limit,.bool g.keys,.bool g.count,.bool g.desc]
def rgC (g:Rg):List Value:=[.string g.key,.string g.end_,.int .i64 g.rev,.int .i64 g.limit,.bool g.keys,.bool g.count,.bool g.desc]
structure Opr where
 kind:Int
 rg:Rg
 value:ByteArray
 lease:Int
def opV (o:Opr):Value:=.agg #[.int .i64 o.kind,.string o.rg.key,.string o.rg.end_,.int .i64 o.rg.rev,.int .i64 o.rg.limit,.bool o.rg.keys,.bool o.rg.count,.bool o.rg.desc,.string o.value,.int .i64 o.lease]
def opC (o:Opr):List Value:=.int .i64 o.kind :: (rgC o.rg++[.string o.value,.int .i64 o.lease])
theorem zaf (o:Opr):(opC o).length=10:=rfl
def askE (g:Rg):Int:=if keyE g.key≠0 then keyE g.key else if 64 < g.end_.size then 31 else if g.rev < 0\/g.limit < 0 then 1 else 0
theorem zfj (w:World) (g:Rg) (hs:g.key.size<=1099511627776):Calls Tryz.prog 97 #[rgV g] w fun e w'=>e = .returned (.int .i64 (askE g))/\Fr No w w':=by
 have hk:=fun W=>zgk W g.key hs;obtain ⟨g1,g2,g3,g4,g5,g6,g7⟩:=g;unfold askE rgV;dsimp only at *;generalize keyE g1=k at *;clear hs;by_cases h1:k≠0
 · have h1':(k == 0)=false:=by simpa using h1
   rw [if_pos h1];go_enter Tryz.func97,Tryz.ntmps97;go_wp2_with (go_at_call 65;refine (hk _).mono ?_;rintro e w1 ⟨rfl,hf⟩);go_ret;exact ⟨rfl,((Fr.refl No w).alloc _).trans0 hf⟩
 have h1':(k == 0)=true:=by simpa using h1
 rw [if_neg h1];by_cases h2:64 < g2.size
 · have h2':(64:Int) < (g2.size:Int):=by omega
   rw [if_pos h2];go_enter Tryz.func97,Tryz.ntmps97
   go_wp2_with (go_at_call 65;refine (hk _).mono ?_;rintro e w1 ⟨rfl,hf⟩
                have hb:w1.heap[w.heap.size]? = some (.cells #[.string g1,.string g2,.int .i64 g3,.int .i64 g4,.bool g5,.bool g6,.bool g7] 35 (0,0)):=hf.heap (zad _ _ _ rfl) id;have x1:w1.cell? ⟨w.heap.size,1,none⟩=some (.string g2):=cellAt hb 1 rfl)
   go_ret;exact ⟨rfl,((Fr.refl No w).alloc _).trans0 hf⟩
 have h2':¬ (64:Int) < (g2.size:Int):=by omega
 rw [if_neg h2];by_cases h3:g3 < 0
 · have h3':¬ 0<=g3:=by omega
   rw [if_pos (.inl h3)];go_enter Tryz.func97,Tryz.ntmps97
   go_wp2_with (go_at_call 65;refine (hk _).mono ?_;rintro e w1 ⟨rfl,hf⟩
                have hb:w1.heap[w.heap.size]? = some (.cells #[.string g1,.string g2,.int .i64 g3,.int .i64 g4,.bool g5,.bool g6,.bool g7] 35 (0,0)):=hf.heap (zad _ _ _ rfl) id;have x1:w1.cell? ⟨w.heap.size,1,none⟩=some (.string g2):=cellAt hb 1 rfl;have x2:w1.cell? ⟨w.heap.size,2,none⟩=some (.int .i64 g3):=cellAt hb 2 rfl)
   go_ret;exact ⟨rfl,((Fr.refl No w).alloc _).trans0 hf⟩
 by_cases h4:g4 < 0
 · have h4':¬ 0<=g4:=by omega
   rw [if_pos (.inr h4)];go_enter Tryz.func97,Tryz.ntmps97
   go_wp2_with (go_at_call 65;refine (hk _).mono ?_;rintro e w1 ⟨rfl,hf⟩
                have hb:w1.heap[w.heap.size]? = some (.cells #[.string g1,.string g2,.int .i64 g3,.int .i64 g4,.bool g5,.bool g6,.bool g7] 35 (0,0)):=hf.heap (zad _ _ _ rfl) id;have x1:w1.cell? ⟨w.heap.size,1,none⟩=some (.string g2):=cellAt hb 1 rfl;have x2:w1.cell? ⟨w.heap.size,2,none⟩=some (.int .i64 g3):=cellAt hb 2 rfl;have x3:w1.cell? ⟨w.heap.size,3,none⟩=some (.int .i64 g4):=cellAt hb 3 rfl)
   go_ret;exact ⟨rfl,((Fr.refl No w).alloc _).trans0 hf⟩
 rw [if_neg (by omega)]
 go_enter Tryz.func97,Tryz.ntmps97
 go_wp2_with (go_at_call 65;refine (hk _).mono ?_;rintro e w1 ⟨rfl,hf⟩
              have hb:w1.heap[w.heap.size]? = some (.cells #[.string g1,.string g2,.int .i64 g3,.int .i64 g4,.bool g5,.bool g6,.bool g7] 35 (0,0)):=hf.heap (zad _ _ _ rfl) id;have x1:w1.cell? ⟨w.heap.size,1,none⟩=some (.string g2):=cellAt hb 1 rfl;have x2:w1.cell? ⟨w.heap.size,2,none⟩=some (.int .i64 g3):=cellAt hb 2 rfl;have x3:w1.cell? ⟨w.heap.size,3,none⟩=some (.int .i64 g4):=cellAt hb 3 rfl)
 go_ret;exact ⟨rfl,((Fr.refl No w).alloc _).trans0 hf⟩
def oneE (o:Opr):Int :=
 if o.kind=3 then askE o.rg else if o.kind=2 then askE ⟨o.rg.key,o.rg.end_,0,0,false,false,false⟩
 else if o.kind=1 then (if keyE o.rg.key≠0 then keyE o.rg.key else if 1024 < o.value.size then 31 else if 0<=o.lease then 0 else 1) else 1
theorem zsn (w:World) (o:Opr) (hs:o.rg.key.size<=1099511627776):Calls Tryz.prog 127 #[opV o] w fun e w'=>e = .returned (.int .i64 (oneE o))/\Fr No w w':=by
 have hk:=fun W=>zgk W o.rg.key hs;have ha:=fun W=>zfj W o.rg hs;have hb:=fun W=>zfj W ⟨o.rg.key,o.rg.end_,0,0,false,false,false⟩ hs;obtain ⟨o1,⟨g1,g2,g3,g4,g5,g6,g7⟩,o2,o3⟩:=o;unfold oneE opV;unfold rgV at *;dsimp only at *;generalize keyE g1=k at *;generalize askE _=a at *;generalize askE _=b at *;have HK:=H_ hk;have HA:=H_ ha;have HB:=H_ hb;clear hs hk ha hb;by_cases h1:o1=3
 · have h1':(o1 == 3)=true:=by simpa using h1
   rw [if_pos h1];go_enter Tryz.func127,Tryz.ntmps127;go_wp2_with (go_at_call 97;refine (HA.out _).mono ?_;rintro e w1 ⟨rfl,hf⟩);go_ret;exact ⟨rfl,((Fr.refl No w).alloc _).trans0 hf⟩
 have h1':(o1 == 3)=false:=by simpa using h1
 rw [if_neg h1];by_cases h2:o1=2
 · have h2':(o1 == 2)=true:=by simpa using h2
   rw [if_pos h2];go_enter Tryz.func127,Tryz.ntmps127;go_wp2_with (go_at_call 97;refine (HB.out _).mono ?_;rintro e w1 ⟨rfl,hf⟩);go_ret;exact ⟨rfl,((Fr.refl No w).alloc _).trans0 hf⟩
 have h2':(o1 == 2)=false:=by simpa using h2
 rw [if_neg h2];by_cases h3:o1=1
 · rw [if_pos h3]
   subst h3;clear h1 h2 h1' h2';by_cases h4:k≠0
   · have h4':(k == 0)=false:=by simpa using h4
     rw [if_pos h4];go_enter Tryz.func127,Tryz.ntmps127;go_wp2_with (go_at_call 65;refine (HK.out _).mono ?_;rintro e w1 ⟨rfl,hf⟩);go_ret;exact ⟨rfl,((Fr.refl No w).alloc _).trans0 hf⟩
   have h4':(k == 0)=true:=by simpa using h4
   rw [if_neg h4];by_cases h5:1024 < o2.size
   · have h5':(1024:Int) < (o2.size:Int):=by omega
     rw [if_pos h5];go_enter Tryz.func127,Tryz.ntmps127
     go_wp2_with (go_at_call 65;refine (HK.out _).mono ?_;rintro e w1 ⟨rfl,hf⟩
                  have hb:w1.heap[w.heap.size]? = some (.cells #[.int .i64 1,.string g1,.string g2,.int .i64 g3,.int .i64 g4,.bool g5,.bool g6,.bool g7,.string o2,.int .i64 o3] 94 (0,0)):=hf.heap (zad _ _ _ rfl) id;have x8:w1.cell? ⟨w.heap.size,8,none⟩=some (.string o2):=cellAt hb 8 rfl)
     go_ret;exact ⟨rfl,((Fr.refl No w).alloc _).trans0 hf⟩
   have h5':¬ (1024:Int) < (o2.size:Int):=by omega
   rw [if_neg h5];by_cases h6:0<=o3
   · rw [if_pos h6]
     go_enter Tryz.func127,Tryz.ntmps127
     go_wp2_with (go_at_call 65;refine (HK.out _).mono ?_;rintro e w1 ⟨rfl,hf⟩
                  have hb:w1.heap[w.heap.size]? = some (.cells #[.int .i64 1,.string g1,.string g2,.int .i64 g3,.int .i64 g4,.bool g5,.bool g6,.bool g7,.string o2,.int .i64 o3] 94 (0,0)):=hf.heap (zad _ _ _ rfl) id;have x8:w1.cell? ⟨w.heap.size,8,none⟩=some (.string o2):=cellAt hb 8 rfl;have x9:w1.cell? ⟨w.heap.size,9,none⟩=some (.int .i64 o3):=cellAt hb 9 rfl)
     go_ret;exact ⟨rfl,((Fr.refl No w).alloc _).trans0 hf⟩
   rw [if_neg h6]
   go_enter Tryz.func127,Tryz.ntmps127
   go_wp2_with (go_at_call 65;refine (HK.out _).mono ?_;rintro e w1 ⟨rfl,hf⟩
                have hb:w1.heap[w.heap.size]? = some (.cells #[.int .i64 1,.string g1,.string g2,.int .i64 g3,.int .i64 g4,.bool g5,.bool g6,.bool g7,.string o2,.int .i64 o3] 94 (0,0)):=hf.heap (zad _ _ _ rfl) id;have x8:w1.cell? ⟨w.heap.size,8,none⟩=some (.string o2):=cellAt hb 8 rfl;have x9:w1.cell? ⟨w.heap.size,9,none⟩=some (.int .i64 o3):=cellAt hb 9 rfl)
   go_ret;exact ⟨rfl,((Fr.refl No w).alloc _).trans0 hf⟩
 have h3':(o1 == 1)=false:=by simpa using h3
 rw [if_neg h3];go_enter Tryz.func127,Tryz.ntmps127;go_wp2;go_ret;exact ⟨rfl,(Fr.refl No w).alloc _⟩
def inB (key frm end_:ByteArray):Bool :=
 if end_.toList.isEmpty then key.toList == frm.toList else if end_.toList == [0] then !Op.bytesLess key.toList frm.toList else !Op.bytesLess key.toList frm.toList && Op.bytesLess key.toList end_.toList
theorem zvn (w:World) (key frm end_:ByteArray):Calls Tryz.prog 129 #[.string key,.string frm,.string end_] w fun e w'=>e = .returned (.bool (inB key frm end_))/\w=w':=by
 unfold inB;cases h1:end_.toList.isEmpty
 · cases h2:(end_.toList == [0])
   · cases h3:Op.bytesLess key.toList frm.toList <;>
     · go_enter Tryz.func129,Tryz.ntmps129
       go_wp2;go_ret;exact ⟨by simp,rfl⟩
   go_enter Tryz.func129,Tryz.ntmps129
   go_wp2;go_ret;exact ⟨by simp,rfl⟩
 go_enter Tryz.func129,Tryz.ntmps129
 go_wp2;go_ret;exact ⟨by simp,rfl⟩
theorem zmp {w X:World} {b:Nat} {a0 a1 a2 a3 a4 a5 a6 a7 a8 a9 a10 a11 a12:Value} (hk:X.heap[b]? = some (.cells #[a0,a1,a2,a3,a4,a5,a6,a7,a8,a9,a10,a11,a12] 101 (0,0))) (r:Ev) :
 ∃ Z,(((((((((((((X.setCell ⟨b,0,none⟩ (.int .i64 r.kind)).setCell ⟨b,1,none⟩ (.string r.kv.key)).setCell ⟨b,2,none⟩ (.string r.kv.value)).setCell ⟨b,3,none⟩ (.int .i64 r.kv.create)).setCell ⟨b,4,none⟩ (.int .i64 r.kv.mod)).setCell ⟨b,5,none⟩ (.int .i64 r.kv.version)).setCell ⟨b,6,none⟩ (.int .i64 r.kv.lease)).setCell ⟨b,7,none⟩ (.string r.prev.key)).setCell ⟨b,8,none⟩ (.string r.prev.value)).setCell ⟨b,9,none⟩ (.int .i64 r.prev.create)).setCell ⟨b,10,none⟩ (.int .i64 r.prev.mod)).setCell ⟨b,11,none⟩ (.int .i64 r.prev.version)).setCell ⟨b,12,none⟩ (.int .i64 r.prev.lease))=Z ∧
  Z.heap[b]? = some (.cells #[.int .i64 r.kind,.string r.kv.key,.string r.kv.value,.int .i64 r.kv.create,.int .i64 r.kv.mod,.int .i64 r.kv.version,.int .i64 r.kv.lease,.string r.prev.key,.string r.prev.value,.int .i64 r.prev.create,.int .i64 r.prev.mod,.int .i64 r.prev.version,.int .i64 r.prev.lease] 101 (0,0))/\(Fr No w X->w.heap.size<=b->Fr No w Z):=by
 have z0:=zaa hk 0 (.int .i64 r.kind);have z1:=zaa z0 1 (.string r.kv.key);have z2:=zaa z1 2 (.string r.kv.value);have z3:=zaa z2 3 (.int .i64 r.kv.create);have z4:=zaa z3 4 (.int .i64 r.kv.mod);have z5:=zaa z4 5 (.int .i64 r.kv.version);have z6:=zaa z5 6 (.int .i64 r.kv.lease);have z7:=zaa z6 7 (.string r.prev.key);have z8:=zaa z7 8 (.string r.prev.value);have z9:=zaa z8 9 (.int .i64 r.prev.create);have z10:=zaa z9 10 (.int .i64 r.prev.mod);have z11:=zaa z10 11 (.int .i64 r.prev.version);have z12:=zaa z11 12 (.int .i64 r.prev.lease)
 have hfZ:=((((((((((((((Fr.refl (fun x=>x=b) X).setAt 0 (.int .i64 r.kind)).setAt 1 (.string r.kv.key)).setAt 2 (.string r.kv.value)).setAt 3 (.int .i64 r.kv.create)).setAt 4 (.int .i64 r.kv.mod)).setAt 5 (.int .i64 r.kv.version)).setAt 6 (.int .i64 r.kv.lease)).setAt 7 (.string r.prev.key)).setAt 8 (.string r.prev.value)).setAt 9 (.int .i64 r.prev.create)).setAt 10 (.int .i64 r.prev.mod)).setAt 11 (.int .i64 r.prev.version)).setAt 12 (.int .i64 r.prev.lease));clear z0 z1 z2 z3 z4 z5 z6 z7 z8 z9 z10 z11
 generalize (((((((((((((X.setCell ⟨b,0,none⟩ (.int .i64 r.kind)).setCell ⟨b,1,none⟩ (.string r.kv.key)).setCell ⟨b,2,none⟩ (.string r.kv.value)).setCell ⟨b,3,none⟩ (.int .i64 r.kv.create)).setCell ⟨b,4,none⟩ (.int .i64 r.kv.mod)).setCell ⟨b,5,none⟩ (.int .i64 r.kv.version)).setCell ⟨b,6,none⟩ (.int .i64 r.kv.lease)).setCell ⟨b,7,none⟩ (.string r.prev.key)).setCell ⟨b,8,none⟩ (.string r.prev.value)).setCell ⟨b,9,none⟩ (.int .i64 r.prev.create)).setCell ⟨b,10,none⟩ (.int .i64 r.prev.mod)).setCell ⟨b,11,none⟩ (.int .i64 r.prev.version)).setCell ⟨b,12,none⟩ (.int .i64 r.prev.lease))=Z at *;refine ⟨Z,rfl,?_,fun hf hb=>hf.trans hfZ fun j hj e=>?_⟩
 · rw [z12];simp
 have e':j=b:=e
 omega
def zaw (S:St) (o:Opr) (rev:Int):Ev :=
 ⟨1,⟨o.rg.key,o.value,if (livesS S o.rg.key rev).1.version=0 then rev else (livesS S o.rg.key rev).1.create,rev,(livesS S o.rg.key rev).1.version+1,o.lease⟩,(livesS S o.rg.key rev).1⟩
set_option maxHeartbeats 2000000 in
theorem zka {TA:zar} {N:Nat} (hT:TreeOk TA N) {n:Nat} (hn:n<=1099511627) (w:World) (s:Nat) (S:St) (F:Nat->Prop) (hS:zak TA w s S F) (hok:StOk n S) (o:Opr) (rev:Int)
 (hv0:0<=(livesS S o.rg.key rev).1.version) (hv1:(livesS S o.rg.key rev).1.version<=top) :
 Calls Tryz.prog 87 #[.pointer (some ⟨s,0,none⟩),opV o,.int .i64 rev] w fun e w'=>e = .returned (evV (zaw S o rev))/\Fr No w w':=by
 have hl:=fun W hW=>zfr hT hn W s S F hW hok o.rg.key rev;obtain ⟨o1,⟨g1,g2,g3,g4,g5,g6,g7⟩,o2,o3⟩:=o;have HS:=H_ hS;have HL:=H_ hl;unfold zaw opV;dsimp only at *;rcases hr:livesS S g1 rev with ⟨⟨r1,r2,r3,r4,r5,r6⟩,rb⟩
 rw [hr] at hv0 hv1;unfold top at hv1;have HR:=H_ hr;clear hS hl hr hok;dsimp only at *;have hv2:r5+1<=1099511627777:=by omega
 by_cases hz:r5=0
 · subst hz
   go_enter Tryz.func87,Tryz.ntmps87
   go_wp2_with (go_at_call 66;refine (HL.out _ ((HS.out.fr0 hT ((Fr.refl No w).alloc _)).fr0 hT ((Fr.refl No _).alloc _))).mono ?_;rintro e w1 ⟨rfl,hf1⟩
                rw [HR.out];unfold zce kvV;have hf2:Fr No w w1:=(((Fr.refl No w).alloc _).alloc _).trans0 hf1;have hb:w1.heap[w.heap.size]? = some (.cells #[.int .i64 o1,.string g1,.string g2,.int .i64 g3,.int .i64 g4,.bool g5,.bool g6,.bool g7,.string o2,.int .i64 o3] 94 (0,0)):=hf1.heap (zaj (zad _ _ _ rfl) _) id;have he:w1.heap[w.heap.size+1]? = some (.cells #[.int .i64 0,.string ByteArray.empty,.string ByteArray.empty,.int .i64 0,.int .i64 0,.int .i64 0,.int .i64 0,.string ByteArray.empty,.string ByteArray.empty,.int .i64 0,.int .i64 0,.int .i64 0,.int .i64 0] 101 (0,0)):=hf1.heap (zad _ _ _ (by simp)) id;have x1:w1.cell? ⟨w.heap.size,1,none⟩=some (.string g1):=cellAt hb 1 rfl;have x8:w1.cell? ⟨w.heap.size,8,none⟩=some (.string o2):=cellAt hb 8 rfl
                have x9:w1.cell? ⟨w.heap.size,9,none⟩=some (.int .i64 o3):=cellAt hb 9 rfl;obtain ⟨k0,k1,k2,k3,k4,k5,k6,k7,k8,k9,k10,k11,k12⟩:=cells13 he;have kf:∀ i,w1.frozen? ⟨w.heap.size+1,i,none⟩=false:=fun i=>by simp [World.frozen?,he]
                have hl0:w.heap.size < w1.heap.size:=zac hb;have hl1:w.heap.size+1 < w1.heap.size:=zac he)
   obtain ⟨Z,hZ,z6,hzf⟩:=zmp (w:=w) he ⟨1,⟨g1,o2,rev,rev,1,o3⟩,⟨r1,r2,r3,r4,0,r6⟩⟩;dsimp only at hZ z6;rw [hZ];exact bodyPost_ret (results_cell_row rfl _ _ (w.heap.size+1) 101 _ (0,0) _ rfl (zaj (zaj z6 _) _) Tryz.underlying101 rfl (by kernel_rfl)) rfl ⟨by first | rfl | (rw [if_neg hz];rfl),((hzf hf2 (by omega)).alloc _).alloc _⟩
 have hz':(r5 == 0)=false:=by simpa using hz
 go_enter Tryz.func87,Tryz.ntmps87
 go_wp2_with (go_at_call 66;refine (HL.out _ ((HS.out.fr0 hT ((Fr.refl No w).alloc _)).fr0 hT ((Fr.refl No _).alloc _))).mono ?_;rintro e w1 ⟨rfl,hf1⟩
              rw [HR.out];unfold zce kvV;have hf2:Fr No w w1:=(((Fr.refl No w).alloc _).alloc _).trans0 hf1;have hb:w1.heap[w.heap.size]? = some (.cells #[.int .i64 o1,.string g1,.string g2,.int .i64 g3,.int .i64 g4,.bool g5,.bool g6,.bool g7,.string o2,.int .i64 o3] 94 (0,0)):=hf1.heap (zaj (zad _ _ _ rfl) _) id;have he:w1.heap[w.heap.size+1]? = some (.cells #[.int .i64 0,.string ByteArray.empty,.string ByteArray.empty,.int .i64 0,.int .i64 0,.int .i64 0,.int .i64 0,.string ByteArray.empty,.string ByteArray.empty,.int .i64 0,.int .i64 0,.int .i64 0,.int .i64 0] 101 (0,0)):=hf1.heap (zad _ _ _ (by simp)) id;have x1:w1.cell? ⟨w.heap.size,1,none⟩=some (.string g1):=cellAt hb 1 rfl;have x8:w1.cell? ⟨w.heap.size,8,none⟩=some (.string o2):=cellAt hb 8 rfl
              have x9:w1.cell? ⟨w.heap.size,9,none⟩=some (.int .i64 o3):=cellAt hb 9 rfl;obtain ⟨k0,k1,k2,k3,k4,k5,k6,k7,k8,k9,k10,k11,k12⟩:=cells13 he;have kf:∀ i,w1.frozen? ⟨w.heap.size+1,i,none⟩=false:=fun i=>by simp [World.frozen?,he]
              have hl0:w.heap.size < w1.heap.size:=zac hb;have hl1:w.heap.size+1 < w1.heap.size:=zac he)
 obtain ⟨Z,hZ,z6,hzf⟩:=zmp (w:=w) he ⟨1,⟨g1,o2,r3,rev,r5+1,o3⟩,⟨r1,r2,r3,r4,r5,r6⟩⟩;dsimp only at hZ z6;rw [hZ];exact bodyPost_ret (results_cell_row rfl _ _ (w.heap.size+1) 101 _ (0,0) _ rfl (zaj (zaj z6 _) _) Tryz.underlying101 rfl (by kernel_rfl)) rfl ⟨by first | rfl | (rw [if_neg hz];rfl),((hzf hf2 (by omega)).alloc _).alloc _⟩
def tombH (H:Hist) (rev:Int):Hist:={ H with gens:=tombK H.gens rev,last:=rev }
def tombS (S:St) (x:Kv):St :=
 if (getT S.T x.key).2 then { S with past:=fun i=>if i=(getT S.T x.key).1 then (S.past (getT S.T x.key).1).map (fun H=>tombH H x.mod) else S.past i } else S
def doneS (S:St) (x:Ev):St:=if x.kind=1 then putS S x.kv else tombS S x.kv
def doS (S:St) (x:Ev):St:={ doneS S x with events:=(doneS S x).events++[x] }
theorem info73:(Tryz.prog.info? 101).map (fun i=>(i.zero,i.size,i.bytes))=some (some (.agg #[.int .i64 0,.string ByteArray.empty,.string ByteArray.empty,.int .i64 0,.int .i64 0,.int .i64 0,.int .i64 0,.string ByteArray.empty,.string ByteArray.empty,.int .i64 0,.int .i64 0,.int .i64 0,.int .i64 0]),13,136):=by kernel_rfl
theorem zdb (S:St) (x:Ev):(doneS S x).events=S.events:=by
 unfold doneS putS tombS madeS;dsimp only
 split
 · split <;> rfl
 split <;> rfl
structure DoOk (N:Nat) (S:St) (x:Ev):Prop where
 m1:1<=x.kv.mod
 m2:x.kv.mod<=top
 last:∀ H,S.past (getT S.T x.kv.key).1=some H->(getT S.T x.kv.key).2=true->H.last < x.kv.mod
 room:x.kind=1->(getT S.T x.kv.key).2=false->S.T.length < N
 opened:x.kind≠1->∀ H,S.past (getT S.T x.kv.key).1=some H->(getT S.T x.kv.key).2=true->isOpen H.gens=true
set_option maxHeartbeats 4000000 in
theorem zkn {TA:zar} {N:Nat} (hT:TreeOk TA N) {n:Nat} (hn:n<=1099511627) (w:World) (s:Nat) (S:St) (F:Nat->Prop) (hS:zak TA w s S F) (hok:StOk n S) (x:Ev) (hx:DoOk N S x) :
 Calls Tryz.prog 68 #[.pointer (some ⟨s,0,none⟩),evV x] w fun e w'=>(∃ v,e = .returned v)/\∃ F',zak TA w' s (doS S x) F'/\Fr F w w'/\(∀ b,F' b->F b\/w.heap.size<=b):=by
 have hpv:(∃ v,kvV x.kv=v):=⟨_,rfl⟩;have HS:=H_ hS;have HX:=H_ hx;have hls:=hS.lt hT;have HLS:=H_ hls;unfold evV;clear hS hx hls hpv;go_enter Tryz.func68,Tryz.ntmps68;go_upto_if 8 with fail
 go_cut [1] (fun _ wx=>Hid (wx.heap[w.heap.size]? = some (.cells #[.int .i64 x.kind,.string x.kv.key,.string x.kv.value,.int .i64 x.kv.create,.int .i64 x.kv.mod,.int .i64 x.kv.version,.int .i64 x.kv.lease,.string x.prev.key,.string x.prev.value,.int .i64 x.prev.create,.int .i64 x.prev.mod,.int .i64 x.prev.version,.int .i64 x.prev.lease] 101 (0,0)))/\∃ F1,Hid (zak TA wx s (doneS S x) F1)/\Hid (Fr F w wx)/\Hid (∀ b,F1 b->F b\/w.heap.size < b))
 case first =>
  by_cases hk:x.kind=1
  · have hkb:(x.kind == 1)=true:=by simpa using hk
    have HK1:=H_ hk;go_wp2_with (go_at_call 122;refine (zsd hT hn _ s S F (HS.out.fr0 hT ((Fr.refl No w).alloc _)) hok x.kv (HX.out.room HK1.out) HX.out.m1 HX.out.m2 HX.out.last).mono ?_;rintro e w1 ⟨⟨v,rfl⟩,F1,hs1,hf1,hn1⟩);go_meet
    case rel =>
     have hnb:¬ F w.heap.size:=fun h=>by have:=HLS.out _ h;omega
     refine ⟨H_ (hf1.heap ?_ hnb),F1,H_ (by unfold doneS;rw [if_pos HK1.out];exact hs1),H_ (((Fr.refl F w).alloc _).trans hf1 fun _ _ h=>h),H_ fun b hb=>?_⟩
     · rw [HK1.out];exact zad _ _ _ rfl
     rcases hn1 b hb with h | h
     · exact .inl h
     simp at h;exact .inr (by omega)
  have hkb:(x.kind == 1)=false:=by simpa using hk
  obtain ⟨t,p,ev,hp,FT,FH,a,hF⟩:=HS.out;have HA:=H_ a;have HFF:=H_ hF;have hbx:=zad w (Obj.cells #[.int .i64 x.kind,.string x.kv.key,.string x.kv.value,.int .i64 x.kv.create,.int .i64 x.kv.mod,.int .i64 x.kv.version,.int .i64 x.kv.lease,.string x.prev.key,.string x.prev.value,.int .i64 x.prev.create,.int .i64 x.prev.mod,.int .i64 x.prev.version,.int .i64 x.prev.lease] 101) _ rfl;have hf0:Fr No w (w.alloc (Obj.cells #[.int .i64 x.kind,.string x.kv.key,.string x.kv.value,.int .i64 x.kv.create,.int .i64 x.kv.mod,.int .i64 x.kv.version,.int .i64 x.kv.lease,.string x.prev.key,.string x.prev.value,.int .i64 x.prev.create,.int .i64 x.prev.mod,.int .i64 x.prev.version,.int .i64 x.prev.lease] 101)):=(Fr.refl No w).alloc _;clear a hF;go_wp2_with fail
  generalize w.alloc (Obj.cells #[.int .i64 x.kind,.string x.kv.key,.string x.kv.value,.int .i64 x.kv.create,.int .i64 x.kv.mod,.int .i64 x.kv.version,.int .i64 x.kv.lease,.string x.prev.key,.string x.prev.value,.int .i64 x.prev.create,.int .i64 x.prev.mod,.int .i64 x.prev.version,.int .i64 x.prev.lease] 101)=W0 at hbx hf0 ⊢
  have c0:=HA.out.obj.cell 0 rfl;have e0:=hf0.cell0 c0;have k0:W0.cell? ⟨w.heap.size,1,none⟩=some (.string x.kv.key):=cellAt hbx 1 rfl;have ls:=HA.out.obj.lt;have lb:=zac hbx
  go_region_held (fun W=>W.cell? ⟨s,0,none⟩=some (.pointer (some ⟨t,0,none⟩))/\W.cell? ⟨w.heap.size,1,none⟩=some (.string x.kv.key))
   (first | exact ⟨e0,k0⟩ | exact ⟨hf1.cell0 e0,hf1.cell0 k0⟩)
   (first | (go_at_call 121;refine (hT.get x.kv.key (hT.fr HA.out.tree hf0.drew (fun _ _ s=>s))).mono ?_;rintro e w1 ⟨rfl,hf1⟩;unfold zck))
  have hfA:Fr No w w1:=hf0.drew.trans0 hf1;have hbA:=hf1.heap (b:=w.heap.size) hbx id;have hsA:=HA.out.fr hT hfA fun _ _ s=>s;have l1A:=hfA.size;clear hf1 e0 k0 c0 hf0 hbx;cases hg:(getT S.T x.kv.key).2
  · go_wp2_with fail
    go_meet
    case rel=>exact ⟨H_ hbA,F,H_ (by unfold doneS tombS;rw [if_neg hk,hg];exact ⟨t,p,ev,hp,FT,FH,hsA,HFF.out⟩),H_ (hfA.mono fun _ _ s=>s.elim),H_ fun b h=>.inl h⟩
  have hidH:∃ H,S.past (getT S.T x.kv.key).1=some H:=by
   revert hg
   unfold getT
   cases hf:S.T.find? (fun q=>keq q.1 x.kv.key) with
   | none=>intro h;cases h
   | some q=>intro _;exact hok.id q (List.mem_of_find?_eq_some hf)
  obtain ⟨H,hH⟩:=hidH;obtain ⟨h,hh,g,m,FK,b,hFH⟩:=hsA.hist _ _ hH;have hids:=hok.ids _ _ hH;have hnx:=hok.next;have hwf:(Lit.int .i64 (getT S.T x.kv.key).1).wf=true:=wf64 (by omega) (by omega);have hplk:=MapAt.look (P:=Tryz.prog) (t:=105) hsA.map Tryz.underlying105 Tryz.underlying3 hwf (zero142 _);have hpl:((hp (getT S.T x.kv.key).1).map fun h=>Value.pointer (some ⟨h,0,none⟩)).getD (.pointer none) = .pointer (some ⟨h,0,none⟩):=(by rw [hh];rfl);have c1:=hsA.obj.cell 1 rfl;have h0:=b.obj.cell 0 rfl;have k4:w1.cell? ⟨w.heap.size,4,none⟩=some (.int .i64 x.kv.mod):=cellAt hbA 4 rfl;have lbox:w.heap.size < w1.heap.size:=zac hbA;have nKs:¬ FK s:=fun e=>hsA.ds.2.2 _ ((hFH _).2 (.inr (.inr e)));have nKp:¬ FK p:=fun e=>hsA.dp.2.2 _ ((hFH _).2 (.inr (.inr e)))
  have nKb:¬ FK w.heap.size:=fun e=>by
   have:=HA.out.lt hT _ (.inr (.inr (.inr (.inr ⟨_,(hFH _).2 (.inr (.inr e))⟩))));omega
  have lh:=b.obj.lt;have lsA:=hsA.obj.lt
  have HSW:∀ W,Fr FK w1 W->W.cell? ⟨s,1,none⟩=some (.map (some p))/\(Instr.lookup 105 (.map (some p)) (.int .i64 (getT S.T x.kv.key).1) false).run Tryz.prog W = .ok (.pointer (some ⟨h,0,none⟩)) W ∧
   W.cell? ⟨h,0,none⟩=some (.pointer (some ⟨g,0,none⟩))/\W.cell? ⟨w.heap.size,4,none⟩=some (.int .i64 x.kv.mod):=by
   intro W hW;refine ⟨hW.cell c1 nKs,?_,hW.cell h0 b.d1,hW.cell k4 nKb⟩;have:=MapAt.look (P:=Tryz.prog) (t:=105) (hsA.map.fr hW nKp) Tryz.underlying105 Tryz.underlying3 hwf (zero142 _);rw [hpl] at this;exact this
  have H1:=H_ HSW;have HSA:=H_ hsA;have HB:=H_ b;have HFH:=H_ hFH;have HHok:=H_ (hok.hist _ _ hH);clear HSW hsA b hFH hplk hpl;go_wp2_with fail
  go_region_held (fun W=>W.cell? ⟨s,1,none⟩=some (.map (some p))/\(Instr.lookup 105 (.map (some p)) (.int .i64 (getT S.T x.kv.key).1) false).run Tryz.prog W = .ok (.pointer (some ⟨h,0,none⟩)) W ∧
   W.cell? ⟨h,0,none⟩=some (.pointer (some ⟨g,0,none⟩))/\W.cell? ⟨w.heap.size,4,none⟩=some (.int .i64 x.kv.mod))
   (first | exact H1.out _ (Fr.refl FK w1).drew | exact H1.out _ ((Fr.refl FK w1).drew.trans hf4 fun _ _ h=>h))
   (first | (go_at_call 123;refine (ziu _ g H.gens H.last x.kv.mod FK (HB.out.key.fr (Fr.refl No w1).drew (fun _ _ s=>s)) (HHok.out.1.fits hn) (HX.out.opened hk H hH hg) HX.out.m1 HX.out.m2 (HX.out.last H hH hg)).mono ?_;rintro e w4 ⟨rfl,hk4,hf4⟩))
  go_wp2_with fail;go_meet
  case rel =>
   have hf4':Fr FK w1 w4:=(Fr.refl FK w1).drew.trans hf4 fun _ _ h=>h;have hfc:Fr (FH (getT S.T x.kv.key).1) w1 w4:=hf4'.mono fun b _ e=>(HFH.out b).2 (.inr (.inr e))
   have hhist:HistAt w4 h (tombH H x.kv.mod) (fun b=>b=h\/b=m\/FK b) :=
    ⟨g,m,FK,⟨HB.out.obj.fr hf4' HB.out.d1,hk4,HB.out.map.fr hf4' HB.out.d2,HB.out.d1,HB.out.d2⟩,fun _=>Iff.rfl⟩
   have hfin:=HSA.out.setHist hT hh hfc hhist fun b hb=>.inl ((HFH.out b).2 hb)
   have heq:doneS S x = { S with past:=fun i=>if i=(getT S.T x.kv.key).1 then some (tombH H x.kv.mod) else S.past i }:=by
    unfold doneS tombS;rw [if_neg hk,hg,hH]
    rfl
   have hset:∀ b,storeF s p ev FT (fun i=>if i=(getT S.T x.kv.key).1 then (fun b=>b=h\/b=m\/FK b) else FH i) b->F b:=by
    rintro b (e | e | e | e | ⟨i,e⟩)
    · exact (HFF.out b).2 (.inl e)
    · exact (HFF.out b).2 (.inr (.inl e))
    · exact (HFF.out b).2 (.inr (.inr (.inl e)))
    · exact (HFF.out b).2 (.inr (.inr (.inr (.inl e))))
    by_cases hi:i=(getT S.T x.kv.key).1
    · rw [if_pos hi] at e
      exact (HFF.out b).2 (.inr (.inr (.inr (.inr ⟨_,(HFH.out b).2 e⟩))))
    rw [if_neg hi] at e
    exact (HFF.out b).2 (.inr (.inr (.inr (.inr ⟨i,e⟩))))
   exact ⟨H_ (hf4'.heap hbA nKb),_,H_ (by rw [heq];exact ⟨t,p,ev,hp,FT,_,hfin,fun _=>Iff.rfl⟩),
    H_ ((hfA.mono fun _ _ s=>s.elim).trans hfc fun b _ e=>(HFF.out b).2 (.inr (.inr (.inr (.inr ⟨_,e⟩))))),H_ fun b hb=>.inl (hset b hb)⟩
 case rest =>
  obtain ⟨HK,F1,HS1,HF,HN⟩:=hcut;obtain ⟨t,p,ev,hp,FT,FH,a,hF1⟩:=HS1.out;obtain ⟨ea,ecap,rfl,hc1,hc2,hea⟩:=a.events.shape;have HA:=H_ a;have HF1:=H_ hF1;have c5:=a.obj.cell 5 rfl;have f5:=a.obj.free 5;have ls:=a.obj.lt;have lb:=zac HK.out;have k0:wc.cell? ⟨w.heap.size,0,none⟩=some (.int .i64 x.kind):=(by simp [World.cell?,HK.out]);have k1:wc.cell? ⟨w.heap.size,1,none⟩=some (.string x.kv.key):=(by simp [World.cell?,HK.out]);have k2:wc.cell? ⟨w.heap.size,2,none⟩=some (.string x.kv.value):=(by simp [World.cell?,HK.out]);have k3:wc.cell? ⟨w.heap.size,3,none⟩=some (.int .i64 x.kv.create):=(by simp [World.cell?,HK.out]);have k4:wc.cell? ⟨w.heap.size,4,none⟩=some (.int .i64 x.kv.mod):=(by simp [World.cell?,HK.out])
  have k5:wc.cell? ⟨w.heap.size,5,none⟩=some (.int .i64 x.kv.version):=(by simp [World.cell?,HK.out]);have k6:wc.cell? ⟨w.heap.size,6,none⟩=some (.int .i64 x.kv.lease):=(by simp [World.cell?,HK.out]);have k7:wc.cell? ⟨w.heap.size,7,none⟩=some (.string x.prev.key):=(by simp [World.cell?,HK.out]);have k8:wc.cell? ⟨w.heap.size,8,none⟩=some (.string x.prev.value):=(by simp [World.cell?,HK.out]);have k9:wc.cell? ⟨w.heap.size,9,none⟩=some (.int .i64 x.prev.create):=(by simp [World.cell?,HK.out]);have k10:wc.cell? ⟨w.heap.size,10,none⟩=some (.int .i64 x.prev.mod):=(by simp [World.cell?,HK.out]);have k11:wc.cell? ⟨w.heap.size,11,none⟩=some (.int .i64 x.prev.version):=(by simp [World.cell?,HK.out]);have k12:wc.cell? ⟨w.heap.size,12,none⟩=some (.int .i64 x.prev.lease):=(by simp [World.cell?,HK.out]);clear a hF1
  go_wp2_with fail;obtain ⟨i0,hi0,hz0,hz1,hz2⟩:=info_parts info73;have hnew:=zay wc.drew [.int .i64 x.kind,.string x.kv.key,.string x.kv.value,.int .i64 x.kv.create,.int .i64 x.kv.mod,.int .i64 x.kv.version,.int .i64 x.kv.lease,.string x.prev.key,.string x.prev.value,.int .i64 x.prev.create,.int .i64 x.prev.mod,.int .i64 x.prev.version,.int .i64 x.prev.lease] 101 (0,0);have hel:(doneS S x).events.length<=1099511627:=(by rw [zdb];exact Nat.le_trans hok.ev hn);have hes:(Value.slice ea (doneS S x).events.length ecap).ownBlock≠some s:=HA.out.ds.2.1;have hevl:=HA.out.events.lt
  go_region_law (refine zcp rfl _ _ 28 rfl 101 i0 _ 13 136 Tryz.underlying28 hi0 hz0 hz1 hz2 rfl (by decide) _ (doneS S x).events rfl (HA.out.events.fr0 ((Fr.refl No wc).drew.alloc _)) wc.heap.size 1 x rfl hnew rfl (by intro u hu;simp [evC,kvC] at hu;rcases hu with rfl | rfl | rfl | rfl | rfl | rfl | rfl | rfl | rfl | rfl | rfl | rfl | rfl <;> rfl) (by unfold maxLen;omega) (by omega) ?_;intro g1 o' cap w4 hs4 hg4 hb4 hlt4;have hf4:Fr (fun k=>(Value.slice ea (doneS S x).events.length ecap).ownBlock=some k) wc w4:=((Fr.refl _ wc).drew.alloc _).grown hg4 (fun k hk=>.inl hk);have e5:=hf4.cell c5 hes;have ef:=hf4.free c5 f5 hes;have HS4:=H_ hs4;have HB4:=H_ hb4;have HF4:=H_ hf4;clear hs4 hg4 hb4 hf4)
  all_goals
   go_wp2;refine bodyPost_end (results_none rfl _ _ _) rfl ?_
   have hgs:g1≠s/\((Value.slice ea (doneS S x).events.length ecap).ownBlock=some g1\/wc.heap.size<=g1):=by
    rcases HB4.out with h | h
    · exact ⟨fun e=>hes (e ▸ h),.inl h⟩
    have h':g1=wc.heap.size+1:=by simpa using h
    exact ⟨by omega,.inr (by omega)⟩
   have hfE:Fr (fun b=>b=s\/(Value.slice ea (doneS S x).events.length ecap).ownBlock=some b) wc (w4.setCell ⟨s,5,none⟩ (.slice (some ⟨g1,o',none⟩) ((doneS S x).events.length+1) cap)) :=
    (HF4.out.mono fun _ _ h=>.inr h).setCell (p:=⟨s,5,none⟩) (.inl (.inl rfl)) _
   have ho:=(HA.out.obj.fr HF4.out hes).set 5 (.slice (some ⟨g1,o',none⟩) ((doneS S x).events.length+1) cap);have he:=HS4.out.other ⟨s,5,none⟩ (.slice (some ⟨g1,o',none⟩) ((doneS S x).events.length+1) cap) (by simp [Value.ownBlock];exact hgs.1)
   have hfin:=HA.out.setEvents hT hfE ho he (fun b hb=>by
    obtain rfl:g1=b:=by simpa [Value.ownBlock] using hb
    exact hgs.2)
   have hwc:=HF.out.size;refine ⟨⟨_,rfl⟩,_,⟨t,p,_,hp,FT,FH,hfin,fun _=>Iff.rfl⟩,?_,?_⟩
   · refine HF.out.trans hfE fun b hb e=>?_
     have h1:F1 b:=(HF1.out b).2 (by
      rcases e with e | e
      · exact .inl e
      exact .inr (.inr (.inr (.inl e))))
     rcases HN.out b h1 with h | h
     · exact h
     omega
   have old:∀ b,F1 b->F b\/w.heap.size<=b:=fun b hb=>by
    rcases HN.out b hb with h | h
    · exact .inl h
    exact .inr (by omega)
   rintro b (e | e | e | e | e)
   · exact old b ((HF1.out b).2 (.inl e))
   · exact old b ((HF1.out b).2 (.inr (.inl e)))
   · exact old b ((HF1.out b).2 (.inr (.inr (.inl e))))
   · obtain rfl:g1=b:=by simpa [Value.ownBlock] using e
     rcases hgs.2 with h | h
     · exact old _ ((HF1.out _).2 (.inr (.inr (.inr (.inl h)))))
     exact .inr (by omega)
   exact old b ((HF1.out b).2 (.inr (.inr (.inr (.inr e)))))
def toOf (key end_:ByteArray):ByteArray:=if end_.toList.isEmpty then key++⟨#[0]⟩ else if end_.toList == [0] then ByteArray.empty else end_
def oneL (S:St) (rev:Int) (p:ByteArray × Int):Option Kv:=match S.past p.2 with
 | some H=>if (hadH H rev).2 then some (hadH H rev).1 else none
 | none=>none
def zan (S:St) (R:Pairs) (rev:Int):List Kv:=R.filterMap (oneL S rev)
def zba (S:St) (key end_:ByteArray) (rev:Int):List Kv:=zan S (rangeT S.T key (toOf key end_)) rev
theorem info57:(Tryz.prog.info? 99).map (fun i=>(i.zero,i.size,i.bytes))=some (some (.agg #[.string ByteArray.empty,.string ByteArray.empty,.int .i64 0,.int .i64 0,.int .i64 0,.int .i64 0]),6,64):=by kernel_rfl
theorem zgr {T:Pairs} {a b:ByteArray} {p:ByteArray × Int} (h:p∈rangeT T a b):p∈T:=(List.mem_filter.1 h).1
set_option maxHeartbeats 4000000 in
theorem zgj {TA:zar} {N:Nat} (hT:TreeOk TA N) {n:Nat} (hn:n<=1099511627) (w:World) (s:Nat) (S:St) (F:Nat->Prop) (hS:zak TA w s S F) (hok:StOk n S) (hN:S.T.length<=1099511627) (key end_:ByteArray) (rev:Int) (hks:key.size<=1099511627776) :
 Calls Tryz.prog 88 #[.pointer (some ⟨s,0,none⟩),.string key,.string end_,.int .i64 rev] w fun e w'=>∃ v,e = .returned v/\SlF w' 99 6 kvC v (zba S key end_ rev)/\Fr No w w'/\(∀ b,v.ownBlock=some b->w.heap.size<=b):=by
 have hhad:=fun W hW at_ H hH=>zik hT hn W s S F hW hok at_ rev H hH;have hSA:=H_ hS;obtain ⟨t,p,ev,hp,FT,FH,a,hF⟩:=hS;have c0:=a.obj.cell 0 rfl;have l1:=a.obj.lt;have HT:=H_ a.tree;have HLen:=H_ fun W hW=>hT.len (w:=W) (t:=t) (T:=S.T) (F:=FT) hW;have hrange:=fun W to1 hW=>hT.range (w:=W) (t:=t) (T:=S.T) (F:=FT) key to1 hW;have HH:=H_ hhad;have HOk:=H_ hok.id;obtain ⟨i0,hi0,hz0,hz1,hz2⟩:=info_parts info57;have hlenR:∀ to1,(rangeT S.T key to1).length<=S.T.length:=fun to1=>List.length_filter_le _ _
 have hto:(end_.toList.isEmpty=true/\toOf key end_=key++⟨#[0]⟩)\/(end_.toList.isEmpty=false/\(end_.toList == [0])=true/\toOf key end_=⟨#[]⟩)\/(end_.toList.isEmpty=false/\(end_.toList == [0])=false/\toOf key end_=end_):=by
  unfold toOf;have he:ByteArray.empty=⟨#[]⟩:=rfl;rw [he];cases h1:end_.toList.isEmpty
  · cases h2:(end_.toList == [0])
    · exact .inr (.inr ⟨rfl,rfl,by simp⟩)
    exact .inr (.inl ⟨rfl,rfl,by simp⟩)
  exact .inl ⟨rfl,by simp⟩
 have hks':¬ 9223372036854775807 < key.size+1:=by omega
 clear a hhad hks;have HF0:Fr No w w:=Fr.refl No w;have HX:∃ X,toOf key end_=X/\((end_.toList.isEmpty=true/\X=key++⟨#[0]⟩)\/(end_.toList.isEmpty=false/\(end_.toList == [0])=true/\X=⟨#[]⟩)\/(end_.toList.isEmpty=false/\(end_.toList == [0])=false/\X=end_)):=⟨_,rfl,hto⟩;obtain ⟨X,hX,hto⟩:=HX;unfold zba;rw [hX];have hRl:=hlenR X;have hRm:∀ q∈rangeT S.T key X,q∈S.T:=fun q hq=>zgr hq;have hrX:=fun W hW=>hrange W X hW;generalize rangeT S.T key X=R at hRl hRm hrX ⊢
 have HRM:=H_ hRm;have HRange:=H_ hrX;clear hlenR hrange hRm hrX hX;rcases hto with ⟨h1,hX2⟩ | ⟨h1,h2,hX2⟩ | ⟨h1,h2,hX2⟩
 all_goals
  have HX2:=H_ hX2;clear hX2;go_enter Tryz.func88,Tryz.ntmps88;go_wp2_with fail;have hS0:w.drew.cell? ⟨s,0,none⟩=some (.pointer (some ⟨t,0,none⟩)):=c0
  go_region_held (fun W=>W.cell? ⟨s,0,none⟩=some (.pointer (some ⟨t,0,none⟩)))
   (first | assumption | exact hf2.cell0 c0)
   (first
     | (go_at_call 61;refine (HLen.out _ (hT.fr HT.out (Fr.refl No w).drew (fun _ _ s=>s))).mono ?_;rintro e w' ⟨rfl,rfl⟩)
     | (go_at_call 60;(first | rw [<-HX2.out] | skip);refine (HRange.out _ (hT.fr HT.out (Fr.refl No w).drew (fun _ _ s=>s))).mono ?_;rintro e w2 ⟨v,rfl,hv,hf1,hvn⟩
        have hf2:Fr No w w2:=(Fr.refl No w).drew.trans0 hf1;obtain ⟨va,vcap,rfl,hc1,hc2,hva⟩:=hv.shape;have HV:=H_ hv;have HVA:=H_ hva;clear hv hva))
  clear hS0;have l2:=hf2.size;go_wp2_with fail
  go_loopg [36,10] R.length (fun g s36 s10 wr=>∃ (i:Nat) (o:Value),s36 = .int .i64 i/\s10=o/\i+g=R.length/\Hid (SlF wr 99 6 kvC o (zan S (R.take i) rev))/\Fr No w wr/\w2.heap.size<=wr.heap.size/\Hid (∀ b,o.ownBlock=some b->w2.heap.size<=b)/\Hid (Fr No w2 wr))
  case atStart=>exact ⟨0,_,rfl,rfl,by simp,H_ (SlF.nil _ _ _ _),hf2,Nat.le_refl _,H_ (by simp [Value.ownBlock]),H_ (Fr.refl _ _)⟩
  case round =>
   obtain ⟨i,o,rfl,rfl,hi,HO,hfr,hsz,HOn,HF2⟩:=hrel
   cases gk with
   | zero =>
     have hil:¬ (i:Int) < (R.length:Int):=(by omega);go_wp2;go_ret;have e1:=HO.out;rw [List.take_of_length_le (by omega)] at e1;exact ⟨_,rfl,e1,hfr,fun b hb=>by have:=HOn.out b hb;omega⟩
   | succ g =>
     have hil:(i:Int) < (R.length:Int):=(by omega);obtain ⟨q,hq⟩:∃ q,R[i]? = some q:=⟨_,List.getElem?_eq_getElem (by omega)⟩;obtain ⟨H,hH⟩:=HOk.out q (HRM.out q (List.mem_of_getElem? hq));obtain ⟨gb,go,rfl⟩:=HVA.out (by omega);have hVr:=HV.out.fr0 HF2.out;have x0:=hVr.cell0 zae i hq rfl;have x1:=hVr.cell zae i 1 hq rfl;have hone:oneL S rev q=if (hadH H rev).2 then some (hadH H rev).1 else none:=(by unfold oneL;rw [hH])
     have hstep:zan S (R.take (i+1)) rev=zan S (R.take i) rev++(oneL S rev q).toList:=by
      unfold zan;rw [List.take_add_one,hq,List.filterMap_append];cases h:oneL S rev q <;> simp [h]
     have HST:=H_ hstep;have HON:=H_ hone;have HPH:=H_ hH;have HQ:=H_ hq;clear hstep hone hH hq hVr;rcases hr:hadH H rev with ⟨⟨r1,r2,r3,r4,r5,r6⟩,rb⟩
     rw [hr] at HON;have HR:=H_ hr;clear hr;obtain ⟨o1,o2,rfl,ho1,ho2,ho3⟩:=HO.out.shape;clear ho3;have hob:(zan S (R.take i) rev).length<=R.length:=Nat.le_trans (List.length_filterMap_le _ _) (by simp;omega);have hi5:0<=(i:Int)+1:=(by omega);cases rb
     · have HE:Hid (zan S (R.take (i+1)) rev=zan S (R.take i) rev):=H_ (by rw [HST.out,HON.out];simp)
       clear HST HON
       go_wp2_with (go_at_call 62;refine (HH.out _ (hSA.out.fr0 hT (hfr.alloc _)) q.2 H HPH.out).mono ?_;rintro e w3 ⟨rfl,hf3⟩
                    have hf4:Fr No wr w3:=((Fr.refl No wr).alloc _).trans0 hf3;rw [HR.out];unfold zce kvV)
       go_roundg g
       case rel =>
        have hf5:Fr No wr (w3.alloc (Obj.cells #[Value.string r1,Value.string r2,Value.int .i64 r3,Value.int .i64 r4,Value.int .i64 r5,Value.int .i64 r6] 99)):=hf4.alloc _;exact ⟨i+1,_,by go_num,rfl,by omega,H_ (by rw [HE.out];exact HO.out.fr0 hf5),hfr.trans0 hf5,Nat.le_trans hsz hf5.size,HOn,H_ (HF2.out.trans0 hf5)⟩
       case measure=>omega
     have HE:Hid (zan S (R.take (i+1)) rev=zan S (R.take i) rev++[⟨r1,r2,r3,r4,r5,r6⟩]):=H_ (by rw [HST.out,HON.out];simp)
     clear HST HON
     go_wp2_with (first
      | (go_at_call 62;refine (HH.out _ (hSA.out.fr0 hT (hfr.alloc _)) q.2 H HPH.out).mono ?_;rintro e w3 ⟨rfl,hf3⟩
         have hf4:Fr No wr w3:=((Fr.refl No wr).alloc _).trans0 hf3;have hnew:=zay (w3.alloc (.cells [Value.string r1,.string r2,.int .i64 r3,.int .i64 r4,.int .i64 r5,.int .i64 r6].toArray 99)) [Value.string r1,.string r2,.int .i64 r3,.int .i64 r4,.int .i64 r5,.int .i64 r6] 99 (0,0);rw [HR.out];unfold zce kvV)
      | (at_builtin;refine zas rfl _ _ 27 rfl 99 i0 _ 6 64 Tryz.underlying27 hi0 hz0 hz1 hz2 rfl (by decide) _ (zan S (R.take i) rev) rfl (((HO.out.fr0 hf4).alloc _).alloc _) (w3.heap.size+1) 1 (⟨r1,r2,r3,r4,r5,r6⟩:Kv) rfl (by simpa [kvC] using hnew) rfl ?c1 ?c2 ?c3 ?_))
     case c1=>intro u hu;simp [kvC] at hu;rcases hu with rfl | rfl | rfl | rfl | rfl | rfl <;> rfl
     case c2=>unfold maxLen;omega
     case c3=>omega
     intro g1 o' cap w4 hs4 hg4 hb4 hlt4;have hlen4:(zan S (R.take i) rev++[(⟨r1,r2,r3,r4,r5,r6⟩:Kv)]).length=(zan S (R.take i) rev).length+1:=(by simp);have hfA:Fr No w w4:=(((hfr.trans0 hf4).alloc _).alloc _).grown hg4 fun k hk=>.inr (by have:=HOn.out k hk;omega);have hfB:Fr No w2 w4:=(((HF2.out.trans0 hf4).alloc _).alloc _).grown hg4 fun k hk=>.inr (HOn.out k hk)
     have hg1:w2.heap.size<=g1:=by
      rcases hb4 with e | e
      · exact HOn.out _ e
      have:=hf4.size;try simp at e
      omega
     have H4:=H_ hs4;have HL4:=H_ hlen4;clear hs4 hlen4 hg4 hb4 hnew;go_wp2;go_roundg g
     case rel =>
      exact ⟨i+1,_,by go_num,rfl,by omega,H_ (by rw [HE.out];exact H4.out),hfA,hfB.size,H_ (fun b hb=>by simp [Value.ownBlock] at hb;omega),H_ hfB⟩
     case measure=>omega
end Go.Proofs.YthljnnjpmdgkoaaGreat