/- Own lemmas and contracts that the claim's proof needs, laid together. The conditions stand in each. -/
import Derived.Test.YthljnnjpmdgkoaaN10
import Derived.Test.YthljnnjpmdgkoaaN01
import Derived.Test.YthljnnjpmdgkoaaN15
import Derived.Test.YthljnnjpmdgkoaaProg
import Derived.Laws.RangeString
import Derived.Lib.Bytealg
import Derived.Lib.RuneCount
import Derived.BigQuiet
namespace Go.Proofs.Ythljnnjpmdgkoaa
open Go Go.Proofs Go.RowKit
set_option maxRecDepth 100000
def sign3 (s:ByteArray):Bool:=decide (3<=s.size) && ((s.extract 0 3).toList == [239,191,189])
theorem zhx (w:World) (s:ByteArray):Calls Try.prog 151 #[.string s,.string ⟨#[239,191,189]⟩] w fun e w'=>e = .returned (.bool (sign3 s))/\w=w':=by
 by_cases h:3<=s.size
 · have hz:(3:Int)<=(s.size:Int):=by omega
   have hd:sign3 s=((s.extract 0 3).toList == [239,191,189]):=(by unfold sign3;simp [h]);rw [hd];go_enter Try.func151,Try.ntmps151;go_wp2;go_ret;exact ⟨rfl,rfl⟩
 have hz:¬ (3:Int)<=(s.size:Int):=by omega
 have hd:sign3 s=false:=(by unfold sign3;simp [h]);rw [hd];go_enter Try.func151,Try.ntmps151;go_wp2;go_ret;exact ⟨rfl,rfl⟩
theorem zgh (w:World) (s:ByteArray):Calls Try.prog 140 #[.string s,.string ⟨#[239,191,189]⟩] w fun e w'=>e = .returned (.bool (sign3 s))/\w=w':=by
 go_enter Try.func140,Try.ntmps140;go_wp2_with (go_at_call 151;refine (zhx _ _).mono ?_;rintro e w' ⟨rfl,rfl⟩);go_ret;exact ⟨rfl,rfl⟩
def zgo (s:ByteArray) (i:Nat):Bool:=(Utf8.decode s i).1 == 65533 && !sign3 (s.extract i s.size)
theorem zlo (w:World) (s:ByteArray) (i r:Nat) (hi:i<=s.size):Calls Try.prog 121 #[.string s,.int .i64 i,.int .i32 r] w fun e w'=>e = .returned (.bool (r == 65533 && !sign3 (s.extract i s.size)))/\w=w':=by
 have hiz:(i:Int)<=(s.size:Int):=by omega
 have h1:((r:Int) == 65533)=(r == 65533):=by rw [Bool.eq_iff_iff,beq_iff_eq,beq_iff_eq];omega
 by_cases h:r=65533
 · subst h
   go_enter Try.func121,Try.ntmps121;go_wp2_with (go_at_call 140;refine (zgh _ _).mono ?_;rintro e w' ⟨rfl,rfl⟩);go_ret;exact ⟨by simp,rfl⟩
 have h2:(r == 65533)=false:=by simpa using h
 rw [h2] at h1;go_enter Try.func121,Try.ntmps121;go_wp2;go_ret;exact ⟨by rw [h2];rfl,rfl⟩
def runesK (s:ByteArray):Nat->Nat->Int->Int
 | 0,_,n=>n
 | g+1,i,n=>if i < s.size then (if zgo s i then -1 else runesK s g (i+(Utf8.decode s i).2) (n+1)) else n
def runes (s:ByteArray):Int:=runesK s s.size 0 0
theorem zli (s:ByteArray) (i:Nat) (h:i < s.size):1<=(Utf8.decode s i).2/\i+(Utf8.decode s i).2<=s.size:=by
 refine ⟨Go.Lib.decode_width_pos s i h,?_⟩;unfold Utf8.decode;simp only
 repeat' split
 all_goals simp_all
 all_goals omega
theorem zhb (s:ByteArray):∀ (g i:Nat) (n:Int) (g':Nat),s.size<=i+g->g<=g'->runesK s g' i n=runesK s g i n
 | 0,i,n,g',h,_=>by
   cases g' with
   | zero=>rfl
   | succ g'=>unfold runesK;rw [if_neg (by omega)]
 | g+1,i,n,g',h,hg=>by
   cases g' with
   | zero=>omega
   | succ g' =>
     unfold runesK;by_cases hi:i < s.size
     · rw [if_pos hi,if_pos hi]
       cases zgo s i
       · simp only [Bool.false_eq_true,if_false]
         have:=(zli s i hi).1;exact zhb s g _ _ g' (by omega) (by omega)
       rfl
     rw [if_neg hi,if_neg hi]
theorem zgg (w:World) (s:ByteArray):Calls Try.prog 122 #[.string s,.int .u8 0] w fun e w'=>e = .returned (.int .i64 (firstIdx s 0))/\w=w':=by
 have hx:∀ W,(callFunc 141 #[.string s,.int .u8 0]).run Try.prog W = .ok (.value (.int .i64 (firstIdx s 0))) W:=by
  intro W;rw [run_callFunc_extern (e:=Extern.BytealgIndexByte.indexByte) Try.func141 (by kernel_rfl) (by kernel_rfl) (by kernel_rfl) (by kernel_rfl),run_indexByte_string]
  rfl
 go_enter Try.func122,Try.ntmps122;go_wp2;go_ret;exact ⟨rfl,rfl⟩
theorem zhw (w:World) (s:ByteArray):Calls Try.prog 93 #[.string s,.int .u8 0] w fun e w'=>e = .returned (.int .i64 (firstIdx s 0))/\w=w':=by
 go_enter Try.func93,Try.ntmps93;go_wp2_with (go_at_call 122;refine (zgg _ _).mono ?_;rintro e w' ⟨rfl,rfl⟩);go_ret;exact ⟨rfl,rfl⟩
theorem zlv {P:Program} (w:World) (b:Nat) (s:ByteArray) (pos:Nat) (ty:TypeId) (hb:w.heap[b]? = some (.stringIter s pos)) (h:pos < s.size) :
 (Instr.next (.pointer (some ⟨b,0,none⟩)) true ty).run P w =
   .ok (.tuple #[.bool true,.int .i64 pos,.int .i32 (Utf8.decode s pos).1]) (ChangeMaps.setBlock w b (.stringIter s (pos+(Utf8.decode s pos).2))):=by
 simp [Instr.next,getObj,setObj,Sem.run,Result.andThen,hb,h,goInt,ChangeMaps.setBlock]
theorem zjg {P:Program} (w:World) (b:Nat) (s:ByteArray) (pos:Nat) (ty:TypeId) (hb:w.heap[b]? = some (.stringIter s pos)) (h:¬ pos < s.size) :
 (Instr.next (.pointer (some ⟨b,0,none⟩)) true ty).run P w = .ok (.tuple #[.bool false]) w:=by
 simp [Instr.next,getObj,Sem.run,hb,h]
theorem zoj (w:World) (b k:Nat) (o:Obj) (h:k≠b):(ChangeMaps.setBlock w b o).heap[k]? = w.heap[k]?:=by
 unfold ChangeMaps.setBlock;exact Array.getElem?_setIfInBounds_ne (fun e=>h e.symm)
theorem ztd (w:World) (b:Nat) (o:Obj) (h:b < w.heap.size):(ChangeMaps.setBlock w b o).heap[b]? = some o:=by
 unfold ChangeMaps.setBlock;simp [h]
theorem zna (w:World) (s:ByteArray) (hs:s.size<=1099511627776):Calls Try.prog 92 #[.string s] w fun e w'=>e = .returned (.int .i64 (runes s))/\Fr No w w':=by
 go_enter Try.func92,Try.ntmps92;go_wp2
 go_loopg [3] s.size (fun g s3 wr=>∃ (pos:Nat) (n:Int),s3 = .int .i64 n/\pos+g=s.size/\0<=n/\n<=pos/\Hid (runesK s g pos n=runes s)/\Hid (wr.heap[w.heap.size]? = some (.stringIter s pos))/\Hid (Fr No w wr))
 case atStart=>exact ⟨0,0,rfl,by simp,by omega,by omega,H_ rfl,H_ (World.iter_heap _ _ _),H_ ((Fr.refl No w).alloc _)⟩
 case round =>
  obtain ⟨pos,n,rfl,hg,hn0,hn1,HK,HB,HF⟩:=hrel;by_cases hp:pos < s.size
  · have hnx:=fun ty=>zlv (P:=Try.prog) wr w.heap.size s pos ty HB.out hp
    have hd:=zli s pos hp
    have hfw:Fr No w (ChangeMaps.setBlock wr w.heap.size (.stringIter s (pos+(Utf8.decode s pos).2))) :=
     ⟨HF.out.os,HF.out.tape,HF.out.output,by have:=HF.out.size;simpa [ChangeMaps.setBlock] using this,fun k hk hS=>(zoj wr _ k _ (by omega)).trans (HF.out.block k hk hS)⟩
    have hbw:=ztd wr w.heap.size (.stringIter s (pos+(Utf8.decode s pos).2)) (zab HB.out)
    have hstep:runesK s gk pos n=if zgo s pos then -1 else runesK s (s.size - (pos+(Utf8.decode s pos).2)) (pos+(Utf8.decode s pos).2) (n+1):=by
     obtain ⟨k,rfl⟩:∃ k,gk=k+1:=⟨gk - 1,by omega⟩
     conv=>lhs;unfold runesK
     rw [if_pos hp]
     congr 1
     exact zhb s _ _ _ _ (by omega) (by omega)
    have HFW:=H_ hfw;have HBW:=H_ hbw;have hwr:=fun W=>zlo W s pos (Utf8.decode s pos).1 (by omega);have hwa:((Utf8.decode s pos).1 == 65533 && !sign3 (s.extract pos s.size))=zgo s pos:=rfl;simp only [hwa] at hwr;generalize ChangeMaps.setBlock wr w.heap.size (.stringIter s (pos+(Utf8.decode s pos).2))=W1 at *;generalize Utf8.decode s pos=d at *;clear hfw hbw hwa;cases hw:zgo s pos
    · rw [hw] at hstep hwr
      have HS:=H_ hstep;clear hstep hw;go_wp2_with (go_at_call 121;refine (hwr _).mono ?_;rintro e w' ⟨rfl,rfl⟩);go_roundg (s.size - (pos+d.2))
      case rel=>exact ⟨pos+d.2,n+1,rfl,by omega,by omega,by omega,H_ (by rw [<-HK.out,HS.out];simp),HBW,HFW⟩
      case measure=>omega
    rw [hw] at hstep hwr
    have HS:=H_ hstep;clear hstep hw;go_wp2_with (go_at_call 121;refine (hwr _).mono ?_;rintro e w' ⟨rfl,rfl⟩);go_ret;exact ⟨by rw [<-HK.out,HS.out];rfl,HFW.out⟩
  have hnx:=fun ty=>zjg (P:=Try.prog) wr w.heap.size s pos ty HB.out hp
  have hend:runesK s gk pos n=n:=by
   obtain rfl:gk=0:=by omega
   rfl
  have HE:=H_ hend;clear hend;go_wp2;go_ret;exact ⟨by rw [<-HK.out,HE.out];rfl,HF.out⟩
def keyE (s:ByteArray):Int:=if runes s < 1\/0<=firstIdx s 0 then 30 else if 64 < s.size then 31 else 0
theorem zfi (w:World) (s:ByteArray) (hs:s.size<=1099511627776):Calls Try.prog 58 #[.string s] w fun e w'=>e = .returned (.int .i64 (keyE s))/\Fr No w w':=by
 have hr:=fun W=>zna W s hs;have hx:=fun W=>zhw W s;have hb:0<=runes s\/runes s < 0:=by omega
 unfold keyE;generalize runes s=r at *;generalize firstIdx s 0=x at *;by_cases h1:r < 1
 · have h1':¬ 1<=r:=by omega
   rw [if_pos (.inl h1)];go_enter Try.func58,Try.ntmps58;go_wp2_with (first | (go_at_call 92;refine (hr _).mono ?_;rintro e w1 ⟨rfl,hf⟩) | (go_at_call 93;refine (hx _).mono ?_;rintro e w' ⟨rfl,rfl⟩));go_ret;exact ⟨rfl,hf⟩
 by_cases h2:0<=x
 · rw [if_pos (.inr h2)]
   go_enter Try.func58,Try.ntmps58;go_wp2_with (first | (go_at_call 92;refine (hr _).mono ?_;rintro e w1 ⟨rfl,hf⟩) | (go_at_call 93;refine (hx _).mono ?_;rintro e w' ⟨rfl,rfl⟩));go_ret;exact ⟨rfl,hf⟩
 rw [if_neg (by omega)]
 by_cases h3:64 < s.size
 · have h3':(64:Int) < (s.size:Int):=by omega
   rw [if_pos h3];go_enter Try.func58,Try.ntmps58;go_wp2_with (first | (go_at_call 92;refine (hr _).mono ?_;rintro e w1 ⟨rfl,hf⟩) | (go_at_call 93;refine (hx _).mono ?_;rintro e w' ⟨rfl,rfl⟩));go_ret;exact ⟨rfl,hf⟩
 have h3':¬ (64:Int) < (s.size:Int):=by omega
 rw [if_neg h3];go_enter Try.func58,Try.ntmps58;go_wp2_with (first | (go_at_call 92;refine (hr _).mono ?_;rintro e w1 ⟨rfl,hf⟩) | (go_at_call 93;refine (hx _).mono ?_;rintro e w' ⟨rfl,rfl⟩));go_ret;exact ⟨rfl,hf⟩
structure Rg where
 key:ByteArray
 end_:ByteArray
 rev:Int
 limit:Int
 keys:Bool
 count:Bool
 desc:Bool
def rgV (g:Rg):Value:=.agg #[.string g.key,.string g.end_,.int .i64 g.rev,.int .i64 g.limit,.bool g.keys,.bool g.count,.bool g.desc]
def rgC (g:Rg):List Value:=[.string g.key,.string g.end_,.int .i64 g.rev,.int .i64 g.limit,.bool g.keys,.bool g.count,.bool g.desc]
structure Opr where
 kind:Int
 rg:Rg
 value:ByteArray
 lease:Int
def opV (o:Opr):Value:=.agg #[.int .i64 o.kind,.string o.rg.key,.string o.rg.end_,.int .i64 o.rg.rev,.int .i64 o.rg.limit,.bool o.rg.keys,.bool o.rg.count,.bool o.rg.desc,.string o.value,.int .i64 o.lease]
def opC (o:Opr):List Value:=.int .i64 o.kind :: (rgC o.rg++[.string o.value,.int .i64 o.lease])
theorem zad (o:Opr):(opC o).length=10:=rfl
def askE (g:Rg):Int:=if keyE g.key≠0 then keyE g.key else if 64 < g.end_.size then 31 else if g.rev < 0\/g.limit < 0 then 1 else 0
theorem zjc (w:World) (g:Rg) (hs:g.key.size<=1099511627776):Calls Try.prog 22 #[rgV g] w fun e w'=>e = .returned (.int .i64 (askE g))/\Fr No w w':=by
 have hk:=fun W=>zfi W g.key hs;obtain ⟨g1,g2,g3,g4,g5,g6,g7⟩:=g;unfold askE rgV;dsimp only at *;generalize keyE g1=k at *;clear hs;by_cases h1:k≠0
 · have h1':(k == 0)=false:=by simpa using h1
   rw [if_pos h1];go_enter Try.func22,Try.ntmps22;go_wp2_with (go_at_call 58;refine (hk _).mono ?_;rintro e w1 ⟨rfl,hf⟩);go_ret;exact ⟨rfl,((Fr.refl No w).alloc _).trans0 hf⟩
 have h1':(k == 0)=true:=by simpa using h1
 rw [if_neg h1];by_cases h2:64 < g2.size
 · have h2':(64:Int) < (g2.size:Int):=by omega
   rw [if_pos h2];go_enter Try.func22,Try.ntmps22
   go_wp2_with (go_at_call 58;refine (hk _).mono ?_;rintro e w1 ⟨rfl,hf⟩
                have hb:w1.heap[w.heap.size]? = some (.cells #[.string g1,.string g2,.int .i64 g3,.int .i64 g4,.bool g5,.bool g6,.bool g7] 38 (0,0)):=hf.heap (zac _ _ _ rfl) id;have x1:w1.cell? ⟨w.heap.size,1,none⟩=some (.string g2):=cellAt hb 1 rfl)
   go_ret;exact ⟨rfl,((Fr.refl No w).alloc _).trans0 hf⟩
 have h2':¬ (64:Int) < (g2.size:Int):=by omega
 rw [if_neg h2];by_cases h3:g3 < 0
 · have h3':¬ 0<=g3:=by omega
   rw [if_pos (.inl h3)];go_enter Try.func22,Try.ntmps22
   go_wp2_with (go_at_call 58;refine (hk _).mono ?_;rintro e w1 ⟨rfl,hf⟩
                have hb:w1.heap[w.heap.size]? = some (.cells #[.string g1,.string g2,.int .i64 g3,.int .i64 g4,.bool g5,.bool g6,.bool g7] 38 (0,0)):=hf.heap (zac _ _ _ rfl) id;have x1:w1.cell? ⟨w.heap.size,1,none⟩=some (.string g2):=cellAt hb 1 rfl;have x2:w1.cell? ⟨w.heap.size,2,none⟩=some (.int .i64 g3):=cellAt hb 2 rfl)
   go_ret;exact ⟨rfl,((Fr.refl No w).alloc _).trans0 hf⟩
 by_cases h4:g4 < 0
 · have h4':¬ 0<=g4:=by omega
   rw [if_pos (.inr h4)];go_enter Try.func22,Try.ntmps22
   go_wp2_with (go_at_call 58;refine (hk _).mono ?_;rintro e w1 ⟨rfl,hf⟩
                have hb:w1.heap[w.heap.size]? = some (.cells #[.string g1,.string g2,.int .i64 g3,.int .i64 g4,.bool g5,.bool g6,.bool g7] 38 (0,0)):=hf.heap (zac _ _ _ rfl) id;have x1:w1.cell? ⟨w.heap.size,1,none⟩=some (.string g2):=cellAt hb 1 rfl;have x2:w1.cell? ⟨w.heap.size,2,none⟩=some (.int .i64 g3):=cellAt hb 2 rfl;have x3:w1.cell? ⟨w.heap.size,3,none⟩=some (.int .i64 g4):=cellAt hb 3 rfl)
   go_ret;exact ⟨rfl,((Fr.refl No w).alloc _).trans0 hf⟩
 rw [if_neg (by omega)]
 go_enter Try.func22,Try.ntmps22
 go_wp2_with (go_at_call 58;refine (hk _).mono ?_;rintro e w1 ⟨rfl,hf⟩
              have hb:w1.heap[w.heap.size]? = some (.cells #[.string g1,.string g2,.int .i64 g3,.int .i64 g4,.bool g5,.bool g6,.bool g7] 38 (0,0)):=hf.heap (zac _ _ _ rfl) id;have x1:w1.cell? ⟨w.heap.size,1,none⟩=some (.string g2):=cellAt hb 1 rfl;have x2:w1.cell? ⟨w.heap.size,2,none⟩=some (.int .i64 g3):=cellAt hb 2 rfl;have x3:w1.cell? ⟨w.heap.size,3,none⟩=some (.int .i64 g4):=cellAt hb 3 rfl)
 go_ret;exact ⟨rfl,((Fr.refl No w).alloc _).trans0 hf⟩
def oneE (o:Opr):Int :=
 if o.kind=3 then askE o.rg else if o.kind=2 then askE ⟨o.rg.key,o.rg.end_,0,0,false,false,false⟩
 else if o.kind=1 then (if keyE o.rg.key≠0 then keyE o.rg.key else if 1024 < o.value.size then 31 else if 0<=o.lease then 0 else 1) else 1
theorem zqn (w:World) (o:Opr) (hs:o.rg.key.size<=1099511627776):Calls Try.prog 52 #[opV o] w fun e w'=>e = .returned (.int .i64 (oneE o))/\Fr No w w':=by
 have hk:=fun W=>zfi W o.rg.key hs;have ha:=fun W=>zjc W o.rg hs;have hb:=fun W=>zjc W ⟨o.rg.key,o.rg.end_,0,0,false,false,false⟩ hs;obtain ⟨o1,⟨g1,g2,g3,g4,g5,g6,g7⟩,o2,o3⟩:=o;unfold oneE opV;unfold rgV at *;dsimp only at *;generalize keyE g1=k at *;generalize askE _=a at *;generalize askE _=b at *;have HK:=H_ hk;have HA:=H_ ha;have HB:=H_ hb;clear hs hk ha hb;by_cases h1:o1=3
 · have h1':(o1 == 3)=true:=by simpa using h1
   rw [if_pos h1];go_enter Try.func52,Try.ntmps52;go_wp2_with (go_at_call 22;refine (HA.out _).mono ?_;rintro e w1 ⟨rfl,hf⟩);go_ret;exact ⟨rfl,((Fr.refl No w).alloc _).trans0 hf⟩
 have h1':(o1 == 3)=false:=by simpa using h1
 rw [if_neg h1];by_cases h2:o1=2
 · have h2':(o1 == 2)=true:=by simpa using h2
   rw [if_pos h2];go_enter Try.func52,Try.ntmps52;go_wp2_with (go_at_call 22;refine (HB.out _).mono ?_;rintro e w1 ⟨rfl,hf⟩);go_ret;exact ⟨rfl,((Fr.refl No w).alloc _).trans0 hf⟩
 have h2':(o1 == 2)=false:=by simpa using h2
 rw [if_neg h2];by_cases h3:o1=1
 · rw [if_pos h3]
   subst h3;clear h1 h2 h1' h2';by_cases h4:k≠0
   · have h4':(k == 0)=false:=by simpa using h4
     rw [if_pos h4];go_enter Try.func52,Try.ntmps52;go_wp2_with (go_at_call 58;refine (HK.out _).mono ?_;rintro e w1 ⟨rfl,hf⟩);go_ret;exact ⟨rfl,((Fr.refl No w).alloc _).trans0 hf⟩
   have h4':(k == 0)=true:=by simpa using h4
   rw [if_neg h4];by_cases h5:1024 < o2.size
   · have h5':(1024:Int) < (o2.size:Int):=by omega
     rw [if_pos h5];go_enter Try.func52,Try.ntmps52
     go_wp2_with (go_at_call 58;refine (HK.out _).mono ?_;rintro e w1 ⟨rfl,hf⟩
                  have hb:w1.heap[w.heap.size]? = some (.cells #[.int .i64 1,.string g1,.string g2,.int .i64 g3,.int .i64 g4,.bool g5,.bool g6,.bool g7,.string o2,.int .i64 o3] 87 (0,0)):=hf.heap (zac _ _ _ rfl) id;have x8:w1.cell? ⟨w.heap.size,8,none⟩=some (.string o2):=cellAt hb 8 rfl)
     go_ret;exact ⟨rfl,((Fr.refl No w).alloc _).trans0 hf⟩
   have h5':¬ (1024:Int) < (o2.size:Int):=by omega
   rw [if_neg h5];by_cases h6:0<=o3
   · rw [if_pos h6]
     go_enter Try.func52,Try.ntmps52
     go_wp2_with (go_at_call 58;refine (HK.out _).mono ?_;rintro e w1 ⟨rfl,hf⟩
                  have hb:w1.heap[w.heap.size]? = some (.cells #[.int .i64 1,.string g1,.string g2,.int .i64 g3,.int .i64 g4,.bool g5,.bool g6,.bool g7,.string o2,.int .i64 o3] 87 (0,0)):=hf.heap (zac _ _ _ rfl) id;have x8:w1.cell? ⟨w.heap.size,8,none⟩=some (.string o2):=cellAt hb 8 rfl;have x9:w1.cell? ⟨w.heap.size,9,none⟩=some (.int .i64 o3):=cellAt hb 9 rfl)
     go_ret;exact ⟨rfl,((Fr.refl No w).alloc _).trans0 hf⟩
   rw [if_neg h6]
   go_enter Try.func52,Try.ntmps52
   go_wp2_with (go_at_call 58;refine (HK.out _).mono ?_;rintro e w1 ⟨rfl,hf⟩
                have hb:w1.heap[w.heap.size]? = some (.cells #[.int .i64 1,.string g1,.string g2,.int .i64 g3,.int .i64 g4,.bool g5,.bool g6,.bool g7,.string o2,.int .i64 o3] 87 (0,0)):=hf.heap (zac _ _ _ rfl) id;have x8:w1.cell? ⟨w.heap.size,8,none⟩=some (.string o2):=cellAt hb 8 rfl;have x9:w1.cell? ⟨w.heap.size,9,none⟩=some (.int .i64 o3):=cellAt hb 9 rfl)
   go_ret;exact ⟨rfl,((Fr.refl No w).alloc _).trans0 hf⟩
 have h3':(o1 == 1)=false:=by simpa using h3
 rw [if_neg h3];go_enter Try.func52,Try.ntmps52;go_wp2;go_ret;exact ⟨rfl,(Fr.refl No w).alloc _⟩
def inB (key frm end_:ByteArray):Bool :=
 if end_.toList.isEmpty then key.toList == frm.toList else if end_.toList == [0] then !Op.bytesLess key.toList frm.toList else !Op.bytesLess key.toList frm.toList && Op.bytesLess key.toList end_.toList
theorem zsy (w:World) (key frm end_:ByteArray):Calls Try.prog 54 #[.string key,.string frm,.string end_] w fun e w'=>e = .returned (.bool (inB key frm end_))/\w=w':=by
 unfold inB;cases h1:end_.toList.isEmpty
 · cases h2:(end_.toList == [0])
   · cases h3:Op.bytesLess key.toList frm.toList <;>
     · go_enter Try.func54,Try.ntmps54
       go_wp2;go_ret;exact ⟨by simp,rfl⟩
   go_enter Try.func54,Try.ntmps54
   go_wp2;go_ret;exact ⟨by simp,rfl⟩
 go_enter Try.func54,Try.ntmps54
 go_wp2;go_ret;exact ⟨by simp,rfl⟩
theorem zlg {w X:World} {b:Nat} {a0 a1 a2 a3 a4 a5 a6 a7 a8 a9 a10 a11 a12:Value} (hk:X.heap[b]? = some (.cells #[a0,a1,a2,a3,a4,a5,a6,a7,a8,a9,a10,a11,a12] 73 (0,0))) (r:Ev) :
 ∃ Z,(((((((((((((X.setCell ⟨b,0,none⟩ (.int .i64 r.kind)).setCell ⟨b,1,none⟩ (.string r.kv.key)).setCell ⟨b,2,none⟩ (.string r.kv.value)).setCell ⟨b,3,none⟩ (.int .i64 r.kv.create)).setCell ⟨b,4,none⟩ (.int .i64 r.kv.mod)).setCell ⟨b,5,none⟩ (.int .i64 r.kv.version)).setCell ⟨b,6,none⟩ (.int .i64 r.kv.lease)).setCell ⟨b,7,none⟩ (.string r.prev.key)).setCell ⟨b,8,none⟩ (.string r.prev.value)).setCell ⟨b,9,none⟩ (.int .i64 r.prev.create)).setCell ⟨b,10,none⟩ (.int .i64 r.prev.mod)).setCell ⟨b,11,none⟩ (.int .i64 r.prev.version)).setCell ⟨b,12,none⟩ (.int .i64 r.prev.lease))=Z ∧
  Z.heap[b]? = some (.cells #[.int .i64 r.kind,.string r.kv.key,.string r.kv.value,.int .i64 r.kv.create,.int .i64 r.kv.mod,.int .i64 r.kv.version,.int .i64 r.kv.lease,.string r.prev.key,.string r.prev.value,.int .i64 r.prev.create,.int .i64 r.prev.mod,.int .i64 r.prev.version,.int .i64 r.prev.lease] 73 (0,0))/\(Fr No w X->w.heap.size<=b->Fr No w Z):=by
 have z0:=zaa hk 0 (.int .i64 r.kind);have z1:=zaa z0 1 (.string r.kv.key);have z2:=zaa z1 2 (.string r.kv.value);have z3:=zaa z2 3 (.int .i64 r.kv.create);have z4:=zaa z3 4 (.int .i64 r.kv.mod);have z5:=zaa z4 5 (.int .i64 r.kv.version);have z6:=zaa z5 6 (.int .i64 r.kv.lease);have z7:=zaa z6 7 (.string r.prev.key);have z8:=zaa z7 8 (.string r.prev.value);have z9:=zaa z8 9 (.int .i64 r.prev.create);have z10:=zaa z9 10 (.int .i64 r.prev.mod);have z11:=zaa z10 11 (.int .i64 r.prev.version);have z12:=zaa z11 12 (.int .i64 r.prev.lease)
 have hfZ:=((((((((((((((Fr.refl (fun x=>x=b) X).setAt 0 (.int .i64 r.kind)).setAt 1 (.string r.kv.key)).setAt 2 (.string r.kv.value)).setAt 3 (.int .i64 r.kv.create)).setAt 4 (.int .i64 r.kv.mod)).setAt 5 (.int .i64 r.kv.version)).setAt 6 (.int .i64 r.kv.lease)).setAt 7 (.string r.prev.key)).setAt 8 (.string r.prev.value)).setAt 9 (.int .i64 r.prev.create)).setAt 10 (.int .i64 r.prev.mod)).setAt 11 (.int .i64 r.prev.version)).setAt 12 (.int .i64 r.prev.lease));clear z0 z1 z2 z3 z4 z5 z6 z7 z8 z9 z10 z11
 generalize (((((((((((((X.setCell ⟨b,0,none⟩ (.int .i64 r.kind)).setCell ⟨b,1,none⟩ (.string r.kv.key)).setCell ⟨b,2,none⟩ (.string r.kv.value)).setCell ⟨b,3,none⟩ (.int .i64 r.kv.create)).setCell ⟨b,4,none⟩ (.int .i64 r.kv.mod)).setCell ⟨b,5,none⟩ (.int .i64 r.kv.version)).setCell ⟨b,6,none⟩ (.int .i64 r.kv.lease)).setCell ⟨b,7,none⟩ (.string r.prev.key)).setCell ⟨b,8,none⟩ (.string r.prev.value)).setCell ⟨b,9,none⟩ (.int .i64 r.prev.create)).setCell ⟨b,10,none⟩ (.int .i64 r.prev.mod)).setCell ⟨b,11,none⟩ (.int .i64 r.prev.version)).setCell ⟨b,12,none⟩ (.int .i64 r.prev.lease))=Z at *;refine ⟨Z,rfl,?_,fun hf hb=>hf.trans hfZ fun j hj e=>?_⟩
 · rw [z12];simp
 have e':j=b:=e
 omega
def zaq (S:St) (o:Opr) (rev:Int):Ev :=
 ⟨1,⟨o.rg.key,o.value,if (livesS S o.rg.key rev).1.version=0 then rev else (livesS S o.rg.key rev).1.create,rev,(livesS S o.rg.key rev).1.version+1,o.lease⟩,(livesS S o.rg.key rev).1⟩
set_option maxHeartbeats 2000000 in
theorem zjj {TA:zan} {N:Nat} (hT:TreeOk TA N) {n:Nat} (hn:n<=1099511627) (w:World) (s:Nat) (S:St) (F:Nat->Prop) (hS:zaj TA w s S F) (hok:StOk n S) (o:Opr) (rev:Int)
 (hv0:0<=(livesS S o.rg.key rev).1.version) (hv1:(livesS S o.rg.key rev).1.version<=top) :
 Calls Try.prog 76 #[.pointer (some ⟨s,0,none⟩),opV o,.int .i64 rev] w fun e w'=>e = .returned (evV (zaq S o rev))/\Fr No w w':=by
 have hl:=fun W hW=>zhn hT hn W s S F hW hok o.rg.key rev;obtain ⟨o1,⟨g1,g2,g3,g4,g5,g6,g7⟩,o2,o3⟩:=o;have HS:=H_ hS;have HL:=H_ hl;unfold zaq opV;dsimp only at *;rcases hr:livesS S g1 rev with ⟨⟨r1,r2,r3,r4,r5,r6⟩,rb⟩
 rw [hr] at hv0 hv1;unfold top at hv1;have HR:=H_ hr;clear hS hl hr hok;dsimp only at *;have hv2:r5+1<=1099511627777:=by omega
 by_cases hz:r5=0
 · subst hz
   go_enter Try.func76,Try.ntmps76
   go_wp2_with (go_at_call 79;refine (HL.out _ ((HS.out.fr0 hT ((Fr.refl No w).alloc _)).fr0 hT ((Fr.refl No _).alloc _))).mono ?_;rintro e w1 ⟨rfl,hf1⟩
                rw [HR.out];unfold zby kvV;have hf2:Fr No w w1:=(((Fr.refl No w).alloc _).alloc _).trans0 hf1;have hb:w1.heap[w.heap.size]? = some (.cells #[.int .i64 o1,.string g1,.string g2,.int .i64 g3,.int .i64 g4,.bool g5,.bool g6,.bool g7,.string o2,.int .i64 o3] 87 (0,0)):=hf1.heap (zae (zac _ _ _ rfl) _) id;have he:w1.heap[w.heap.size+1]? = some (.cells #[.int .i64 0,.string ByteArray.empty,.string ByteArray.empty,.int .i64 0,.int .i64 0,.int .i64 0,.int .i64 0,.string ByteArray.empty,.string ByteArray.empty,.int .i64 0,.int .i64 0,.int .i64 0,.int .i64 0] 73 (0,0)):=hf1.heap (zac _ _ _ (by simp)) id;have x1:w1.cell? ⟨w.heap.size,1,none⟩=some (.string g1):=cellAt hb 1 rfl;have x8:w1.cell? ⟨w.heap.size,8,none⟩=some (.string o2):=cellAt hb 8 rfl
                have x9:w1.cell? ⟨w.heap.size,9,none⟩=some (.int .i64 o3):=cellAt hb 9 rfl;obtain ⟨k0,k1,k2,k3,k4,k5,k6,k7,k8,k9,k10,k11,k12⟩:=cells13 he;have kf:∀ i,w1.frozen? ⟨w.heap.size+1,i,none⟩=false:=fun i=>by simp [World.frozen?,he]
                have hl0:w.heap.size < w1.heap.size:=zab hb;have hl1:w.heap.size+1 < w1.heap.size:=zab he)
   obtain ⟨Z,hZ,z6,hzf⟩:=zlg (w:=w) he ⟨1,⟨g1,o2,rev,rev,1,o3⟩,⟨r1,r2,r3,r4,0,r6⟩⟩;dsimp only at hZ z6;rw [hZ];exact bodyPost_ret (results_cell_row rfl _ _ (w.heap.size+1) 73 _ (0,0) _ rfl (zae (zae z6 _) _) Try.underlying73 rfl (by kernel_rfl)) rfl ⟨by first | rfl | (rw [if_neg hz];rfl),((hzf hf2 (by omega)).alloc _).alloc _⟩
 have hz':(r5 == 0)=false:=by simpa using hz
 go_enter Try.func76,Try.ntmps76
 go_wp2_with (go_at_call 79;refine (HL.out _ ((HS.out.fr0 hT ((Fr.refl No w).alloc _)).fr0 hT ((Fr.refl No _).alloc _))).mono ?_;rintro e w1 ⟨rfl,hf1⟩
              rw [HR.out];unfold zby kvV;have hf2:Fr No w w1:=(((Fr.refl No w).alloc _).alloc _).trans0 hf1;have hb:w1.heap[w.heap.size]? = some (.cells #[.int .i64 o1,.string g1,.string g2,.int .i64 g3,.int .i64 g4,.bool g5,.bool g6,.bool g7,.string o2,.int .i64 o3] 87 (0,0)):=hf1.heap (zae (zac _ _ _ rfl) _) id;have he:w1.heap[w.heap.size+1]? = some (.cells #[.int .i64 0,.string ByteArray.empty,.string ByteArray.empty,.int .i64 0,.int .i64 0,.int .i64 0,.int .i64 0,.string ByteArray.empty,.string ByteArray.empty,.int .i64 0,.int .i64 0,.int .i64 0,.int .i64 0] 73 (0,0)):=hf1.heap (zac _ _ _ (by simp)) id;have x1:w1.cell? ⟨w.heap.size,1,none⟩=some (.string g1):=cellAt hb 1 rfl;have x8:w1.cell? ⟨w.heap.size,8,none⟩=some (.string o2):=cellAt hb 8 rfl
              have x9:w1.cell? ⟨w.heap.size,9,none⟩=some (.int .i64 o3):=cellAt hb 9 rfl;obtain ⟨k0,k1,k2,k3,k4,k5,k6,k7,k8,k9,k10,k11,k12⟩:=cells13 he;have kf:∀ i,w1.frozen? ⟨w.heap.size+1,i,none⟩=false:=fun i=>by simp [World.frozen?,he]
              have hl0:w.heap.size < w1.heap.size:=zab hb;have hl1:w.heap.size+1 < w1.heap.size:=zab he)
 obtain ⟨Z,hZ,z6,hzf⟩:=zlg (w:=w) he ⟨1,⟨g1,o2,r3,rev,r5+1,o3⟩,⟨r1,r2,r3,r4,r5,r6⟩⟩;dsimp only at hZ z6;rw [hZ];exact bodyPost_ret (results_cell_row rfl _ _ (w.heap.size+1) 73 _ (0,0) _ rfl (zae (zae z6 _) _) Try.underlying73 rfl (by kernel_rfl)) rfl ⟨by first | rfl | (rw [if_neg hz];rfl),((hzf hf2 (by omega)).alloc _).alloc _⟩
end Go.Proofs.Ythljnnjpmdgkoaa