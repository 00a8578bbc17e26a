/- Own lemmas. -/
import Derived.Test.YthljnnjpmdgkoaaGreatI38
import Derived.Test.YthljnnjpmdgkoaaGreatI29
import Derived.Test.YthljnnjpmdgkoaaGreatI37
import Derived.Laws.IdiomStrings
import Derived.Deep.RegionHeld3
import Derived.Deep.DeepCutAuto
namespace Go.Proofs.YthljnnjpmdgkoaaGreat
open Go Go.Proofs Go.RowKit
theorem znc (a R:List UInt8) (b:Bool) (ha:a.length=8):rdN (a++R,b)=((R,b),numR a):=by
 unfold rdN;dsimp only;rw [if_neg (by rw [List.length_append];omega),List.drop_left' ha,List.take_left' ha]
theorem KvM.len {N:Nat} {x:Kv} (h:KvM N x):(kvB x).length<=2 * N+48:=by
 obtain ⟨c,d,_⟩:=h;have a:x.key.data.toList.length=x.key.size:=Array.length_toList;have b:x.value.data.toList.length=x.value.size:=Array.length_toList;unfold kvB txtB;simp only [List.length_append,zam,a,b];omega
theorem EvM.len {N:Nat} {x:Ev} (h:EvM N x):(evB x).length<=4 * N+104:=by
 have a:=h.2.1.len;have b:=h.2.2.len;unfold evB;simp only [List.length_append,zam];omega
theorem zvw {D:Doc} (hlen:(docB D).length<=3000000) (hrev:D.rev<=1000) (h0:0<=D.mark) (hm:D.mark<=D.rev) (i:Nat) (c:UInt8) {g k:Nat} {s':Rd} {r m:Int} {ks:List Kv} {es:List Ev}
 (hst:StW rdW g k ((docB D).set i c,false) 0 0 [] [] s' r m ks es) (hb:s'.2=false) :
 DocN64 ⟨r,m,ks,es⟩/\(m<=r->r<=1099511627776->m<=1099510000000)/\(stB r m ks es).length<=140737488355328:=by
 obtain ⟨f,d,p,q,l⟩:=hst.reads (N:=3000000) (by rw [List.length_set];exact hlen);have s:=l hb;refine ⟨⟨fun x hx=>?_,fun x hx=>?_,fun x hx=>?_,fun x hx=>?_,by dsimp only;omega⟩,fun b _=>?_,?_⟩
 · obtain ⟨_,_,_,b,j,_⟩:=f x hx
   exact ⟨b.2,j.2⟩
 · obtain ⟨_,⟨_,_,_,b,_⟩,⟨_,_,_,j,n,_⟩⟩:=d x hx
   exact ⟨b.1,b.2,j.2,n.2⟩
 · have:=(f x hx).1
   omega
 · have:=(d x hx).2.1.1
   have:=(d x hx).2.2.1;omega
 · have e:r=(rdN ((docB D).set i c,false)).2:=hst.e1
   have a:m=(rdN (rdN ((docB D).set i c,false)).1).2:=hst.e2;obtain ⟨R,o⟩:∃ R,docB D=numB D.rev++(numB D.mark++R):=⟨_,by unfold docB stB;simp only [List.append_assoc];rfl⟩;rw [o,List.set_append] at e a;by_cases h8:i<(numB D.rev).length
   · rw [if_pos h8,znc _ _ _ (by rw [List.length_set];exact zam _)] at a
     dsimp only at a;rw [znc _ _ _ (zam _)] at a;dsimp only at a;rw [zkh (by omega) (by omega)] at a;omega
   rw [if_neg h8,znc _ _ _ (zam _)] at e
   dsimp only at e;rw [zkh (by omega) (by omega)] at e;omega
 have t:=zbs kvB 6000048 ks fun x hx=>(f x hx).len
 have u:=zbs evB 12000104 es fun x hx=>(d x hx).len;unfold stB;simp only [List.length_append,zam];omega
set_option maxRecDepth 100000
def u8C (c:UInt8):List Value:=[.int .u8 c.toNat]
theorem zdy (n:Int) (k:Nat) (u:UInt8) (hu:(numB n)[k]?=some u):(numB n).take (k+1)=(numB n).take k++[u]:=by
 rw [List.take_add_one,hu]
 rfl
theorem u8_at (n:Int) (Q:Nat):u8C (UInt8.ofNat ((n % 18446744073709551616).toNat / Q % 256)) = [.int .u8 (IntKind.u64.wrap n / (Q:Int) % 256)]:=by
 unfold u8C;rw [zfk,IntKind.wrap_u64];have h:0<=n % 18446744073709551616:=by omega
 obtain ⟨m,a⟩:=Int.eq_ofNat_of_zero_le h;rw [a]
 rfl
theorem zuc {w:World} {v:Value} {l:List UInt8} (h:SlF w 5 1 u8C v l) (h0:0<l.length):(convert 90 9 v).run Tryz.prog w=.ok (.string ⟨l.toArray⟩) w:=by
 obtain ⟨a,cap,rfl,_,_,c⟩:=h.shape;obtain ⟨g,o,rfl⟩:=c h0;refine run_convert_bytes_back (P:=Tryz.prog) _ 90 9 5 ⟨g,o,none⟩ cap l Tryz.underlying90 Tryz.underlying5 Tryz.underlying9 fun j hj=>?_;have b:w.cell? ⟨g,o+j * 1,none⟩=some (.int .u8 l[j].toNat):=SlF.cell0 (f:=u8C) (fun _=>rfl) h j (List.getElem?_eq_getElem hj) rfl
 have e:(⟨g,o,none⟩:Addr).add j=⟨g,o+j * 1,none⟩:=by
  unfold Addr.add;by_cases h:j=0
  · simp [h]
  simp [h]
 rw [e,b]
theorem zdw {w:World} {v:Value} {L:List Value} (h:L = [v]):∀ j x,L[j]?=some x->(w.alloc (Obj.cells #[v] 5)).cell? ((⟨w.heap.size,0,none⟩:Addr).add j)=some x:=by
 subst h;intro j x a
 match j,a with
 | 0,a =>
   obtain rfl:v=x:=by simpa using a
   exact cellAt (zad w _ _ rfl) 0 rfl
set_option maxHeartbeats 8000000 in
theorem zbf (w:World) (n:Int):Calls Tryz.prog 90 #[.int .i64 n] w fun e w'=>e=.returned (.string ⟨(numB n).toArray⟩)/\Fr No w w':=by
 obtain ⟨D,C,l,m,p⟩:=info_parts infoU8;go_enter Tryz.func90,Tryz.ntmps90;go_wp2_with fail
 go_loopg [4,5] 8 (fun g8 s4 s5 wr=>∃ (k:Nat) (O:List UInt8),s5=.int .i64 (7-(k:Int))/\k+g8=8/\Hid (O=(numB n).take k)/\Hid (SlF wr 5 1 u8C s4 O)/\Hid (Fr No w wr)/\Hid (∀ x,s4.ownBlock=some x->w.heap.size<=x))
 case atStart=>exact ⟨0,[],rfl,rfl,H_ rfl,H_ (SlF.nil _ _ _ _),H_ (Fr.refl No w),H_ (by simp [Value.ownBlock])⟩
 case round =>
  obtain ⟨k,O,rfl,I,y,A,z,B⟩:=hrel
  cases gk with
  | zero =>
    have H:k=8:=(by omega);subst H;have F:=y.out;rw [List.take_of_length_le (by rw [zam];omega)] at F;have G:=zuc A.out (by rw [F,zam];decide);rw [F] at G;clear F;go_wp2_with fail;go_ret;exact ⟨rfl,z.out⟩
  | succ q =>
    have j:=H_ (zsy n);have b:Hid (O.length<=8):=H_ (by rw [y.out,List.length_take];omega);rcases (show k=0\/k=1\/k=2\/k=3\/k=4\/k=5\/k=6\/k=7 by omega) with rfl | rfl | rfl | rfl | rfl | rfl | rfl | rfl
    · have a:(numB n)[0]?=some (UInt8.ofNat ((n % 18446744073709551616).toNat / 72057594037927936 % 256)):=by rw [j.out];rfl
      have i:=u8_at n 72057594037927936;generalize UInt8.ofNat ((n % 18446744073709551616).toNat / 72057594037927936 % 256)=u at *;have c:=H_ (zdy n 0 u a);have r:=H_ i;clear a i;go_wp2_with (at_builtin;refine zcr rfl _ _ 90 rfl 5 D _ 1 1 Tryz.underlying90 C l m p rfl (by decide) _ O rfl (A.out.alloc _) w B.out (z.out.alloc _) wr.heap.size 1 u rfl (zdw r.out) rfl (by intro u a;simp [u8C] at a;subst a;rfl) (by have:=b.out;unfold maxLen;omega) (by have:=b.out;omega) ?_);rintro g o cap E f s d t;go_wp2;go_roundg q
      case rel=>exact ⟨1,O++[u],by go_num,by omega,H_ (by rw [c.out,y.out]),H_ f,H_ d,H_ (by intro x v;simp [Value.ownBlock] at v;omega)⟩
      case measure=>omega
    · have a:(numB n)[1]?=some (UInt8.ofNat ((n % 18446744073709551616).toNat / 281474976710656 % 256)):=by rw [j.out];rfl
      have i:=u8_at n 281474976710656;generalize UInt8.ofNat ((n % 18446744073709551616).toNat / 281474976710656 % 256)=u at *;have c:=H_ (zdy n 1 u a);have r:=H_ i;clear a i;go_wp2_with (at_builtin;refine zcr rfl _ _ 90 rfl 5 D _ 1 1 Tryz.underlying90 C l m p rfl (by decide) _ O rfl (A.out.alloc _) w B.out (z.out.alloc _) wr.heap.size 1 u rfl (zdw r.out) rfl (by intro u a;simp [u8C] at a;subst a;rfl) (by have:=b.out;unfold maxLen;omega) (by have:=b.out;omega) ?_);rintro g o cap E f s d t;go_wp2;go_roundg q
      case rel=>exact ⟨2,O++[u],by go_num,by omega,H_ (by rw [c.out,y.out]),H_ f,H_ d,H_ (by intro x v;simp [Value.ownBlock] at v;omega)⟩
      case measure=>omega
    · have a:(numB n)[2]?=some (UInt8.ofNat ((n % 18446744073709551616).toNat / 1099511627776 % 256)):=by rw [j.out];rfl
      have i:=u8_at n 1099511627776;generalize UInt8.ofNat ((n % 18446744073709551616).toNat / 1099511627776 % 256)=u at *;have c:=H_ (zdy n 2 u a);have r:=H_ i;clear a i;go_wp2_with (at_builtin;refine zcr rfl _ _ 90 rfl 5 D _ 1 1 Tryz.underlying90 C l m p rfl (by decide) _ O rfl (A.out.alloc _) w B.out (z.out.alloc _) wr.heap.size 1 u rfl (zdw r.out) rfl (by intro u a;simp [u8C] at a;subst a;rfl) (by have:=b.out;unfold maxLen;omega) (by have:=b.out;omega) ?_);rintro g o cap E f s d t;go_wp2;go_roundg q
      case rel=>exact ⟨3,O++[u],by go_num,by omega,H_ (by rw [c.out,y.out]),H_ f,H_ d,H_ (by intro x v;simp [Value.ownBlock] at v;omega)⟩
      case measure=>omega
    · have a:(numB n)[3]?=some (UInt8.ofNat ((n % 18446744073709551616).toNat / 4294967296 % 256)):=by rw [j.out];rfl
      have i:=u8_at n 4294967296;generalize UInt8.ofNat ((n % 18446744073709551616).toNat / 4294967296 % 256)=u at *;have c:=H_ (zdy n 3 u a);have r:=H_ i;clear a i;go_wp2_with (at_builtin;refine zcr rfl _ _ 90 rfl 5 D _ 1 1 Tryz.underlying90 C l m p rfl (by decide) _ O rfl (A.out.alloc _) w B.out (z.out.alloc _) wr.heap.size 1 u rfl (zdw r.out) rfl (by intro u a;simp [u8C] at a;subst a;rfl) (by have:=b.out;unfold maxLen;omega) (by have:=b.out;omega) ?_);rintro g o cap E f s d t;go_wp2;go_roundg q
      case rel=>exact ⟨4,O++[u],by go_num,by omega,H_ (by rw [c.out,y.out]),H_ f,H_ d,H_ (by intro x v;simp [Value.ownBlock] at v;omega)⟩
      case measure=>omega
    · have a:(numB n)[4]?=some (UInt8.ofNat ((n % 18446744073709551616).toNat / 16777216 % 256)):=by rw [j.out];rfl
      have i:=u8_at n 16777216;generalize UInt8.ofNat ((n % 18446744073709551616).toNat / 16777216 % 256)=u at *;have c:=H_ (zdy n 4 u a);have r:=H_ i;clear a i;go_wp2_with (at_builtin;refine zcr rfl _ _ 90 rfl 5 D _ 1 1 Tryz.underlying90 C l m p rfl (by decide) _ O rfl (A.out.alloc _) w B.out (z.out.alloc _) wr.heap.size 1 u rfl (zdw r.out) rfl (by intro u a;simp [u8C] at a;subst a;rfl) (by have:=b.out;unfold maxLen;omega) (by have:=b.out;omega) ?_);rintro g o cap E f s d t;go_wp2;go_roundg q
      case rel=>exact ⟨5,O++[u],by go_num,by omega,H_ (by rw [c.out,y.out]),H_ f,H_ d,H_ (by intro x v;simp [Value.ownBlock] at v;omega)⟩
      case measure=>omega
    · have a:(numB n)[5]?=some (UInt8.ofNat ((n % 18446744073709551616).toNat / 65536 % 256)):=by rw [j.out];rfl
      have i:=u8_at n 65536;generalize UInt8.ofNat ((n % 18446744073709551616).toNat / 65536 % 256)=u at *;have c:=H_ (zdy n 5 u a);have r:=H_ i;clear a i;go_wp2_with (at_builtin;refine zcr rfl _ _ 90 rfl 5 D _ 1 1 Tryz.underlying90 C l m p rfl (by decide) _ O rfl (A.out.alloc _) w B.out (z.out.alloc _) wr.heap.size 1 u rfl (zdw r.out) rfl (by intro u a;simp [u8C] at a;subst a;rfl) (by have:=b.out;unfold maxLen;omega) (by have:=b.out;omega) ?_);rintro g o cap E f s d t;go_wp2;go_roundg q
      case rel=>exact ⟨6,O++[u],by go_num,by omega,H_ (by rw [c.out,y.out]),H_ f,H_ d,H_ (by intro x v;simp [Value.ownBlock] at v;omega)⟩
      case measure=>omega
    · have a:(numB n)[6]?=some (UInt8.ofNat ((n % 18446744073709551616).toNat / 256 % 256)):=by rw [j.out];rfl
      have i:=u8_at n 256;generalize UInt8.ofNat ((n % 18446744073709551616).toNat / 256 % 256)=u at *;have c:=H_ (zdy n 6 u a);have r:=H_ i;clear a i;go_wp2_with (at_builtin;refine zcr rfl _ _ 90 rfl 5 D _ 1 1 Tryz.underlying90 C l m p rfl (by decide) _ O rfl (A.out.alloc _) w B.out (z.out.alloc _) wr.heap.size 1 u rfl (zdw r.out) rfl (by intro u a;simp [u8C] at a;subst a;rfl) (by have:=b.out;unfold maxLen;omega) (by have:=b.out;omega) ?_);rintro g o cap E f s d t;go_wp2;go_roundg q
      case rel=>exact ⟨7,O++[u],by go_num,by omega,H_ (by rw [c.out,y.out]),H_ f,H_ d,H_ (by intro x v;simp [Value.ownBlock] at v;omega)⟩
      case measure=>omega
    have a:(numB n)[7]?=some (UInt8.ofNat ((n % 18446744073709551616).toNat / 1 % 256)):=by rw [j.out];rfl
    have i:=u8_at n 1;generalize UInt8.ofNat ((n % 18446744073709551616).toNat / 1 % 256)=u at *;rw [show ((1:Nat):Int)=1 from rfl,Int.ediv_one] at i;have c:=H_ (zdy n 7 u a);have r:=H_ i;clear a i;go_wp2_with (at_builtin;refine zcr rfl _ _ 90 rfl 5 D _ 1 1 Tryz.underlying90 C l m p rfl (by decide) _ O rfl (A.out.alloc _) w B.out (z.out.alloc _) wr.heap.size 1 u rfl (zdw r.out) rfl (by intro u a;simp [u8C] at a;subst a;rfl) (by have:=b.out;unfold maxLen;omega) (by have:=b.out;omega) ?_);rintro g o cap E f s d t;go_wp2;go_roundg q
    case rel=>exact ⟨8,O++[u],by go_num,by omega,H_ (by rw [c.out,y.out]),H_ f,H_ d,H_ (by intro x v;simp [Value.ownBlock] at v;omega)⟩
    case measure=>omega
theorem zhn (w:World) (t:ByteArray) (ht:t.size<=1000000000000):Calls Tryz.prog 133 #[.string t] w fun e w'=>e=.returned (.string ⟨(txtB t).toArray⟩)/\Fr No w w':=by
 have a:=zbf w t.size;have d:=zaz (numB t.size);rw [zam] at d;have f:(⟨(numB t.size).toArray⟩:ByteArray)++t=⟨(txtB t).toArray⟩:=zny _ _;generalize (⟨(numB t.size).toArray⟩:ByteArray)=B at *;generalize (⟨(txtB t).toArray⟩:ByteArray)=C at *;have b:=H_ a;clear a;go_enter Tryz.func133,Tryz.ntmps133;go_wp2_with (go_at_call 90;(with_reducible refine b.out.mono ?_);rintro e w1 ⟨rfl,c⟩);go_ret;exact ⟨rfl,c⟩
set_option maxHeartbeats 8000000 in
theorem zgv (w:World) (x:Kv) (h1:x.key.size<=1000000000000) (h2:x.value.size<=1000000000000):Calls Tryz.prog 91 #[.agg (kvC x).toArray] w fun e w'=>e=.returned (.string ⟨(kvB x).toArray⟩)/\Fr No w w':=by
 have t1:=fun W=>zhn W x.key h1;have t2:=fun W=>zhn W x.value h2;have Q:=fun W=>zbf W x.create;have S:=fun W=>zbf W x.mod;have T:=fun W=>zbf W x.version;have U:=fun W=>zbf W x.lease;have e1:=zbz (txtB x.key) (txtB x.value);have e2:=zbz (txtB x.key++txtB x.value) (numB x.create);have e3:=zbz (txtB x.key++txtB x.value++numB x.create) (numB x.mod);have e4:=zbz (txtB x.key++txtB x.value++numB x.create++numB x.mod) (numB x.version);have e5:_=(⟨(kvB x).toArray⟩:ByteArray):=zbz (txtB x.key++txtB x.value++numB x.create++numB x.mod++numB x.version) (numB x.lease);have V:=zaz (txtB x.key);have X:=zaz (txtB x.value);have Y:=zaz (txtB x.key++txtB x.value);have Z:=zaz (numB x.create);have s5:=zaz (txtB x.key++txtB x.value++numB x.create);have s6:=zaz (numB x.mod)
 have s7:=zaz (txtB x.key++txtB x.value++numB x.create++numB x.mod);have s8:=zaz (numB x.version);have s9:=zaz (txtB x.key++txtB x.value++numB x.create++numB x.mod++numB x.version);have s:=zaz (numB x.lease);simp only [List.length_append,zam,zmv] at V X Y Z s5 s6 s7 s8 s9 s;generalize (⟨(kvB x).toArray⟩:ByteArray)=R at *;generalize (⟨(txtB x.key++txtB x.value++numB x.create++numB x.mod++numB x.version).toArray⟩:ByteArray)=N at *;generalize (⟨(txtB x.key++txtB x.value++numB x.create++numB x.mod).toArray⟩:ByteArray)=M at *;generalize (⟨(txtB x.key++txtB x.value++numB x.create).toArray⟩:ByteArray)=P2 at *;generalize (⟨(txtB x.key++txtB x.value).toArray⟩:ByteArray)=P1 at *;generalize (⟨(txtB x.key).toArray⟩:ByteArray)=C at *;generalize (⟨(txtB x.value).toArray⟩:ByteArray)=D at *
 generalize (⟨(numB x.create).toArray⟩:ByteArray)=E at *;generalize (⟨(numB x.mod).toArray⟩:ByteArray)=F at *;generalize (⟨(numB x.version).toArray⟩:ByteArray)=G at *;generalize (⟨(numB x.lease).toArray⟩:ByteArray)=H at *;have u1:¬ (9223372036854775807<C.size+D.size):=by omega
 have an:¬ ((9223372036854775807:Int)<(C.size:Int)+(D.size:Int)):=by omega
 have u2:¬ (9223372036854775807<P1.size+E.size):=by omega
 have ao:¬ ((9223372036854775807:Int)<(P1.size:Int)+(E.size:Int)):=by omega
 have u3:¬ (9223372036854775807<P2.size+F.size):=by omega
 have ap:¬ ((9223372036854775807:Int)<(P2.size:Int)+(F.size:Int)):=by omega
 have u4:¬ (9223372036854775807<M.size+G.size):=by omega
 have aq:¬ ((9223372036854775807:Int)<(M.size:Int)+(G.size:Int)):=by omega
 have u5:¬ (9223372036854775807<N.size+H.size):=by omega
 have ar:¬ ((9223372036854775807:Int)<(N.size:Int)+(H.size:Int)):=by omega
 clear V X Y Z s5 s6 s7 s8 s9 s;obtain ⟨d,f,g,i,j,k⟩:=x;unfold kvC;dsimp only at *;have O:=H_ t1;have P:=H_ t2;have I:=H_ Q;have J:=H_ S;have K:=H_ T;have L:=H_ U;clear t1 t2 Q S T U
 have b:Hid (∀ W,Fr No (w.alloc (Obj.cells #[.string d,.string f,.int .i64 g,.int .i64 i,.int .i64 j,.int .i64 k] 99)) W->W.cell? ⟨w.heap.size,0,none⟩=some (.string d)/\W.cell? ⟨w.heap.size,1,none⟩=some (.string f)/\W.cell? ⟨w.heap.size,2,none⟩=some (.int .i64 g)/\W.cell? ⟨w.heap.size,3,none⟩=some (.int .i64 i)/\W.cell? ⟨w.heap.size,4,none⟩=some (.int .i64 j)/\W.cell? ⟨w.heap.size,5,none⟩=some (.int .i64 k)):=H_ fun W hW=>by
  have a:=hW.heap (zad w (Obj.cells #[.string d,.string f,.int .i64 g,.int .i64 i,.int .i64 j,.int .i64 k] 99) _ rfl) id;exact ⟨cellAt a 0 rfl,cellAt a 1 rfl,cellAt a 2 rfl,cellAt a 3 rfl,cellAt a 4 rfl,cellAt a 5 rfl⟩
 have r:Fr No w (w.alloc (Obj.cells #[.string d,.string f,.int .i64 g,.int .i64 i,.int .i64 j,.int .i64 k] 99)):=(Fr.refl No w).alloc _;have B:=H_ r;clear r;go_enter Tryz.func91,Tryz.ntmps91;go_upto_region 1 with fail;have ae:w.heap.size<(w.alloc (Obj.cells #[.string d,.string f,.int .i64 g,.int .i64 i,.int .i64 j,.int .i64 k] 99)).heap.size:=by simp
 generalize w.alloc (Obj.cells #[.string d,.string f,.int .i64 g,.int .i64 i,.int .i64 j,.int .i64 k] 99)=c at *;have q0:=b.out c (Fr.refl No c);have q1:=b.out c.drew (Fr.refl No c).drew;have A:Hid (Fr No c c.drew):=H_ (Fr.refl No c).drew
 go_region_held3 (fun W=>W.cell? ⟨w.heap.size,0,none⟩=some (.string d)/\W.cell? ⟨w.heap.size,1,none⟩=some (.string f)/\W.cell? ⟨w.heap.size,2,none⟩=some (.int .i64 g)/\W.cell? ⟨w.heap.size,3,none⟩=some (.int .i64 i)/\W.cell? ⟨w.heap.size,4,none⟩=some (.int .i64 j)/\W.cell? ⟨w.heap.size,5,none⟩=some (.int .i64 k))
  (first | with_reducible exact q0 | with_reducible exact q1 | with_reducible exact qa | with_reducible exact qb | with_reducible exact qc | with_reducible exact qd | with_reducible exact qe | with_reducible exact qf | fail)
  (first
    | (go_at_call 133;(with_reducible refine (O.out _).mono ?_);rintro e wa ⟨rfl,l⟩
       have t:=A.out.trans0 l;have qa:=b.out _ t;have la:=t.size;have Fa:=H_ t;clear t l O)
    | (go_at_call 133;(with_reducible refine (P.out _).mono ?_);rintro e wb ⟨rfl,m⟩
       have a:=Fa.out.trans0 m;have qb:=b.out _ a;have lb:=a.size;have Fb:=H_ a;clear a m P)
    | (go_at_call 90;(with_reducible refine (I.out _).mono ?_);rintro e wc ⟨rfl,n⟩
       have u:=Fb.out.trans0 n;have qc:=b.out _ u;have lc:=u.size;have Fc:=H_ u;clear u n I)
    | (go_at_call 90;(with_reducible refine (J.out _).mono ?_);rintro e wd ⟨rfl,o⟩
       have v:=Fc.out.trans0 o;have qd:=b.out _ v;have ld:=v.size;have Fd:=H_ v;clear v o J)
    | (go_at_call 90;(with_reducible refine (K.out _).mono ?_);rintro e we ⟨rfl,p⟩
       have y:=Fd.out.trans0 p;have qe:=b.out _ y;have le:=y.size;have Fe:=H_ y;clear y p K)
    | (go_at_call 90;(with_reducible refine (L.out _).mono ?_);rintro e wf ⟨rfl,q⟩
       have z:=Fe.out.trans0 q;have qf:=b.out _ z;have lf:=z.size;have Ff:=H_ z;clear z q L))
 all_goals
  go_wp2;go_ret;exact ⟨rfl,B.out.trans0 Ff.out⟩
set_option maxHeartbeats 4000000 in
theorem zoz (w:World) (ks:List UInt8) (hl:ks.length<=140737488355328):Calls Tryz.prog 44 #[.string ⟨ks.toArray⟩] w fun e w'=>e=.returned (.int .u64 (sumL ks))/\Fr No w w':=by
 have f:=zaz ks
 have a:∀ (k:Nat) (h:k<(⟨ks.toArray⟩:ByteArray).size),(⟨ks.toArray⟩:ByteArray)[k]=ks[k]?.getD 0:=fun k h=>by
  rw [zaz] at h;rw [List.getElem?_eq_getElem h]
  rfl
 generalize (⟨ks.toArray⟩:ByteArray)=B at *;go_enter Tryz.func44,Tryz.ntmps44;go_wp2_with fail
 go_loopg [3,4] ks.length (fun q s3 s4 wr=>∃ k:Nat,s3=.int .u64 (sumL (ks.take k))/\s4=.int .i64 k/\k+q=ks.length/\wr=w)
 case atStart=>exact ⟨0,rfl,rfl,by simp,rfl⟩
 case round =>
  obtain ⟨k,rfl,rfl,g,rfl⟩:=hrel
  cases gk with
  | zero =>
    have d:¬ (k:Int)<(ks.length:Int):=(by omega);have c:ks.take k=ks:=List.take_of_length_le (by omega);rw [c];go_wp2_with fail;go_ret;exact ⟨rfl,Fr.refl _ _⟩
  | succ q =>
    have d:(k:Int)<(ks.length:Int):=(by omega);have b:=H_ (zor (ks:=ks) (k:=k) (by omega));go_wp2_with fail;go_roundg q
    case rel=>exact ⟨k+1,by rw [b.out];unfold sumS;rw [<-a k (by omega)],by go_num,by omega,rfl⟩
    case measure=>omega
def preK (D:Doc) (i:Nat):List UInt8:=numB D.rev++numB D.mark++numB D.kvs.length++(D.kvs.take i).flatMap kvB
def preE (D:Doc) (i:Nat):List UInt8:=numB D.rev++numB D.mark++numB D.kvs.length++D.kvs.flatMap kvB++numB D.events.length++(D.events.take i).flatMap evB
theorem zml {α:Type} (f:α->List UInt8) {l:List α} {i:Nat} {x:α} (h:l[i]?=some x):(l.take (i+1)).flatMap f=(l.take i).flatMap f++f x:=by
 rw [List.take_add_one,h,List.flatMap_append];simp
theorem zps {α:Type} (f:α->List UInt8) (l:List α) (i:Nat):((l.take i).flatMap f).length<=(l.flatMap f).length:=by
 have h:(l.take i).flatMap f++(l.drop i).flatMap f=l.flatMap f:=by rw [<-List.flatMap_append,List.take_append_drop]
 rw [<-h,List.length_append];omega
theorem zsv (D:Doc) (i:Nat):(preK D i).length<=(docB D).length:=by
 have:=zps kvB D.kvs i;unfold preK docB stB;simp only [List.length_append,zam];omega
theorem zyv (D:Doc) (i:Nat):(preE D i).length<=(docB D).length:=by
 have:=zps evB D.events i;unfold preE docB stB;simp only [List.length_append,zam];omega
theorem zwo {D:Doc} {i:Nat} {x:Kv} (h:D.kvs[i]?=some x):preK D (i+1)=preK D i++kvB x:=by
 unfold preK;rw [zml kvB h];simp only [List.append_assoc]
theorem zwp {D:Doc} {i:Nat} {x:Ev} (h:D.events[i]?=some x):preE D (i+1)=preE D i++numB x.kind++kvB x.kv++kvB x.prev:=by
 unfold preE;rw [zml evB h];unfold evB;simp only [List.append_assoc]
set_option maxHeartbeats 16000000 in
theorem zlu (w:World) (D:Doc) (a1 a2:Option Addr) (k1 k2:Nat) (hD:DocR w D (.slice a1 D.kvs.length k1) (.slice a2 D.events.length k2)) (hsz:(docB D).length<=1000000000000)
 (hk:∀ x∈D.kvs,x.key.size<=1000000000000/\x.value.size<=1000000000000) (he:∀ x∈D.events,(x.kv.key.size<=1000000000000/\x.kv.value.size<=1000000000000)/\x.prev.key.size<=1000000000000/\x.prev.value.size<=1000000000000) (hl:D.kvs.length+D.events.length<=1000000000) :
 Calls Tryz.prog 41 #[docV D (.slice a1 D.kvs.length k1) (.slice a2 D.events.length k2)] w fun e w'=>e=.returned (.string ⟨(docB D).toArray⟩)/\Fr No w w':=by
 obtain ⟨_,_,ag,_,_,S⟩:=hD.kvs.shape;obtain ⟨_,_,ah,_,_,T⟩:=hD.evs.shape;cases ag
 cases ah
 have n1:=fun W=>zbf W D.rev;have n2:=fun W=>zbf W D.mark;have n3:=fun W=>zbf W D.kvs.length;have n4:=fun W=>zbf W D.events.length;have e1:=zbz (numB D.rev) (numB D.mark);have e2:=zbz (numB D.rev++numB D.mark) (numB D.kvs.length);have e3:_=(⟨(preE D 0).toArray⟩:ByteArray):=(zbz (preK D D.kvs.length) (numB D.events.length)).trans (by unfold preE preK;rw [List.take_length,List.take_zero,List.flatMap_nil,List.append_nil]);have z0:(⟨(numB D.rev++numB D.mark++numB D.kvs.length).toArray⟩:ByteArray)=⟨(preK D 0).toArray⟩:=by unfold preK;rw [List.take_zero,List.flatMap_nil,List.append_nil]
 have z1:(⟨(preE D D.events.length).toArray⟩:ByteArray)=⟨(docB D).toArray⟩:=by unfold preE docB stB;rw [List.take_length]
 have s1:=zaz (numB D.rev);have s2:=zaz (numB D.mark);have u:=zaz (numB D.rev++numB D.mark);have Z:=zaz (numB D.kvs.length);have s5:=zaz (numB D.events.length);have s6:(⟨(preK D D.kvs.length).toArray⟩:ByteArray).size<=1000000000000:=by rw [zaz];exact Nat.le_trans (zsv D _) hsz
 have L:Hid (∀ i,(⟨(preK D i).toArray⟩:ByteArray).size<=1000000000000):=H_ fun i=>by rw [zaz];exact Nat.le_trans (zsv D _) hsz
 have K:Hid (∀ i,(⟨(preE D i).toArray⟩:ByteArray).size<=1000000000000):=H_ fun i=>by rw [zaz];exact Nat.le_trans (zyv D _) hsz
 simp only [List.length_append,zam] at s1 s2 u Z s5;rw [z0] at e2;generalize (⟨(numB D.rev++numB D.mark).toArray⟩:ByteArray)=P1 at *;generalize (⟨(numB D.rev).toArray⟩:ByteArray)=B1 at *;generalize (⟨(numB D.mark).toArray⟩:ByteArray)=B2 at *;generalize (⟨(numB D.kvs.length).toArray⟩:ByteArray)=B3 at *;generalize (⟨(numB D.events.length).toArray⟩:ByteArray)=B4 at *;have u1:¬ (9223372036854775807<B1.size+B2.size):=by omega
 have v1:¬ ((9223372036854775807:Int)<(B1.size:Int)+(B2.size:Int)):=by omega
 have u2:¬ (9223372036854775807<P1.size+B3.size):=by omega
 have v2:¬ ((9223372036854775807:Int)<(P1.size:Int)+(B3.size:Int)):=by omega
 have Q:=zad w (Obj.cells #[.int .i64 D.rev,.int .i64 D.mark,.slice a1 D.kvs.length k1,.slice a2 D.events.length k2] 30) w.heap.size rfl;have A:Fr No w (w.alloc (Obj.cells #[.int .i64 D.rev,.int .i64 D.mark,.slice a1 D.kvs.length k1,.slice a2 D.events.length k2] 30)):=(Fr.refl No w).alloc _;have O:=hD.fr0 A;have v:=H_ n1;have y:=H_ n2;have z:=H_ n3;have aa:=H_ n4;have ab:=H_ z1;have ad:=H_ S;have ae:=H_ T;have HK:=H_ hk;have HE:=H_ he;clear n1 n2 n3 n4 z0 z1 S T hk he hsz hD;unfold docV;go_enter Tryz.func41,Tryz.ntmps41;go_upto_region 1 with fail;have a7:=H_ A;clear A;generalize w.alloc (Obj.cells #[.int .i64 D.rev,.int .i64 D.mark,.slice a1 D.kvs.length k1,.slice a2 D.events.length k2] 30)=d at *;generalize ai:w.heap.size=b at *;have J:=H_ O;have I:=H_ Q
 have r:Hid (∀ W,Fr No d W->W.cell? ⟨b,0,none⟩=some (.int .i64 D.rev)/\W.cell? ⟨b,1,none⟩=some (.int .i64 D.mark)/\W.cell? ⟨b,2,none⟩=some (.slice a1 D.kvs.length k1)/\W.cell? ⟨b,3,none⟩=some (.slice a2 D.events.length k2)):=H_ fun W hW=>by
  have f:=hW.heap I.out id;exact ⟨cellAt f 0 rfl,cellAt f 1 rfl,cellAt f 2 rfl,cellAt f 3 rfl⟩
 have bq:b<d.heap.size:=zab I.out;clear O Q ai
 go_cut [3] (fun u wx=>u=.string ⟨(preK D 0).toArray⟩/\Hid (Fr No d wx))
 case first =>
  have q0:=r.out d (Fr.refl No d);have q1:=r.out d.drew (Fr.refl No d).drew;have F0:Hid (Fr No d d.drew):=H_ (Fr.refl No d).drew
  go_region_held3 (fun W=>W.cell? ⟨b,0,none⟩=some (.int .i64 D.rev)/\W.cell? ⟨b,1,none⟩=some (.int .i64 D.mark)/\W.cell? ⟨b,2,none⟩=some (.slice a1 D.kvs.length k1)/\W.cell? ⟨b,3,none⟩=some (.slice a2 D.events.length k2))
   (first | with_reducible exact q0 | with_reducible exact q1 | with_reducible exact qa | with_reducible exact qb | with_reducible exact qc | fail)
   (first
     | (go_at_call 90;(with_reducible refine (v.out _).mono ?_);rintro e wa ⟨rfl,j⟩
        have s:=F0.out.trans0 j;have qa:=r.out _ s;have la:=s.size;have Fa:=H_ s;clear s j v)
     | (go_at_call 90;(with_reducible refine (y.out _).mono ?_);rintro e wb ⟨rfl,k⟩
        have f:=Fa.out.trans0 k;have qb:=r.out _ f;have lb:=f.size;have Fb:=H_ f;clear f k y)
     | (go_at_call 90;(with_reducible refine (z.out _).mono ?_);rintro e wc ⟨rfl,l⟩
        have m:=Fb.out.trans0 l;have qc:=r.out _ m;have lc:=m.size;have Fc:=H_ m;clear m l z))
  all_goals
   go_wp2;go_meet
   case rel=>exact ⟨rfl,H_ Fc.out⟩
 case rest =>
 obtain ⟨rfl,a8⟩:=hcut;clear e1 e2 s1 s2 u Z v y z u1 u2 v1 v2;generalize ak:wc=W1 at *;clear ak;go_wp2_with fail
 go_loopg [3,4] D.kvs.length (fun q u Z wr=>∃ i:Nat,u=.string ⟨(preK D i).toArray⟩/\Z=.int .i64 i/\i+q=D.kvs.length/\Hid (Fr No d wr))
 case atStart=>exact ⟨0,rfl,rfl,by simp,a8⟩
 case round =>
  obtain ⟨i,rfl,rfl,hi,c⟩:=hrel;have R:b<wr.heap.size:=(by have:=c.out.size;omega)
  cases gk with
  | succ q =>
    obtain ⟨g,o,rfl⟩:=ad.out (by omega);obtain ⟨x,a⟩:∃ x,D.kvs[i]?=some x:=⟨_,List.getElem?_eq_getElem (by omega)⟩;have C:(i:Int)<(D.kvs.length:Int):=(by omega);obtain ⟨U,b1,b2,V⟩:=r.out wr c.out;have G:=J.out.kvs.fr0 c.out;have c0:=G.cell0 zak i a rfl;have c1:=G.cell zak i 1 a rfl;have c2:=G.cell zak i 2 a rfl;have c3:=G.cell zak i 3 a rfl;have c4:=G.cell zak i 4 a rfl;have c5:=G.cell zak i 5 a rfl;have lg:=World.block_lt_of_cell? _ _ c0;have E:=HK.out x (List.mem_of_getElem? a);have m:=zgv wr x E.1 E.2;have t:=zbz (preK D i) (kvB x)
    rw [<-zwo a] at t;have br:=L.out i;have aj:=L.out (i+1);rw [<-t,ByteArray.size_append] at aj;generalize (⟨(kvB x).toArray⟩:ByteArray)=X at *;generalize (⟨(preK D i).toArray⟩:ByteArray)=P at *;generalize F:(⟨(preK D (i+1)).toArray⟩:ByteArray)=P' at *;obtain ⟨p1,p2,p3,p4,p5,p6⟩:=x;unfold kvC at m;dsimp only at *;have HC:=H_ m;clear a G E m;go_wp2_with (go_at_call 91;(with_reducible refine HC.out.mono ?_);rintro e w2 ⟨rfl,p⟩);go_roundg q
    case rel=>exact ⟨i+1,by rw [F],by go_num,by omega,H_ (c.out.trans0 p)⟩
    case measure=>omega
  | zero =>
    have C:¬ (i:Int)<(D.kvs.length:Int):=(by omega);have B:i=D.kvs.length:=(by omega);subst B;obtain ⟨U,b1,b2,V⟩:=r.out wr c.out;generalize (⟨(preK D D.kvs.length).toArray⟩:ByteArray)=P2 at *;go_upto_region 7 with (go_at_call 90;(with_reducible refine (aa.out _).mono ?_);rintro e w2 ⟨rfl,p⟩);have a9:=H_ (c.out.trans0 p);have bp:b<w2.heap.size:=(by have:=p.size;omega);clear p c U b1 b2 V R e3 s5 s6;go_wp2_with fail
    go_loopg [3,5] D.events.length (fun q u s5 wr2=>∃ i:Nat,u=.string ⟨(preE D i).toArray⟩/\s5=.int .i64 i/\i+q=D.events.length/\Hid (Fr No d wr2))
    case atStart=>exact ⟨0,rfl,rfl,by simp,a9⟩
    case round =>
     obtain ⟨i,rfl,rfl,bo,c⟩:=hrel;have R:b<wr.heap.size:=(by have:=c.out.size;omega);obtain ⟨U,b1,b2,V⟩:=r.out wr c.out
     cases gk with
     | zero =>
       have C:¬ (i:Int)<(D.events.length:Int):=(by omega);have B:i=D.events.length:=(by omega);subst B;rw [ab.out];go_wp2_with fail;go_ret;exact ⟨rfl,a7.out.trans0 c.out⟩
     | succ q =>
       obtain ⟨g,o,rfl⟩:=ae.out (by omega);obtain ⟨x,a⟩:∃ x,D.events[i]?=some x:=⟨_,List.getElem?_eq_getElem (by omega)⟩;have C:(i:Int)<(D.events.length:Int):=(by omega);have n:=HE.out x (List.mem_of_getElem? a);have H:=J.out.evs;have bm:g<d.heap.size:=World.block_lt_of_cell? _ _ (H.cell0 zac i a rfl);have bn:g<wr.heap.size:=(by have:=c.out.size;omega);have m1:=fun W=>zbf W x.kind;have m2:=fun W=>zgv W x.kv n.1.1 n.1.2;have m3:=fun W=>zgv W x.prev n.2.1 n.2.2;have j1:=zbz (preE D i) (numB x.kind);have j2:=zbz (preE D i++numB x.kind) (kvB x.kv);have j3:=zbz (preE D i++numB x.kind++kvB x.kv) (kvB x.prev);rw [<-zwp a] at j3;have r1:=K.out i;have r4:=K.out (i+1);rw [<-j3,ByteArray.size_append,<-j2,ByteArray.size_append,<-j1,ByteArray.size_append] at r4
       have r2:=congrArg ByteArray.size j1;have r3:=congrArg ByteArray.size j2;rw [ByteArray.size_append] at r2 r3;generalize F:(⟨(preE D (i+1)).toArray⟩:ByteArray)=P' at *;generalize (⟨(preE D i++numB x.kind++kvB x.kv).toArray⟩:ByteArray)=J2 at *;generalize (⟨(preE D i++numB x.kind).toArray⟩:ByteArray)=J1 at *;generalize (⟨(kvB x.kv).toArray⟩:ByteArray)=X at *;generalize (⟨(kvB x.prev).toArray⟩:ByteArray)=Y at *;generalize (⟨(numB x.kind).toArray⟩:ByteArray)=N at *;generalize (⟨(preE D i).toArray⟩:ByteArray)=P at *;have u1:¬ (9223372036854775807<P.size+N.size):=(by omega);have v1:¬ ((9223372036854775807:Int)<(P.size:Int)+(N.size:Int)):=(by omega);have u2:¬ (9223372036854775807<J1.size+X.size):=(by omega);have v2:¬ ((9223372036854775807:Int)<(J1.size:Int)+(X.size:Int)):=(by omega)
       have u3:¬ (9223372036854775807<J2.size+Y.size):=(by omega);have v3:¬ ((9223372036854775807:Int)<(J2.size:Int)+(Y.size:Int)):=(by omega);clear r1 r2 r3 r4;obtain ⟨p0,⟨p1,p2,p3,p4,p5,p6⟩,⟨y1,y2,y3,y4,y5,y6⟩⟩:=x;unfold kvC at m2 m3;dsimp only at *
       have M:Hid (∀ W,Fr No d W->W.cell? ⟨b,0,none⟩=some (.int .i64 D.rev)/\W.cell? ⟨b,1,none⟩=some (.int .i64 D.mark)/\W.cell? ⟨b,2,none⟩=some (.slice a1 D.kvs.length k1)/\W.cell? ⟨b,3,none⟩=some (.slice (some ⟨g,o,none⟩) D.events.length k2)/\W.cell? ⟨g,o+i * 13,none⟩=some (.int .i64 p0)/\W.cell? ⟨g,o+i * 13+1,none⟩=some (.string p1)/\W.cell? ⟨g,o+i * 13+2,none⟩=some (.string p2)/\W.cell? ⟨g,o+i * 13+3,none⟩=some (.int .i64 p3)/\W.cell? ⟨g,o+i * 13+4,none⟩=some (.int .i64 p4)/\W.cell? ⟨g,o+i * 13+5,none⟩=some (.int .i64 p5)/\W.cell? ⟨g,o+i * 13+6,none⟩=some (.int .i64 p6)/\W.cell? ⟨g,o+i * 13+7,none⟩=some (.string y1)/\W.cell? ⟨g,o+i * 13+8,none⟩=some (.string y2)/\W.cell? ⟨g,o+i * 13+9,none⟩=some (.int .i64 y3)/\W.cell? ⟨g,o+i * 13+10,none⟩=some (.int .i64 y4)/\W.cell? ⟨g,o+i * 13+11,none⟩=some (.int .i64 y5)/\W.cell? ⟨g,o+i * 13+12,none⟩=some (.int .i64 y6)):=H_ fun W hW=>by
        have h:=H.fr0 hW;obtain ⟨c0,c1,c2,c3⟩:=r.out W hW;exact ⟨c0,c1,c2,c3,h.cell0 zac i a rfl,h.cell zac i 1 a rfl,h.cell zac i 2 a rfl,h.cell zac i 3 a rfl,h.cell zac i 4 a rfl,h.cell zac i 5 a rfl,h.cell zac i 6 a rfl,h.cell zac i 7 a rfl,h.cell zac i 8 a rfl,h.cell zac i 9 a rfl,h.cell zac i 10 a rfl,h.cell zac i 11 a rfl,h.cell zac i 12 a rfl⟩
       have M1:=H_ m1;have M2:=H_ m2;have M3:=H_ m3;clear m1 m2 m3 a n H U b1 b2 V;have q0:=M.out wr c.out;have q1:=M.out wr.drew c.out.drew;have F0:=H_ c.out.drew;go_wp2_with fail
       go_region_held3 (fun W=>W.cell? ⟨b,0,none⟩=some (.int .i64 D.rev)/\W.cell? ⟨b,1,none⟩=some (.int .i64 D.mark)/\W.cell? ⟨b,2,none⟩=some (.slice a1 D.kvs.length k1)/\W.cell? ⟨b,3,none⟩=some (.slice (some ⟨g,o,none⟩) D.events.length k2)/\W.cell? ⟨g,o+i * 13,none⟩=some (.int .i64 p0)/\W.cell? ⟨g,o+i * 13+1,none⟩=some (.string p1)/\W.cell? ⟨g,o+i * 13+2,none⟩=some (.string p2)/\W.cell? ⟨g,o+i * 13+3,none⟩=some (.int .i64 p3)/\W.cell? ⟨g,o+i * 13+4,none⟩=some (.int .i64 p4)/\W.cell? ⟨g,o+i * 13+5,none⟩=some (.int .i64 p5)/\W.cell? ⟨g,o+i * 13+6,none⟩=some (.int .i64 p6)/\W.cell? ⟨g,o+i * 13+7,none⟩=some (.string y1)/\W.cell? ⟨g,o+i * 13+8,none⟩=some (.string y2)/\W.cell? ⟨g,o+i * 13+9,none⟩=some (.int .i64 y3)/\W.cell? ⟨g,o+i * 13+10,none⟩=some (.int .i64 y4)/\W.cell? ⟨g,o+i * 13+11,none⟩=some (.int .i64 y5)/\W.cell? ⟨g,o+i * 13+12,none⟩=some (.int .i64 y6))
        (first | with_reducible exact q0 | with_reducible exact q1 | with_reducible exact qa | with_reducible exact qb | with_reducible exact qc | fail)
        (first
          | (go_at_call 90;(with_reducible refine (M1.out _).mono ?_);rintro e wa ⟨rfl,j⟩
             have s:=F0.out.trans0 j;have qa:=M.out _ s;have la:=j.size;have Fa:=H_ s;clear s j M1)
          | (go_at_call 91;(with_reducible refine (M2.out _).mono ?_);rintro e wb ⟨rfl,k⟩
             have f:=Fa.out.trans0 k;have qb:=M.out _ f;have lb:=k.size;have Fb:=H_ f;clear f k M2)
          | (go_at_call 91;(with_reducible refine (M3.out _).mono ?_);rintro e wc ⟨rfl,l⟩
             have m:=Fb.out.trans0 l;have qc:=M.out _ m;have lc:=l.size;have Fc:=H_ m;clear m l M3))
       all_goals
        go_wp2;go_roundg q
        case rel=>exact ⟨i+1,by rw [F],by go_num,by omega,H_ Fc.out⟩
        case measure=>omega
end Go.Proofs.YthljnnjpmdgkoaaGreat