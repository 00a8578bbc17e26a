/- Own lemmas and contracts that the claim's proof needs, laid together. The conditions stand in each. -/
import Derived.Test.YthljnnjpmdgkoaaGreatG17
import Derived.Test.YthljnnjpmdgkoaaGreatG06
import Derived.Test.YthljnnjpmdgkoaaGreatG07
import Derived.Test.YthljnnjpmdgkoaaGreatG08
import Derived.Deep.DeepCutAuto
import Derived.Deep.CutBlock
import Derived.Deep.RegionHeld3
namespace Go.Proofs.YthljnnjpmdgkoaaGreat
open Go Go.Proofs Go.RowKit Go.PlainAid
set_option maxRecDepth 100000
theorem zwp (s:ByteArray) (h:bt s 0 < 128) (hs:0 < s.size):oneOf s=1:=by
 have h0:=bt_nonneg s 0;have hN:leadN (bt s 0)=1:=by unfold leadN;rw [if_neg (by omega),if_neg (by omega),if_neg (by omega)]
 have hV:leadV (bt s 0)=bt s 0:=by unfold leadV;rw [if_neg (by omega),if_neg (by omega),if_neg (by omega)]
 have hL:leadL (bt s 0)=0:=by unfold leadL;rw [if_neg (by omega),if_neg (by omega),if_neg (by omega)]
 unfold oneOf;rw [hN,hV,hL,if_neg (by omega),if_neg (by omega)]
 show (if bt s 0 < 0\/1114111 < bt s 0\/(55296<=bt s 0/\bt s 0<=57343) then 0 else 1)=1
 rw [if_neg (by omega)]
theorem zwo (s:ByteArray) (h:128<=bt s 0) (h':bt s 0 < 192):oneOf s=0:=by
 unfold oneOf;rw [if_pos ⟨h,h'⟩]
theorem zuz (s:ByteArray) (h:248<=bt s 0):oneOf s=0:=by
 unfold oneOf;rw [if_neg (by omega),if_pos (.inl h)]
theorem zle (s:ByteArray) (n:Nat) (v0 least:Int) (hN:leadN (bt s 0)=n) (hV:leadV (bt s 0)=v0) (hL:leadL (bt s 0)=least) (h1:192<=bt s 0) (h2:bt s 0 < 248) :
 oneOf s=if s.size < n then 0 else match contK s (n - 1) 1 v0 with
  | none=>0
  | some v=>if v < least\/1114111 < v\/(55296<=v/\v<=57343) then 0 else n:=by
 unfold oneOf;rw [hN,hV,hL,if_neg (by omega)];by_cases h:s.size < n
 · rw [if_pos (.inr h),if_pos h]
 rw [if_neg (by omega),if_neg h]
 rfl
theorem zlo (s:ByteArray) (g i:Nat) (v:Int) (h:bt s i < 128\/191 < bt s i):contK s (g+1) i v=none:=by
 rw [contK];rw [if_pos h]
theorem zlp (s:ByteArray) (g i:Nat) (v:Int) (h:¬ (bt s i < 128\/191 < bt s i)):contK s (g+1) i v=contK s g (i+1) (v * 64+bt s i - 128):=by
 rw [contK];rw [if_neg h]
set_option maxHeartbeats 8000000 in
theorem zrf (w:World) (s:ByteArray) (hs:0 < s.size):Calls Tryz.prog 164 #[.string s] w fun e w'=>e = .returned (.int .i64 (oneOf s:Int))/\w=w':=by
 have hb:=get_bt s;have hc0:=bt_nonneg s 0;have hc1:=bt_le s 0;have hsz:(0:Int) < (s.size:Int):=by omega
 by_cases a1:bt s 0 < 128
 · have e1:=zwp s a1 hs
   have E1:=H_ e1;clear e1;go_enter Tryz.func164,Tryz.ntmps164;go_wp2
   go_loopg [5,7] 0 (fun g s5 s7 wr=>g=0/\s5 = .int .i64 (bt s 0)/\s7 = .int .i64 1/\w=wr)
   case atStart=>exact ⟨rfl,rfl,rfl,rfl⟩
   case round =>
    obtain ⟨rfl,rfl,rfl,rfl⟩:=hrel;go_wp2;go_ret;exact ⟨by rw [E1.out];rfl,rfl⟩
 by_cases a2:bt s 0 < 192
 · have e1:=zwo s (by omega) a2
   have E1:=H_ e1;clear e1;go_enter Tryz.func164,Tryz.ntmps164;go_wp2;go_ret;exact ⟨by rw [E1.out];rfl,rfl⟩
 by_cases a5:248<=bt s 0
 · have e1:=zuz s a5
   have E1:=H_ e1;clear e1;go_enter Tryz.func164,Tryz.ntmps164;go_wp2;go_ret;exact ⟨by rw [E1.out];rfl,rfl⟩
 by_cases a3:bt s 0 < 224
 · have e1:=zle s 2 (bt s 0 - 192) 128 (by unfold leadN;rw [if_neg (by omega),if_neg (by omega),if_pos (by omega)]) (by unfold leadV;rw [if_neg (by omega),if_neg (by omega),if_pos (by omega)]) (by unfold leadL;rw [if_neg (by omega),if_neg (by omega),if_pos (by omega)]) (by omega) (by omega)
   have E1:=H_ e1;clear e1;by_cases hn:s.size < 2
   · have hn':(s.size:Int) < 2:=by omega
     have e2:oneOf s=0:=(by rw [E1.out,if_pos hn]);have E2:=H_ e2;clear e2;go_enter Tryz.func164,Tryz.ntmps164;go_wp2;go_ret;exact ⟨by rw [E2.out];rfl,rfl⟩
   have hn':¬ (s.size:Int) < 2:=by omega
   rw [if_neg hn] at E1;go_enter Tryz.func164,Tryz.ntmps164;go_wp2
   go_loopg [5,7] 1 (fun g s5 s7 wr=>∃ (i:Nat) (v:Int),s5 = .int .i64 v/\s7 = .int .i64 i/\1<=i/\i+g=2/\0<=v/\(i=1->v<=31)/\(i=2->v<=2047)/\(i=3->v<=131071)/\v<=8388607/\Hid (contK s 1 1 (bt s 0 - 192)=contK s g i v)/\w=wr)
   case atStart=>exact ⟨1,bt s 0 - 192,rfl,rfl,by omega,by omega,by omega,by omega,by omega,by omega,by omega,H_ rfl,rfl⟩
   case round =>
    obtain ⟨i,v,rfl,rfl,hi1,hi,hv0,hv1,hv2,hv3,hv4,HK,rfl⟩:=hrel
    cases gk with
    | zero =>
      have hil:¬ (i:Int) < 2:=(by omega);have e3:oneOf s=if v < 128\/1114111 < v\/(55296<=v/\v<=57343) then 0 else 2:=(by rw [E1.out,HK.out];rfl);have E3:=H_ e3;clear e3;clear hv1 hv2 hv3;by_cases t1:v < 128
      · have e4:oneOf s=0:=by rw [E3.out,if_pos (by omega)]
        have E4:=H_ e4;clear e4;go_wp2;go_ret;exact ⟨by rw [E4.out];rfl,rfl⟩
      by_cases t2:1114111 < v
      · have e4:oneOf s=0:=by rw [E3.out,if_pos (by omega)]
        have E4:=H_ e4;clear e4;go_wp2;go_ret;exact ⟨by rw [E4.out];rfl,rfl⟩
      by_cases t3:55296<=v
      · by_cases t4:v<=57343
        · have e4:oneOf s=0:=by rw [E3.out,if_pos (by omega)]
          have E4:=H_ e4;clear e4;go_wp2;go_ret;exact ⟨by rw [E4.out];rfl,rfl⟩
        have e4:oneOf s=2:=by rw [E3.out,if_neg (by omega)]
        have E4:=H_ e4;clear e4;go_wp2;go_ret;exact ⟨by rw [E4.out];rfl,rfl⟩
      have e4:oneOf s=2:=by rw [E3.out,if_neg (by omega)]
      have E4:=H_ e4;clear e4;go_wp2;go_ret;exact ⟨by rw [E4.out];rfl,rfl⟩
    | succ g =>
      have hil:(i:Int) < 2:=(by omega);have his:(i:Int) < (s.size:Int):=(by omega);have his':i < s.size:=(by omega);have hd0:=bt_nonneg s i;have hd1:=bt_le s i;have hvb:v<=131071:=(by omega);have N1:=H_ (zlo s g i v);have N2:=H_ (zlp s g i v);have hv1':i=1->v * 64+bt s i - 128<=2047\/¬ bt s i<=191:=(by omega);have hv2':i=2->v * 64+bt s i - 128<=131071\/¬ bt s i<=191:=(by omega);have HV1:=H_ hv1';have HV2:=H_ hv2';clear hv1 hv2 hv3 hv1' hv2';by_cases t1:bt s i < 128
      · have e4:oneOf s=0:=by rw [E1.out,HK.out,N1.out (.inl t1)]
        have E4:=H_ e4;clear e4;go_wp2;go_ret;exact ⟨by rw [E4.out];rfl,rfl⟩
      by_cases t2:191 < bt s i
      · have e4:oneOf s=0:=by rw [E1.out,HK.out,N1.out (.inr t2)]
        have E4:=H_ e4;clear e4;go_wp2;go_ret;exact ⟨by rw [E4.out];rfl,rfl⟩
      go_wp2;go_roundg g
      case rel=>exact ⟨i+1,v * 64+bt s i - 128,by go_num,by go_num,by omega,by omega,by omega,by omega,fun h=>by have:=HV1.out (by omega);omega,fun h=>by have:=HV2.out (by omega);omega,by omega,H_ (by rw [HK.out,N2.out (by omega)]),rfl⟩
      case measure=>omega
 by_cases a4:bt s 0 < 240
 · have e1:=zle s 3 (bt s 0 - 224) 2048 (by unfold leadN;rw [if_neg (by omega),if_pos (by omega)]) (by unfold leadV;rw [if_neg (by omega),if_pos (by omega)]) (by unfold leadL;rw [if_neg (by omega),if_pos (by omega)]) (by omega) (by omega)
   have E1:=H_ e1;clear e1;by_cases hn:s.size < 3
   · have hn':(s.size:Int) < 3:=by omega
     have e2:oneOf s=0:=(by rw [E1.out,if_pos hn]);have E2:=H_ e2;clear e2;go_enter Tryz.func164,Tryz.ntmps164;go_wp2;go_ret;exact ⟨by rw [E2.out];rfl,rfl⟩
   have hn':¬ (s.size:Int) < 3:=by omega
   rw [if_neg hn] at E1;go_enter Tryz.func164,Tryz.ntmps164;go_wp2
   go_loopg [5,7] 2 (fun g s5 s7 wr=>∃ (i:Nat) (v:Int),s5 = .int .i64 v/\s7 = .int .i64 i/\1<=i/\i+g=3/\0<=v/\(i=1->v<=31)/\(i=2->v<=2047)/\(i=3->v<=131071)/\v<=8388607/\Hid (contK s 2 1 (bt s 0 - 224)=contK s g i v)/\w=wr)
   case atStart=>exact ⟨1,bt s 0 - 224,rfl,rfl,by omega,by omega,by omega,by omega,by omega,by omega,by omega,H_ rfl,rfl⟩
   case round =>
    obtain ⟨i,v,rfl,rfl,hi1,hi,hv0,hv1,hv2,hv3,hv4,HK,rfl⟩:=hrel
    cases gk with
    | zero =>
      have hil:¬ (i:Int) < 3:=(by omega);have e3:oneOf s=if v < 2048\/1114111 < v\/(55296<=v/\v<=57343) then 0 else 3:=(by rw [E1.out,HK.out];rfl);have E3:=H_ e3;clear e3;clear hv1 hv2 hv3;by_cases t1:v < 2048
      · have e4:oneOf s=0:=by rw [E3.out,if_pos (by omega)]
        have E4:=H_ e4;clear e4;go_wp2;go_ret;exact ⟨by rw [E4.out];rfl,rfl⟩
      by_cases t2:1114111 < v
      · have e4:oneOf s=0:=by rw [E3.out,if_pos (by omega)]
        have E4:=H_ e4;clear e4;go_wp2;go_ret;exact ⟨by rw [E4.out];rfl,rfl⟩
      by_cases t3:55296<=v
      · by_cases t4:v<=57343
        · have e4:oneOf s=0:=by rw [E3.out,if_pos (by omega)]
          have E4:=H_ e4;clear e4;go_wp2;go_ret;exact ⟨by rw [E4.out];rfl,rfl⟩
        have e4:oneOf s=3:=by rw [E3.out,if_neg (by omega)]
        have E4:=H_ e4;clear e4;go_wp2;go_ret;exact ⟨by rw [E4.out];rfl,rfl⟩
      have e4:oneOf s=3:=by rw [E3.out,if_neg (by omega)]
      have E4:=H_ e4;clear e4;go_wp2;go_ret;exact ⟨by rw [E4.out];rfl,rfl⟩
    | succ g =>
      have hil:(i:Int) < 3:=(by omega);have his:(i:Int) < (s.size:Int):=(by omega);have his':i < s.size:=(by omega);have hd0:=bt_nonneg s i;have hd1:=bt_le s i;have hvb:v<=131071:=(by omega);have N1:=H_ (zlo s g i v);have N2:=H_ (zlp s g i v);have hv1':i=1->v * 64+bt s i - 128<=2047\/¬ bt s i<=191:=(by omega);have hv2':i=2->v * 64+bt s i - 128<=131071\/¬ bt s i<=191:=(by omega);have HV1:=H_ hv1';have HV2:=H_ hv2';clear hv1 hv2 hv3 hv1' hv2';by_cases t1:bt s i < 128
      · have e4:oneOf s=0:=by rw [E1.out,HK.out,N1.out (.inl t1)]
        have E4:=H_ e4;clear e4;go_wp2;go_ret;exact ⟨by rw [E4.out];rfl,rfl⟩
      by_cases t2:191 < bt s i
      · have e4:oneOf s=0:=by rw [E1.out,HK.out,N1.out (.inr t2)]
        have E4:=H_ e4;clear e4;go_wp2;go_ret;exact ⟨by rw [E4.out];rfl,rfl⟩
      go_wp2;go_roundg g
      case rel=>exact ⟨i+1,v * 64+bt s i - 128,by go_num,by go_num,by omega,by omega,by omega,by omega,fun h=>by have:=HV1.out (by omega);omega,fun h=>by have:=HV2.out (by omega);omega,by omega,H_ (by rw [HK.out,N2.out (by omega)]),rfl⟩
      case measure=>omega
 have e1:=zle s 4 (bt s 0 - 240) 65536 (by unfold leadN;rw [if_pos (by omega)]) (by unfold leadV;rw [if_pos (by omega)]) (by unfold leadL;rw [if_pos (by omega)]) (by omega) (by omega);have E1:=H_ e1;clear e1;by_cases hn:s.size < 4
 · have hn':(s.size:Int) < 4:=by omega
   have e2:oneOf s=0:=(by rw [E1.out,if_pos hn]);have E2:=H_ e2;clear e2;go_enter Tryz.func164,Tryz.ntmps164;go_wp2;go_ret;exact ⟨by rw [E2.out];rfl,rfl⟩
 have hn':¬ (s.size:Int) < 4:=by omega
 rw [if_neg hn] at E1;go_enter Tryz.func164,Tryz.ntmps164;go_wp2
 go_loopg [5,7] 3 (fun g s5 s7 wr=>∃ (i:Nat) (v:Int),s5 = .int .i64 v/\s7 = .int .i64 i/\1<=i/\i+g=4/\0<=v/\(i=1->v<=31)/\(i=2->v<=2047)/\(i=3->v<=131071)/\v<=8388607/\Hid (contK s 3 1 (bt s 0 - 240)=contK s g i v)/\w=wr)
 case atStart=>exact ⟨1,bt s 0 - 240,rfl,rfl,by omega,by omega,by omega,by omega,by omega,by omega,by omega,H_ rfl,rfl⟩
 case round =>
  obtain ⟨i,v,rfl,rfl,hi1,hi,hv0,hv1,hv2,hv3,hv4,HK,rfl⟩:=hrel
  cases gk with
  | zero =>
    have hil:¬ (i:Int) < 4:=(by omega);have e3:oneOf s=if v < 65536\/1114111 < v\/(55296<=v/\v<=57343) then 0 else 4:=(by rw [E1.out,HK.out];rfl);have E3:=H_ e3;clear e3;clear hv1 hv2 hv3;by_cases t1:v < 65536
    · have e4:oneOf s=0:=by rw [E3.out,if_pos (by omega)]
      have E4:=H_ e4;clear e4;go_wp2;go_ret;exact ⟨by rw [E4.out];rfl,rfl⟩
    by_cases t2:1114111 < v
    · have e4:oneOf s=0:=by rw [E3.out,if_pos (by omega)]
      have E4:=H_ e4;clear e4;go_wp2;go_ret;exact ⟨by rw [E4.out];rfl,rfl⟩
    by_cases t3:55296<=v
    · by_cases t4:v<=57343
      · have e4:oneOf s=0:=by rw [E3.out,if_pos (by omega)]
        have E4:=H_ e4;clear e4;go_wp2;go_ret;exact ⟨by rw [E4.out];rfl,rfl⟩
      have e4:oneOf s=4:=by rw [E3.out,if_neg (by omega)]
      have E4:=H_ e4;clear e4;go_wp2;go_ret;exact ⟨by rw [E4.out];rfl,rfl⟩
    have e4:oneOf s=4:=by rw [E3.out,if_neg (by omega)]
    have E4:=H_ e4;clear e4;go_wp2;go_ret;exact ⟨by rw [E4.out];rfl,rfl⟩
  | succ g =>
    have hil:(i:Int) < 4:=(by omega);have his:(i:Int) < (s.size:Int):=(by omega);have his':i < s.size:=(by omega);have hd0:=bt_nonneg s i;have hd1:=bt_le s i;have hvb:v<=131071:=(by omega);have N1:=H_ (zlo s g i v);have N2:=H_ (zlp s g i v);have hv1':i=1->v * 64+bt s i - 128<=2047\/¬ bt s i<=191:=(by omega);have hv2':i=2->v * 64+bt s i - 128<=131071\/¬ bt s i<=191:=(by omega);have HV1:=H_ hv1';have HV2:=H_ hv2';clear hv1 hv2 hv3 hv1' hv2';by_cases t1:bt s i < 128
    · have e4:oneOf s=0:=by rw [E1.out,HK.out,N1.out (.inl t1)]
      have E4:=H_ e4;clear e4;go_wp2;go_ret;exact ⟨by rw [E4.out];rfl,rfl⟩
    by_cases t2:191 < bt s i
    · have e4:oneOf s=0:=by rw [E1.out,HK.out,N1.out (.inr t2)]
      have E4:=H_ e4;clear e4;go_wp2;go_ret;exact ⟨by rw [E4.out];rfl,rfl⟩
    go_wp2;go_roundg g
    case rel=>exact ⟨i+1,v * 64+bt s i - 128,by go_num,by go_num,by omega,by omega,by omega,by omega,fun h=>by have:=HV1.out (by omega);omega,fun h=>by have:=HV2.out (by omega);omega,by omega,H_ (by rw [HK.out,N2.out (by omega)]),rfl⟩
    case measure=>omega
theorem zmp (s:ByteArray):∀ (g i g':Nat),s.size<=i+g->g<=g'->refK s g' i=refK s g i
 | 0,i,g',h,_=>by
   cases g' with
   | zero=>rfl
   | succ g'=>unfold refK;rw [if_neg (by omega)]
 | g+1,i,g',h,hg=>by
   cases g' with
   | zero=>omega
   | succ g' =>
     unfold refK;by_cases hi:i < s.size
     · rw [if_pos hi,if_pos hi]
       split
       · rfl
       rename_i hn
       have:1<=oneOf (s.extract i s.size):=by
        rcases Nat.eq_zero_or_pos (oneOf (s.extract i s.size)) with h0 | h0
        · exact absurd (.inl h0) hn
        exact h0
       exact zmp s g _ g' (by omega) (by omega)
     rw [if_neg hi,if_neg hi]
set_option maxHeartbeats 4000000 in
theorem zhl (w:World) (s:ByteArray) (hs:s.size<=1099511627776):Calls Tryz.prog 124 #[.string s] w fun e w'=>e = .returned (.int .i64 (keyE s))/\Fr No w w':=by
 have hE:=zra s;unfold zoe at hE;have HE:=H_ hE;clear hE;by_cases h0:s.size=0
 · have hl:s.toList = []:=by
    rw [Lib.toList_data];exact List.eq_nil_of_length_eq_zero (by simpa using h0)
   have hl':s.toList.isEmpty=true:=(by rw [hl];rfl);have hl'':(s.toList == [])=true:=(by rw [hl];rfl);have e1:keyE s=30:=(by rw [<-HE.out,if_pos h0]);have E1:=H_ e1;clear e1;clear hl;go_enter Tryz.func124,Tryz.ntmps124;go_wp2;go_ret;exact ⟨by rw [E1.out];rfl,Fr.refl No w⟩
 have hne:s.toList≠[]:=by
  rw [Lib.toList_data];intro h;have:=congrArg List.length h;simp at this;exact h0 (by rw [this];rfl)
 have hl':s.toList.isEmpty=false:=(by simpa using hne);have hl'':(s.toList == [])=false:=(by simpa using hne);rw [if_neg h0] at HE;have hb:=get_bt s;clear hne;go_enter Tryz.func124,Tryz.ntmps124;go_wp2
 go_loopg [3] s.size (fun g s3 wr=>∃ i:Nat,s3 = .int .i64 i/\i+g=s.size/\Hid (refK s s.size 0=refK s g i)/\w=wr)
 case atStart=>exact ⟨0,rfl,by simp,H_ rfl,rfl⟩
 case round =>
  obtain ⟨i,rfl,hi,HK,rfl⟩:=hrel
  cases gk with
  | zero =>
    have hil:¬ (i:Int) < (s.size:Int):=(by omega);have hkt:refK s s.size 0=true:=(by rw [HK.out];rfl);by_cases h64:64 < s.size
    · have h64':(64:Int) < (s.size:Int):=by omega
      have e1:keyE s=31:=(by rw [<-HE.out,hkt,if_neg (by simp),if_pos h64]);have E1:=H_ e1;clear e1;clear hkt;go_wp2;go_ret;exact ⟨by rw [E1.out];rfl,Fr.refl No w⟩
    have h64':¬ (64:Int) < (s.size:Int):=by omega
    have e1:keyE s=0:=(by rw [<-HE.out,hkt,if_neg (by simp),if_neg h64]);have E1:=H_ e1;clear e1;clear hkt;go_wp2;go_ret;exact ⟨by rw [E1.out];rfl,Fr.refl No w⟩
  | succ g =>
    have hil:(i:Int) < (s.size:Int):=(by omega);have hil':i < s.size:=(by omega);have hile:(i:Int)<=(s.size:Int):=(by omega);have hoc:=fun W=>zrf W (s.extract i s.size) (by simp;omega);have hK1:refK s (g+1) i=if oneOf (s.extract i s.size)=0\/bt s i=0 then false else refK s g (i+oneOf (s.extract i s.size)):=(by rw [refK];rw [if_pos hil'])
    have hst:oneOf (s.extract i s.size)≠0->1<=oneOf (s.extract i s.size)/\i+oneOf (s.extract i s.size)<=s.size:=by
     intro hn;rcases one_at s i hil' with ⟨_,h2⟩ | ⟨_,h2,_,h4,_⟩
     · exact absurd h2 hn
     exact ⟨h2,h4⟩
    generalize oneOf (s.extract i s.size)=n at *;have HO:=H_ hoc;clear hoc;have HK1:=H_ hK1;clear hK1;by_cases t1:n=0
    · subst t1
      have e0:refK s s.size 0=false:=(by rw [HK.out,HK1.out];exact if_pos (.inl rfl));have e1:keyE s=30:=(by rw [<-HE.out,e0];rfl);have E1:=H_ e1;clear e1;clear hst;go_wp2_with (go_at_call 164;refine (HO.out _).mono ?_;rintro e w' ⟨rfl,rfl⟩);go_ret;exact ⟨by rw [E1.out];rfl,Fr.refl No w⟩
    obtain ⟨hn1,hn2⟩:=hst t1
    have t1':((n:Int) == 0)=false:=(by simpa using t1);have hb0:=bt_nonneg s i;have hb1:=bt_le s i;clear hst;by_cases t2:bt s i=0
    · have t2':(bt s i == 0)=true:=by simpa using t2
      have e0:refK s s.size 0=false:=(by rw [HK.out,HK1.out];exact if_pos (.inr t2));have e1:keyE s=30:=(by rw [<-HE.out,e0];rfl);have E1:=H_ e1;clear e1;clear t2;go_wp2_with (go_at_call 164;refine (HO.out _).mono ?_;rintro e w' ⟨rfl,rfl⟩);go_ret;exact ⟨by rw [E1.out];rfl,Fr.refl No w⟩
    have t2':(bt s i == 0)=false:=by simpa using t2
    have e1:refK s s.size 0=refK s (s.size - (i+n)) (i+n):=by
     rw [HK.out,HK1.out,if_neg (by omega)];exact zmp s _ _ _ (by omega) (by omega)
    have E1:=H_ e1;clear e1;go_wp2_with (go_at_call 164;refine (HO.out _).mono ?_;rintro e w' ⟨rfl,rfl⟩);go_roundg (s.size - (i+n))
    case rel=>exact ⟨i+n,by go_num,by omega,E1,rfl⟩
    case measure=>omega
theorem zgc (w:World) (key frm end_:ByteArray):Calls Tryz.prog 150 #[.string key,.string frm,.string end_] w fun e w'=>e = .returned (.bool (inB key frm end_))/\w=w':=by
 unfold inB;cases h1:end_.toList.isEmpty
 · cases h2:(end_.toList == [0])
   · cases h3:Op.bytesLess key.toList frm.toList <;>
     · go_enter Tryz.func150,Tryz.ntmps150
       go_wp2;go_ret;exact ⟨by simp,rfl⟩
   cases h3:Op.bytesLess key.toList frm.toList <;>
   · go_enter Tryz.func150,Tryz.ntmps150
     go_wp2;go_ret;exact ⟨by simp,rfl⟩
 go_enter Tryz.func150,Tryz.ntmps150
 go_wp2;go_ret;exact ⟨by simp,rfl⟩
theorem zec (w:World) (g:Rg) (hs:g.key.size<=1099511627776):Calls Tryz.prog 105 #[rgV g] w fun e w'=>e = .returned (.int .i64 (askE g))/\Fr No w w':=by
 have hk:=fun W=>zhl W g.key hs;obtain ⟨g1,g2,g3,g4,g5,g6,g7⟩:=g;unfold askE rgV;dsimp only at *;generalize keyE g1=k at *;clear hs;by_cases h1:k≠0
 · have h1':(k == 0)=false:=by simpa using h1
   rw [if_pos h1];go_enter Tryz.func105,Tryz.ntmps105;go_wp2_with (go_at_call 124;refine (hk _).mono ?_;rintro e w1 ⟨rfl,hf⟩);go_ret;exact ⟨rfl,((Fr.refl No w).alloc _).trans0 hf⟩
 have h1':(k == 0)=true:=by simpa using h1
 rw [if_neg h1];by_cases h2:64 < g2.size
 · have h2':(64:Int) < (g2.size:Int):=by omega
   rw [if_pos h2];go_enter Tryz.func105,Tryz.ntmps105
   go_wp2_with (go_at_call 124;refine (hk _).mono ?_;rintro e w1 ⟨rfl,hf⟩
                have hb:w1.heap[w.heap.size]? = some (.cells #[.string g1,.string g2,.int .i64 g3,.int .i64 g4,.bool g5,.bool g6,.bool g7] 35 (0,0)):=hf.heap (zad _ _ _ rfl) id;have x1:w1.cell? ⟨w.heap.size,1,none⟩=some (.string g2):=by simp [World.cell?,hb])
   go_ret;exact ⟨rfl,((Fr.refl No w).alloc _).trans0 hf⟩
 have h2':¬ (64:Int) < (g2.size:Int):=by omega
 rw [if_neg h2];by_cases h3:g3 < 0
 · have h3':¬ 0<=g3:=by omega
   rw [if_pos (.inl h3)];go_enter Tryz.func105,Tryz.ntmps105
   go_wp2_with (go_at_call 124;refine (hk _).mono ?_;rintro e w1 ⟨rfl,hf⟩
                have hb:w1.heap[w.heap.size]? = some (.cells #[.string g1,.string g2,.int .i64 g3,.int .i64 g4,.bool g5,.bool g6,.bool g7] 35 (0,0)):=hf.heap (zad _ _ _ rfl) id;have x1:w1.cell? ⟨w.heap.size,1,none⟩=some (.string g2):=(by simp [World.cell?,hb]);have x2:w1.cell? ⟨w.heap.size,2,none⟩=some (.int .i64 g3):=by simp [World.cell?,hb])
   go_ret;exact ⟨rfl,((Fr.refl No w).alloc _).trans0 hf⟩
 by_cases h4:g4 < 0
 · have h4':¬ 0<=g4:=by omega
   rw [if_pos (.inr h4)];go_enter Tryz.func105,Tryz.ntmps105
   go_wp2_with (go_at_call 124;refine (hk _).mono ?_;rintro e w1 ⟨rfl,hf⟩
                have hb:w1.heap[w.heap.size]? = some (.cells #[.string g1,.string g2,.int .i64 g3,.int .i64 g4,.bool g5,.bool g6,.bool g7] 35 (0,0)):=hf.heap (zad _ _ _ rfl) id;have x1:w1.cell? ⟨w.heap.size,1,none⟩=some (.string g2):=(by simp [World.cell?,hb]);have x2:w1.cell? ⟨w.heap.size,2,none⟩=some (.int .i64 g3):=(by simp [World.cell?,hb]);have x3:w1.cell? ⟨w.heap.size,3,none⟩=some (.int .i64 g4):=by simp [World.cell?,hb])
   go_ret;exact ⟨rfl,((Fr.refl No w).alloc _).trans0 hf⟩
 rw [if_neg (by omega)]
 go_enter Tryz.func105,Tryz.ntmps105
 go_wp2_with (go_at_call 124;refine (hk _).mono ?_;rintro e w1 ⟨rfl,hf⟩
              have hb:w1.heap[w.heap.size]? = some (.cells #[.string g1,.string g2,.int .i64 g3,.int .i64 g4,.bool g5,.bool g6,.bool g7] 35 (0,0)):=hf.heap (zad _ _ _ rfl) id;have x1:w1.cell? ⟨w.heap.size,1,none⟩=some (.string g2):=(by simp [World.cell?,hb]);have x2:w1.cell? ⟨w.heap.size,2,none⟩=some (.int .i64 g3):=(by simp [World.cell?,hb]);have x3:w1.cell? ⟨w.heap.size,3,none⟩=some (.int .i64 g4):=by simp [World.cell?,hb])
 go_ret;exact ⟨rfl,((Fr.refl No w).alloc _).trans0 hf⟩
open Go Go.Proofs Go.RowKit
theorem zub {l:List Opr} {P:Opr->Bool} {i:Nat} (hi:i < l.length):((l.take i).any P || (l.drop (i+1)).any P)=true ↔ ∃ (k:Nat) (p:Opr),k≠i/\l[k]? = some p/\P p=true:=by
 rw [Bool.or_eq_true,List.any_eq_true,List.any_eq_true]
 constructor
 · rintro (⟨x,hx,h⟩ | ⟨x,hx,h⟩)
   · obtain ⟨k,hk⟩:=List.mem_iff_getElem?.1 hx
     have hlt:=(List.getElem?_eq_some_iff.1 hk).1;rw [List.length_take] at hlt;rw [List.getElem?_take_of_lt (by omega)] at hk;exact ⟨k,x,by omega,hk,h⟩
   obtain ⟨k,hk⟩:=List.mem_iff_getElem?.1 hx
   rw [List.getElem?_drop] at hk;exact ⟨i+1+k,x,by omega,hk,h⟩
 rintro ⟨k,p,hki,hk,h⟩
 by_cases hlt:k < i
 · exact .inl ⟨p,List.mem_of_getElem? (i:=k) (by rw [List.getElem?_take_of_lt hlt];exact hk),h⟩
 refine .inr ⟨p,List.mem_of_getElem? (i:=k - (i+1)) ?_,h⟩
 rw [List.getElem?_drop,show i+1+(k - (i+1))=k by omega];exact hk
theorem zih {l:List Opr} {i:Nat} {o:Opr} (ho:l[i]? = some o):zcx l i=true ↔ o.kind=1/\∃ (k:Nat) (p:Opr),k≠i/\l[k]? = some p/\clash o p=true:=by
 have hi:=(List.getElem?_eq_some_iff.1 ho).1;unfold zcx;rw [ho]
 show (o.kind == 1 && ((l.take i).any (clash o) || (l.drop (i+1)).any (clash o)))=true ↔ _
 rw [Bool.and_eq_true,beq_iff_eq,zub hi]
theorem zrb (w:World) (key frm end_:ByteArray):Calls Tryz.prog 150 #[.string key,.string frm,.string end_] w fun e w'=>e = .returned (.bool (inB key frm end_))/\w'=w :=
 (zgc w key frm end_).mono fun _ _ ⟨h,h'⟩=>⟨h,h'.symm⟩
set_option maxHeartbeats 8000000 in
theorem zju (w:World) (v:Value) (l:List Opr) (hv:SlR w 10 opC v l) (hl:l.length<=1099511627) (hks:∀ o∈l,o.rg.key.size<=1099511627776) :
 Calls Tryz.prog 112 #[v] w fun e w'=>e = .returned (.int .i64 (checkE l))/\Fr No w w':=by
 obtain ⟨a,cap,rfl,hc1,hc2,ha⟩:=hv.shape;have HV:=H_ hv;clear hv;have HA:=H_ ha;clear ha;have HKS:=H_ hks;clear hks;by_cases h16:16 < l.length
 · have h16':(16:Int) < (l.length:Int):=by omega
   have hE:checkE l=31:=(by unfold checkE;rw [if_pos h16]);rw [hE];go_enter Tryz.func112,Tryz.ntmps112;go_wp2;go_ret;exact ⟨rfl,Fr.refl No w⟩
 have h16':¬ (16:Int) < (l.length:Int):=by omega
 have hE:checkE l=match l.find? fun o=>oneE o != 0 with
  | some o=>oneE o
  | none=>if twice l then 34 else 0:=by unfold checkE;rw [if_neg h16];rfl
 have HE:=H_ hE;clear hE;go_enter Tryz.func112,Tryz.ntmps112;go_wp2
 go_loopg [3] l.length (fun g s3 wr=>∃ i:Nat,s3 = .int .i64 i/\i+g=l.length/\Hid (∀ j,j < i->∀ p,l[j]? = some p->oneE p=0)/\Hid (Fr No w wr))
 case atStart=>exact ⟨0,rfl,by simp,H_ (by simp),H_ (Fr.refl No w)⟩
 case round =>
  obtain ⟨i,rfl,hi,HJ,HF⟩:=hrel
  cases gk with
  | zero =>
    have hil:¬ (i:Int) < (l.length:Int):=(by omega)
    have hE2:checkE l=if twice l then 34 else 0:=by
     rw [HE.out]
     have:l.find? (fun o=>oneE o != 0)=none:=by
      rw [List.find?_eq_none];intro x hx;obtain ⟨j,hj,rfl⟩:=List.getElem_of_mem hx;have:=HJ.out j (by omega) _ (List.getElem?_eq_getElem hj);simp [this]
     rw [this]
    have HE2:=H_ hE2;clear hE2;have HFA:=HF;clear HJ HE HF;go_wp2
    go_loopg [6] l.length (fun g s6 wr2=>∃ i:Nat,s6 = .int .i64 i/\i+g=l.length/\Hid (∀ j,j < i->zcx l j=false)/\Hid (Fr No w wr2))
    case atStart=>exact ⟨0,rfl,by simp,H_ (by simp),HFA⟩
    clear HFA
    case round =>
     obtain ⟨i,rfl,hi,HJ,HFA⟩:=hrel
     cases gk with
     | zero =>
       have hil:¬ (i:Int) < (l.length:Int):=(by omega)
       have hE3:checkE l=0:=by
        rw [HE2.out]
        have:twice l=false:=by
         unfold twice;rw [List.any_eq_false];intro j hj;simp at hj;simpa using HJ.out j (by omega)
        rw [this];rfl
       have HE3:=H_ hE3;clear hE3;go_wp2;go_ret;exact ⟨by rw [HE3.out];rfl,HFA.out⟩
     | succ g =>
       obtain ⟨gb,go,rfl⟩:=HA.out (by omega);obtain ⟨o,ho⟩:∃ o,l[i]? = some o:=⟨_,List.getElem?_eq_getElem (by omega)⟩;have hil:(i:Int) < (l.length:Int):=(by omega);have HO:=H_ ho;clear ho;go_wp2
       go_loopg [7] l.length (fun g2 s7 wr3=>∃ k:Nat,s7 = .int .i64 k/\k+g2=l.length/\Hid (o.kind=1->∀ j,j < k->j≠i->∀ p,l[j]? = some p->clash o p=false)/\Hid (Fr No w wr3))
       case atStart=>exact ⟨0,rfl,by simp,H_ (fun _ j hj=>by omega),HFA⟩
       case round =>
        obtain ⟨k,rfl,hk,HJ2,HF3⟩:=hrel
        cases gk with
        | zero =>
          have hkl:¬ (k:Int) < (l.length:Int):=(by omega)
          have hta:zcx l i=false:=by
           rw [Bool.eq_false_iff];intro h;obtain ⟨h1,j,p,hji,hj,hcl⟩:=(zih HO.out).1 h;have hjl:=(List.getElem?_eq_some_iff.1 hj).1;have:=HJ2.out h1 j (by omega) hji p hj;rw [this] at hcl;cases hcl
          have HTA:=H_ hta;clear hta;go_wp2;go_roundg g
          case rel=>exact ⟨i+1,by go_num,by omega,H_ (fun j hj=>by
           by_cases hji:j=i
           · subst hji;exact HTA.out
           exact HJ.out j (by omega)),HF3⟩
          case measure=>omega
        | succ g2 =>
          obtain ⟨q,hq⟩:∃ q,l[k]? = some q:=⟨_,List.getElem?_eq_getElem (by omega)⟩;have hvr:=HV.out.fr0 HF3.out;have x0:=hvr.cell0 zaf i HO.out rfl;have x1:=hvr.cell zaf i 1 HO.out rfl;have y0:=hvr.cell0 zaf k hq rfl;have y1:=hvr.cell zaf k 1 hq rfl;have y2:=hvr.cell zaf k 2 hq rfl;clear hvr;have hkl:(k:Int) < (l.length:Int):=(by omega);have HQ:=H_ hq;clear hq;by_cases t1:i=k
          · subst t1
            have t1':((i:Int) == (i:Int))=true:=(by simp);go_wp2;go_roundg g2
            case rel=>exact ⟨i+1,by go_num,by omega,H_ (fun h j hj hji p hp=>HJ2.out h j (by omega) hji p hp),HF3⟩
            case measure=>omega
          have t1':((i:Int) == (k:Int))=false:=by rw [beq_eq_false_iff_ne];omega
          by_cases t2:o.kind=1
          · have t2':(o.kind == 1)=true:=by simpa using t2
            have t2'':(o.kind != 1)=false:=(by simpa using t2);have hcl:clash o q=((q.kind == 1 && q.rg.key.toList == o.rg.key.toList) || (q.kind == 2 && inB o.rg.key q.rg.key q.rg.end_)):=rfl
            have htw:clash o q=true->checkE l=34:=by
             intro h;rw [HE2.out]
             have:twice l=true:=by
              unfold twice;rw [List.any_eq_true];exact ⟨i,by simp;omega,(zih HO.out).2 ⟨t2,k,q,fun e=>t1 e.symm,HQ.out,h⟩⟩
             rw [this];rfl
            have HCL:=H_ hcl;have HTW:=H_ htw;clear hcl htw;generalize hcc:clash o q=cc at *;have HCC:=H_ hcc;clear hcc;obtain ⟨q0,⟨r1,r2,r3,r4,r5,r6,r7⟩,q2,q3⟩:=q;obtain ⟨o0,⟨k1,k2,k3,k4,k5,k6,k7⟩,o2,o3⟩:=o;dsimp only at *;go_upto_region 28 with fail
            go_cut [134] (fun s134 wx=>s134 = .bool cc/\Hid (Fr No wr wx))
            case first =>
             clear HTW HJ2 HJ HE2 HA HV HF3;by_cases v1:q0=1
             · subst v1
               cases v2:(r1.toList == k1.toList)
               · have hct:cc=false:=by rw [HCL.out];rw [v2];rfl
                 have HIN:Hid True:=H_ trivial;have HCT:=H_ hct;clear hct
                 go_quiet (first | (go_at_call 150;refine Calls.quiet_of_same (HIN.out _)))
                 go_wp2;go_meet
                 case rel=>exact ⟨by rw [HCT.out],H_ (Fr.drewN No wr _)⟩
               have hct:cc=true:=by rw [HCL.out];rw [v2];rfl
               have HIN:Hid True:=H_ trivial;have HCT:=H_ hct;clear hct
               go_quiet (first | (go_at_call 150;refine Calls.quiet_of_same (HIN.out _)))
               go_wp2;go_meet
               case rel=>exact ⟨by rw [HCT.out],H_ (Fr.drewN No wr _)⟩
             have v1':(q0 == 1)=false:=by simpa using v1
             by_cases v3:q0=2
             · subst v3
               have hin:=fun W=>zrb W k1 r1 r2;cases v4:inB k1 r1 r2
               · have hct:cc=false:=by rw [HCL.out];rw [v4];rfl
                 rw [v4] at hin;have HIN:=H_ hin;clear hin;have HCT:=H_ hct;clear hct
                 go_quiet (first | (go_at_call 150;refine Calls.quiet_of_same (HIN.out _)))
                 go_wp2;go_meet
                 case rel=>exact ⟨by rw [HCT.out],H_ (Fr.drewN No wr _)⟩
               have hct:cc=true:=by rw [HCL.out];rw [v4];rfl
               rw [v4] at hin;have HIN:=H_ hin;clear hin;have HCT:=H_ hct;clear hct
               go_quiet (first | (go_at_call 150;refine Calls.quiet_of_same (HIN.out _)))
               go_wp2;go_meet
               case rel=>exact ⟨by rw [HCT.out],H_ (Fr.drewN No wr _)⟩
             have v3':(q0 == 2)=false:=by simpa using v3
             have hct:cc=false:=(by rw [HCL.out];rw [v1',v3'];rfl);have HIN:Hid True:=H_ trivial;have HCT:=H_ hct;clear hct
             go_quiet (first | (go_at_call 150;refine Calls.quiet_of_same (HIN.out _)))
             go_wp2;go_meet
             case rel=>exact ⟨by rw [HCT.out],H_ (Fr.drewN No wr _)⟩
            case rest =>
             obtain ⟨rfl,HQF⟩:=hcut;cases cc
             · clear HTW
               go_wp2;go_roundg g2
               case rel=>exact ⟨k+1,by go_num,by omega,H_ (fun h j hj hji p hp=>by
                by_cases hjk:j=k
                · subst hjk;rw [HQ.out] at hp;cases hp;exact HCC.out
                exact HJ2.out h j (by omega) hji p hp),H_ (HF3.out.trans0 HQF.out)⟩
               case measure=>omega
             have E1:=H_ (HTW.out rfl)
             clear HTW;go_wp2;go_ret;exact ⟨by rw [E1.out];rfl,HF3.out.trans0 HQF.out⟩
          have t2':(o.kind == 1)=false:=by simpa using t2
          have t2'':(o.kind != 1)=true:=(by simpa using t2);go_wp2;go_roundg g2
          case rel=>exact ⟨k+1,by go_num,by omega,H_ (fun h=>absurd h t2),HF3⟩
          case measure=>omega
  | succ g =>
    obtain ⟨gb,go,rfl⟩:=HA.out (by omega);obtain ⟨p,hx⟩:∃ p,l[i]? = some p:=⟨_,List.getElem?_eq_getElem (by omega)⟩;have hvr:=HV.out.fr0 HF.out;have x0:=hvr.cell0 zaf i hx rfl;have x1:=hvr.cell zaf i 1 hx rfl;have x2:=hvr.cell zaf i 2 hx rfl;have x3:=hvr.cell zaf i 3 hx rfl;have x4:=hvr.cell zaf i 4 hx rfl;have x5:=hvr.cell zaf i 5 hx rfl;have x6:=hvr.cell zaf i 6 hx rfl;have x7:=hvr.cell zaf i 7 hx rfl;have x8:=hvr.cell zaf i 8 hx rfl;have x9:=hvr.cell zaf i 9 hx rfl;have hil:(i:Int) < (l.length:Int):=(by omega);have Hx:=H_ hx;have hkp:=HKS.out p (List.mem_of_getElem? hx);have hkc:=fun W=>zhl W p.rg.key hkp;have hac:=fun W=>zec W p.rg hkp;have hbc:=fun W=>zec W ⟨p.rg.key,p.rg.end_,0,0,false,false,false⟩ hkp
    have ho1:oneE p=if p.kind=3 then askE p.rg else if p.kind=2 then askE ⟨p.rg.key,p.rg.end_,0,0,false,false,false⟩
     else if p.kind=1 then (if keyE p.rg.key≠0 then keyE p.rg.key else if 1024 < p.value.size then 31 else if 0<=p.lease then 0 else 1) else 1:=rfl
    have hff:oneE p≠0->checkE l=oneE p:=by
     intro hp;rw [HE.out]
     have hf:l.find? (fun o=>oneE o != 0)=some p:=by
      rw [List.find?_eq_some_iff_getElem];have hil':i < l.length:=(List.getElem?_eq_some_iff.1 hx).1;refine ⟨by simpa using hp,i,hil',(List.getElem?_eq_some_iff.1 hx).2,fun j hji=>?_⟩;have:=HJ.out j hji _ (List.getElem?_eq_getElem (by omega));simp [this]
     rw [hf]
    have HFF:=H_ hff;clear hx hvr hff hkp;generalize hop:oneE p=op at *;have HOP:=H_ hop;clear hop;obtain ⟨p1,⟨g1,g2,g3,g4,g5,g6,g7⟩,p2,p3⟩:=p;unfold rgV at hac hbc;dsimp only at *;generalize keyE g1=kk at *;generalize askE ⟨g1,g2,g3,g4,g5,g6,g7⟩=aa at *;generalize askE ⟨g1,g2,0,0,false,false,false⟩=bb at *;have HKC:=H_ hkc;clear hkc;have HAC:=H_ hac;clear hac;have HBC:=H_ hbc;clear hbc;have HO1:=H_ ho1;clear ho1
    go_upto_block 2 with fail
    have hk0:(wr.alloc (Obj.cells #[.int .i64 p1,.string g1,.string g2,.int .i64 g3,.int .i64 g4,.bool g5,.bool g6,.bool g7,.string p2,.int .i64 p3] 94)).heap[wr.heap.size]? = some (.cells #[.int .i64 p1,.string g1,.string g2,.int .i64 g3,.int .i64 g4,.bool g5,.bool g6,.bool g7,.string p2,.int .i64 p3] 94 (0,0)):=zad _ _ _ rfl;have hf0:Fr No w (wr.alloc (Obj.cells #[.int .i64 p1,.string g1,.string g2,.int .i64 g3,.int .i64 g4,.bool g5,.bool g6,.bool g7,.string p2,.int .i64 p3] 94)):=HF.out.alloc _;generalize wr.alloc (Obj.cells #[.int .i64 p1,.string g1,.string g2,.int .i64 g3,.int .i64 g4,.bool g5,.bool g6,.bool g7,.string p2,.int .i64 p3] 94)=W0 at hk0 hf0 ⊢
    have z1:W0.cell? ⟨wr.heap.size,1,none⟩=some (.string g1):=(by simp [World.cell?,hk0]);have z2:W0.cell? ⟨wr.heap.size,2,none⟩=some (.string g2):=(by simp [World.cell?,hk0]);have z3:W0.cell? ⟨wr.heap.size,3,none⟩=some (.int .i64 g3):=(by simp [World.cell?,hk0]);have z4:W0.cell? ⟨wr.heap.size,4,none⟩=some (.int .i64 g4):=(by simp [World.cell?,hk0]);have z5:W0.cell? ⟨wr.heap.size,5,none⟩=some (.bool g5):=(by simp [World.cell?,hk0]);have z6:W0.cell? ⟨wr.heap.size,6,none⟩=some (.bool g6):=(by simp [World.cell?,hk0]);have z7:W0.cell? ⟨wr.heap.size,7,none⟩=some (.bool g7):=(by simp [World.cell?,hk0]);have lz:=zac hk0;clear x0 x1 x2 x3 x4 x5 x6 x7 x8 x9
    go_cut [5] (fun s5 wx=>s5 = .int .i64 op/\Hid (Fr No w wx))
    case first =>
     by_cases t3:p1=3
     · subst t3
       have e1:op=aa:=(by rw [HO1.out,if_pos rfl]);have E1:=H_ e1;clear e1;go_wp2_with (go_at_call 105;refine (HAC.out _).mono ?_;rintro e w1 ⟨rfl,hf1⟩);go_meet
       case rel=>exact ⟨by rw [E1.out],H_ (hf0.trans0 hf1)⟩
     have t3':(p1 == 3)=false:=by simpa using t3
     by_cases t2:p1=2
     · subst t2
       have e1:op=bb:=(by rw [HO1.out,if_neg t3,if_pos rfl]);have E1:=H_ e1;clear e1;clear t3 t3';go_wp2_with (go_at_call 105;refine (HBC.out _).mono ?_;rintro e w1 ⟨rfl,hf1⟩);go_meet
       case rel=>exact ⟨by rw [E1.out],H_ (hf0.trans0 hf1)⟩
     have t2':(p1 == 2)=false:=by simpa using t2
     by_cases t1:p1=1
     · subst t1
       have e1:op=if kk≠0 then kk else if 1024 < p2.size then 31 else if 0<=p3 then 0 else 1:=(by rw [HO1.out,if_neg t3,if_neg t2,if_pos rfl]);have E1:=H_ e1;clear e1;clear t2 t2' t3 t3';by_cases u1:kk≠0
       · have u1':(kk == 0)=false:=by simpa using u1
         have E2:Hid (op=kk):=H_ (by rw [E1.out,if_pos u1]);go_wp2_with (go_at_call 124;refine (HKC.out _).mono ?_;rintro e w1 ⟨rfl,hf1⟩;have hk1:=hf1.heap hk0 id;have y8:w1.cell? ⟨wr.heap.size,8,none⟩=some (.string p2):=(by simp [World.cell?,hk1]);have y9:w1.cell? ⟨wr.heap.size,9,none⟩=some (.int .i64 p3):=(by simp [World.cell?,hk1]));go_meet
         case rel=>exact ⟨by rw [E2.out],H_ (hf0.trans0 hf1)⟩
       have u1':kk=0:=by simpa using u1
       subst u1';by_cases u2:1024 < p2.size
       · have u2':(1024:Int) < (p2.size:Int):=by omega
         have E2:Hid (op=31):=H_ (by rw [E1.out,if_neg (by simp),if_pos u2]);go_wp2_with (go_at_call 124;refine (HKC.out _).mono ?_;rintro e w1 ⟨rfl,hf1⟩;have hk1:=hf1.heap hk0 id;have y8:w1.cell? ⟨wr.heap.size,8,none⟩=some (.string p2):=(by simp [World.cell?,hk1]);have y9:w1.cell? ⟨wr.heap.size,9,none⟩=some (.int .i64 p3):=(by simp [World.cell?,hk1]));go_meet
         case rel=>exact ⟨by rw [E2.out],H_ (hf0.trans0 hf1)⟩
       have u2':¬ (1024:Int) < (p2.size:Int):=by omega
       by_cases u3:0<=p3
       · have E2:Hid (op=0):=H_ (by rw [E1.out,if_neg (by simp),if_neg u2,if_pos u3])
         go_wp2_with (go_at_call 124;refine (HKC.out _).mono ?_;rintro e w1 ⟨rfl,hf1⟩;have hk1:=hf1.heap hk0 id;have y8:w1.cell? ⟨wr.heap.size,8,none⟩=some (.string p2):=(by simp [World.cell?,hk1]);have y9:w1.cell? ⟨wr.heap.size,9,none⟩=some (.int .i64 p3):=(by simp [World.cell?,hk1]));go_meet
         case rel=>exact ⟨by rw [E2.out],H_ (hf0.trans0 hf1)⟩
       have E2:Hid (op=1):=H_ (by rw [E1.out,if_neg (by simp),if_neg u2,if_neg u3])
       go_wp2_with (go_at_call 124;refine (HKC.out _).mono ?_;rintro e w1 ⟨rfl,hf1⟩;have hk1:=hf1.heap hk0 id;have y8:w1.cell? ⟨wr.heap.size,8,none⟩=some (.string p2):=(by simp [World.cell?,hk1]);have y9:w1.cell? ⟨wr.heap.size,9,none⟩=some (.int .i64 p3):=(by simp [World.cell?,hk1]));go_meet
       case rel=>exact ⟨by rw [E2.out],H_ (hf0.trans0 hf1)⟩
     have t1':(p1 == 1)=false:=by simpa using t1
     have e1:op=1:=(by rw [HO1.out,if_neg t3,if_neg t2,if_neg t1]);have E1:=H_ e1;clear e1;go_wp2;go_meet
     case rel=>exact ⟨by rw [E1.out],H_ hf0⟩
    case rest =>
     obtain ⟨rfl,HFc⟩:=hcut;by_cases hop:op≠0
     · have hop':(op == 0)=false:=by simpa using hop
       have E1:=H_ (HFF.out hop);clear HFF;go_wp2;go_ret;exact ⟨by rw [E1.out];rfl,HFc.out⟩
     have hop':(op == 0)=true:=by simpa using hop
     have hop0:op=0:=(by simpa using hop);have HOP0:=H_ hop0;clear HFF hop0;go_wp2;go_roundg g
     case rel=>exact ⟨i+1,by go_num,by omega,H_ (fun j hj q hq=>by
      by_cases hji:j=i
      · subst hji;rw [Hx.out] at hq;cases hq;rw [HOP.out,HOP0.out]
      exact HJ.out j (by omega) q hq),HFc⟩
     case measure=>omega
def rg0 (key:ByteArray):Rg:=⟨key,ByteArray.empty,0,0,false,false,false⟩
def bA:ByteArray:=⟨#[97]⟩
def bB:ByteArray:=⟨#[98]⟩
def b1:ByteArray:=⟨#[49]⟩
def b2:ByteArray:=⟨#[50]⟩
def putO (k v:ByteArray):Opr:=⟨1,rg0 k,v,0⟩
end Go.Proofs.YthljnnjpmdgkoaaGreat