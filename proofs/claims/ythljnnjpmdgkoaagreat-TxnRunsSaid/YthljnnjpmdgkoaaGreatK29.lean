/- Own lemmas. -/
import Derived.Test.YthljnnjpmdgkoaaGreatK28
import Derived.Test.YthljnnjpmdgkoaaGreatK23
import Derived.Deep.CutBlock
import Derived.Deep.RegionHeld3
namespace Go.Proofs.YthljnnjpmdgkoaaGreat
open Go Go.Proofs Go.RowKit Go.PlainAid
set_option maxRecDepth 100000
theorem zys (s:ByteArray) (h:bt s 0<128) (hs:0<s.size):oneOf s=1:=by
 have d:=bt_nonneg s 0;have b:leadN (bt s 0)=1:=by unfold leadN;rw [if_neg (by omega),if_neg (by omega),if_neg (by omega)]
 have c:leadV (bt s 0)=bt s 0:=by unfold leadV;rw [if_neg (by omega),if_neg (by omega),if_neg (by omega)]
 have a:leadL (bt s 0)=0:=by unfold leadL;rw [if_neg (by omega),if_neg (by omega),if_neg (by omega)]
 unfold oneOf;rw [b,c,a,if_neg (by omega),if_neg (by omega)]
 show (if bt s 0<0\/1114111<bt s 0\/(55296<=bt s 0/\bt s 0<=57343) then 0 else 1)=1
 rw [if_neg (by omega)]
theorem zyr (s:ByteArray) (h:128<=bt s 0) (h':bt s 0<192):oneOf s=0:=by
 unfold oneOf;rw [if_pos ⟨h,h'⟩]
theorem zxa (s:ByteArray) (h:248<=bt s 0):oneOf s=0:=by
 unfold oneOf;rw [if_neg (by omega),if_pos (.inl h)]
theorem zlu (s:ByteArray) (n:Nat) (v0 least:Int) (hN:leadN (bt s 0)=n) (hV:leadV (bt s 0)=v0) (hL:leadL (bt s 0)=least) (h1:192<=bt s 0) (h2:bt s 0<248) :
 oneOf s=if s.size<n then 0 else match contK s (n-1) 1 v0 with
  | none=>0
  | some v=>if v<least\/1114111<v\/(55296<=v/\v<=57343) then 0 else n:=by
 unfold oneOf;rw [hN,hV,hL,if_neg (by omega)];by_cases h:s.size<n
 · rw [if_pos (.inr h),if_pos h]
 rw [if_neg (by omega),if_neg h]
 rfl
theorem zmf (s:ByteArray) (g i:Nat) (v:Int) (h:bt s i<128\/191<bt s i):contK s (g+1) i v=none:=by
 rw [contK];rw [if_pos h]
theorem zmg (s:ByteArray) (g i:Nat) (v:Int) (h:¬ (bt s i<128\/191<bt s i)):contK s (g+1) i v=contK s g (i+1) (v * 64+bt s i-128):=by
 rw [contK];rw [if_neg h]
set_option maxHeartbeats 8000000 in
theorem zsj (w:World) (s:ByteArray) (hs:0<s.size):Calls Tryz.prog 164 #[.string s] w fun e w'=>e=.returned (.int .i64 (oneOf s:Int))/\w=w':=by
 have N:=get_bt s;have M:=bt_nonneg s 0;have K:=bt_le s 0;have L:(0:Int)<(s.size:Int):=by omega
 by_cases a1:bt s 0<128
 · have j:=zys s a1 hs
   have f:=H_ j;clear j;go_enter Tryz.func164,Tryz.ntmps164;go_wp2
   go_loopg [5,7] 0 (fun g s5 s7 wr=>g=0/\s5=.int .i64 (bt s 0)/\s7=.int .i64 1/\w=wr)
   case atStart=>exact ⟨rfl,rfl,rfl,rfl⟩
   case round =>
    obtain ⟨rfl,rfl,rfl,rfl⟩:=hrel;go_wp2;go_ret;exact ⟨by rw [f.out];rfl,rfl⟩
 by_cases a2:bt s 0<192
 · have j:=zyr s (by omega) a2
   have f:=H_ j;clear j;go_enter Tryz.func164,Tryz.ntmps164;go_wp2;go_ret;exact ⟨by rw [f.out];rfl,rfl⟩
 by_cases a5:248<=bt s 0
 · have j:=zxa s a5
   have f:=H_ j;clear j;go_enter Tryz.func164,Tryz.ntmps164;go_wp2;go_ret;exact ⟨by rw [f.out];rfl,rfl⟩
 by_cases a3:bt s 0<224
 · have j:=zlu s 2 (bt s 0-192) 128 (by unfold leadN;rw [if_neg (by omega),if_neg (by omega),if_pos (by omega)]) (by unfold leadV;rw [if_neg (by omega),if_neg (by omega),if_pos (by omega)]) (by unfold leadL;rw [if_neg (by omega),if_neg (by omega),if_pos (by omega)]) (by omega) (by omega)
   have f:=H_ j;clear j;by_cases hn:s.size<2
   · have q:(s.size:Int)<2:=by omega
     have z:oneOf s=0:=(by rw [f.out,if_pos hn]);have I:=H_ z;clear z;go_enter Tryz.func164,Tryz.ntmps164;go_wp2;go_ret;exact ⟨by rw [I.out];rfl,rfl⟩
   have q:¬ (s.size:Int)<2:=by omega
   rw [if_neg hn] at f;go_enter Tryz.func164,Tryz.ntmps164;go_wp2
   go_loopg [5,7] 1 (fun g s5 s7 wr=>∃ (i:Nat) (v:Int),s5=.int .i64 v/\s7=.int .i64 i/\1<=i/\i+g=2/\0<=v/\(i=1->v<=31)/\(i=2->v<=2047)/\(i=3->v<=131071)/\v<=8388607/\Hid (contK s 1 1 (bt s 0-192)=contK s g i v)/\w=wr)
   case atStart=>exact ⟨1,bt s 0-192,rfl,rfl,by omega,by omega,by omega,by omega,by omega,by omega,by omega,H_ rfl,rfl⟩
   case round =>
    obtain ⟨i,v,rfl,rfl,A,J,F,n,l,k,H,o,rfl⟩:=hrel
    cases gk with
    | zero =>
      have p:¬ (i:Int)<2:=(by omega);have y:oneOf s=if v<128\/1114111<v\/(55296<=v/\v<=57343) then 0 else 2:=(by rw [f.out,o.out];rfl);have m:=H_ y;clear y;clear n l k;by_cases t1:v<128
      · have a:oneOf s=0:=by rw [m.out,if_pos (by omega)]
        have b:=H_ a;clear a;go_wp2;go_ret;exact ⟨by rw [b.out];rfl,rfl⟩
      by_cases t2:1114111<v
      · have a:oneOf s=0:=by rw [m.out,if_pos (by omega)]
        have b:=H_ a;clear a;go_wp2;go_ret;exact ⟨by rw [b.out];rfl,rfl⟩
      by_cases t3:55296<=v
      · by_cases t4:v<=57343
        · have a:oneOf s=0:=by rw [m.out,if_pos (by omega)]
          have b:=H_ a;clear a;go_wp2;go_ret;exact ⟨by rw [b.out];rfl,rfl⟩
        have a:oneOf s=2:=by rw [m.out,if_neg (by omega)]
        have b:=H_ a;clear a;go_wp2;go_ret;exact ⟨by rw [b.out];rfl,rfl⟩
      have a:oneOf s=2:=by rw [m.out,if_neg (by omega)]
      have b:=H_ a;clear a;go_wp2;go_ret;exact ⟨by rw [b.out];rfl,rfl⟩
    | succ g =>
      have p:(i:Int)<2:=(by omega);have B:(i:Int)<(s.size:Int):=(by omega);have u:i<s.size:=(by omega);have D:=bt_nonneg s i;have C:=bt_le s i;have E:v<=131071:=(by omega);have x:=H_ (zmf s g i v);have G:=H_ (zmg s g i v);have d:i=1->v * 64+bt s i-128<=2047\/¬ bt s i<=191:=(by omega);have c:i=2->v * 64+bt s i-128<=131071\/¬ bt s i<=191:=(by omega);have r:=H_ d;have t:=H_ c;clear n l k d c;by_cases t1:bt s i<128
      · have a:oneOf s=0:=by rw [f.out,o.out,x.out (.inl t1)]
        have b:=H_ a;clear a;go_wp2;go_ret;exact ⟨by rw [b.out];rfl,rfl⟩
      by_cases t2:191<bt s i
      · have a:oneOf s=0:=by rw [f.out,o.out,x.out (.inr t2)]
        have b:=H_ a;clear a;go_wp2;go_ret;exact ⟨by rw [b.out];rfl,rfl⟩
      go_wp2;go_roundg g
      case rel=>exact ⟨i+1,v * 64+bt s i-128,by go_num,by go_num,by omega,by omega,by omega,by omega,fun h=>by have:=r.out (by omega);omega,fun h=>by have:=t.out (by omega);omega,by omega,H_ (by rw [o.out,G.out (by omega)]),rfl⟩
      case measure=>omega
 by_cases a4:bt s 0<240
 · have j:=zlu s 3 (bt s 0-224) 2048 (by unfold leadN;rw [if_neg (by omega),if_pos (by omega)]) (by unfold leadV;rw [if_neg (by omega),if_pos (by omega)]) (by unfold leadL;rw [if_neg (by omega),if_pos (by omega)]) (by omega) (by omega)
   have f:=H_ j;clear j;by_cases hn:s.size<3
   · have q:(s.size:Int)<3:=by omega
     have z:oneOf s=0:=(by rw [f.out,if_pos hn]);have I:=H_ z;clear z;go_enter Tryz.func164,Tryz.ntmps164;go_wp2;go_ret;exact ⟨by rw [I.out];rfl,rfl⟩
   have q:¬ (s.size:Int)<3:=by omega
   rw [if_neg hn] at f;go_enter Tryz.func164,Tryz.ntmps164;go_wp2
   go_loopg [5,7] 2 (fun g s5 s7 wr=>∃ (i:Nat) (v:Int),s5=.int .i64 v/\s7=.int .i64 i/\1<=i/\i+g=3/\0<=v/\(i=1->v<=31)/\(i=2->v<=2047)/\(i=3->v<=131071)/\v<=8388607/\Hid (contK s 2 1 (bt s 0-224)=contK s g i v)/\w=wr)
   case atStart=>exact ⟨1,bt s 0-224,rfl,rfl,by omega,by omega,by omega,by omega,by omega,by omega,by omega,H_ rfl,rfl⟩
   case round =>
    obtain ⟨i,v,rfl,rfl,A,J,F,n,l,k,H,o,rfl⟩:=hrel
    cases gk with
    | zero =>
      have p:¬ (i:Int)<3:=(by omega);have y:oneOf s=if v<2048\/1114111<v\/(55296<=v/\v<=57343) then 0 else 3:=(by rw [f.out,o.out];rfl);have m:=H_ y;clear y;clear n l k;by_cases t1:v<2048
      · have a:oneOf s=0:=by rw [m.out,if_pos (by omega)]
        have b:=H_ a;clear a;go_wp2;go_ret;exact ⟨by rw [b.out];rfl,rfl⟩
      by_cases t2:1114111<v
      · have a:oneOf s=0:=by rw [m.out,if_pos (by omega)]
        have b:=H_ a;clear a;go_wp2;go_ret;exact ⟨by rw [b.out];rfl,rfl⟩
      by_cases t3:55296<=v
      · by_cases t4:v<=57343
        · have a:oneOf s=0:=by rw [m.out,if_pos (by omega)]
          have b:=H_ a;clear a;go_wp2;go_ret;exact ⟨by rw [b.out];rfl,rfl⟩
        have a:oneOf s=3:=by rw [m.out,if_neg (by omega)]
        have b:=H_ a;clear a;go_wp2;go_ret;exact ⟨by rw [b.out];rfl,rfl⟩
      have a:oneOf s=3:=by rw [m.out,if_neg (by omega)]
      have b:=H_ a;clear a;go_wp2;go_ret;exact ⟨by rw [b.out];rfl,rfl⟩
    | succ g =>
      have p:(i:Int)<3:=(by omega);have B:(i:Int)<(s.size:Int):=(by omega);have u:i<s.size:=(by omega);have D:=bt_nonneg s i;have C:=bt_le s i;have E:v<=131071:=(by omega);have x:=H_ (zmf s g i v);have G:=H_ (zmg s g i v);have d:i=1->v * 64+bt s i-128<=2047\/¬ bt s i<=191:=(by omega);have c:i=2->v * 64+bt s i-128<=131071\/¬ bt s i<=191:=(by omega);have r:=H_ d;have t:=H_ c;clear n l k d c;by_cases t1:bt s i<128
      · have a:oneOf s=0:=by rw [f.out,o.out,x.out (.inl t1)]
        have b:=H_ a;clear a;go_wp2;go_ret;exact ⟨by rw [b.out];rfl,rfl⟩
      by_cases t2:191<bt s i
      · have a:oneOf s=0:=by rw [f.out,o.out,x.out (.inr t2)]
        have b:=H_ a;clear a;go_wp2;go_ret;exact ⟨by rw [b.out];rfl,rfl⟩
      go_wp2;go_roundg g
      case rel=>exact ⟨i+1,v * 64+bt s i-128,by go_num,by go_num,by omega,by omega,by omega,by omega,fun h=>by have:=r.out (by omega);omega,fun h=>by have:=t.out (by omega);omega,by omega,H_ (by rw [o.out,G.out (by omega)]),rfl⟩
      case measure=>omega
 have j:=zlu s 4 (bt s 0-240) 65536 (by unfold leadN;rw [if_pos (by omega)]) (by unfold leadV;rw [if_pos (by omega)]) (by unfold leadL;rw [if_pos (by omega)]) (by omega) (by omega);have f:=H_ j;clear j;by_cases hn:s.size<4
 · have q:(s.size:Int)<4:=by omega
   have z:oneOf s=0:=(by rw [f.out,if_pos hn]);have I:=H_ z;clear z;go_enter Tryz.func164,Tryz.ntmps164;go_wp2;go_ret;exact ⟨by rw [I.out];rfl,rfl⟩
 have q:¬ (s.size:Int)<4:=by omega
 rw [if_neg hn] at f;go_enter Tryz.func164,Tryz.ntmps164;go_wp2
 go_loopg [5,7] 3 (fun g s5 s7 wr=>∃ (i:Nat) (v:Int),s5=.int .i64 v/\s7=.int .i64 i/\1<=i/\i+g=4/\0<=v/\(i=1->v<=31)/\(i=2->v<=2047)/\(i=3->v<=131071)/\v<=8388607/\Hid (contK s 3 1 (bt s 0-240)=contK s g i v)/\w=wr)
 case atStart=>exact ⟨1,bt s 0-240,rfl,rfl,by omega,by omega,by omega,by omega,by omega,by omega,by omega,H_ rfl,rfl⟩
 case round =>
  obtain ⟨i,v,rfl,rfl,A,J,F,n,l,k,H,o,rfl⟩:=hrel
  cases gk with
  | zero =>
    have p:¬ (i:Int)<4:=(by omega);have y:oneOf s=if v<65536\/1114111<v\/(55296<=v/\v<=57343) then 0 else 4:=(by rw [f.out,o.out];rfl);have m:=H_ y;clear y;clear n l k;by_cases t1:v<65536
    · have a:oneOf s=0:=by rw [m.out,if_pos (by omega)]
      have b:=H_ a;clear a;go_wp2;go_ret;exact ⟨by rw [b.out];rfl,rfl⟩
    by_cases t2:1114111<v
    · have a:oneOf s=0:=by rw [m.out,if_pos (by omega)]
      have b:=H_ a;clear a;go_wp2;go_ret;exact ⟨by rw [b.out];rfl,rfl⟩
    by_cases t3:55296<=v
    · by_cases t4:v<=57343
      · have a:oneOf s=0:=by rw [m.out,if_pos (by omega)]
        have b:=H_ a;clear a;go_wp2;go_ret;exact ⟨by rw [b.out];rfl,rfl⟩
      have a:oneOf s=4:=by rw [m.out,if_neg (by omega)]
      have b:=H_ a;clear a;go_wp2;go_ret;exact ⟨by rw [b.out];rfl,rfl⟩
    have a:oneOf s=4:=by rw [m.out,if_neg (by omega)]
    have b:=H_ a;clear a;go_wp2;go_ret;exact ⟨by rw [b.out];rfl,rfl⟩
  | succ g =>
    have p:(i:Int)<4:=(by omega);have B:(i:Int)<(s.size:Int):=(by omega);have u:i<s.size:=(by omega);have D:=bt_nonneg s i;have C:=bt_le s i;have E:v<=131071:=(by omega);have x:=H_ (zmf s g i v);have G:=H_ (zmg s g i v);have d:i=1->v * 64+bt s i-128<=2047\/¬ bt s i<=191:=(by omega);have c:i=2->v * 64+bt s i-128<=131071\/¬ bt s i<=191:=(by omega);have r:=H_ d;have t:=H_ c;clear n l k d c;by_cases t1:bt s i<128
    · have a:oneOf s=0:=by rw [f.out,o.out,x.out (.inl t1)]
      have b:=H_ a;clear a;go_wp2;go_ret;exact ⟨by rw [b.out];rfl,rfl⟩
    by_cases t2:191<bt s i
    · have a:oneOf s=0:=by rw [f.out,o.out,x.out (.inr t2)]
      have b:=H_ a;clear a;go_wp2;go_ret;exact ⟨by rw [b.out];rfl,rfl⟩
    go_wp2;go_roundg g
    case rel=>exact ⟨i+1,v * 64+bt s i-128,by go_num,by go_num,by omega,by omega,by omega,by omega,fun h=>by have:=r.out (by omega);omega,fun h=>by have:=t.out (by omega);omega,by omega,H_ (by rw [o.out,G.out (by omega)]),rfl⟩
    case measure=>omega
theorem zng (s:ByteArray):∀ (g i g':Nat),s.size<=i+g->g<=g'->refK s g' i=refK s g i
 | 0,i,g',h,_=>by
   cases g' with
   | zero=>rfl
   | succ g'=>unfold refK;rw [if_neg (by omega)]
 | g+1,i,g',h,hg=>by
   cases g' with
   | zero=>omega
   | succ g' =>
     unfold refK;by_cases hi:i<s.size
     · rw [if_pos hi,if_pos hi]
       split
       · rfl
       rename_i hn
       have:1<=oneOf (s.extract i s.size):=by
        rcases Nat.eq_zero_or_pos (oneOf (s.extract i s.size)) with a | a
        · exact absurd (.inl a) hn
        exact a
       exact zng s g _ g' (by omega) (by omega)
     rw [if_neg hi,if_neg hi]
set_option maxHeartbeats 4000000 in
theorem zcz (w:World) (s:ByteArray) (hs:s.size<=1099511627776):Calls Tryz.prog 124 #[.string s] w fun e w'=>e=.returned (.int .i64 (keyE s))/\Fr No w w':=by
 have x:=zse s;unfold zpc at x;have l:=H_ x;clear x;by_cases h0:s.size=0
 · have A:s.toList = []:=by
    rw [Lib.toList_data];exact List.eq_nil_of_length_eq_zero (by simpa using h0)
   have y:s.toList.isEmpty=true:=(by rw [A];rfl);have p:(s.toList == [])=true:=(by rw [A];rfl);have a:keyE s=30:=(by rw [<-l.out,if_pos h0]);have b:=H_ a;clear a;clear A;go_enter Tryz.func124,Tryz.ntmps124;go_wp2;go_ret;exact ⟨by rw [b.out];rfl,Fr.refl No w⟩
 have k:s.toList≠[]:=by
  rw [Lib.toList_data];intro h;have:=congrArg List.length h;simp at this;exact h0 (by rw [this];rfl)
 have y:s.toList.isEmpty=false:=(by simpa using k);have p:(s.toList == [])=false:=(by simpa using k);rw [if_neg h0] at l;have K:=get_bt s;clear k;go_enter Tryz.func124,Tryz.ntmps124;go_wp2
 go_loopg [3] s.size (fun g s3 wr=>∃ i:Nat,s3=.int .i64 i/\i+g=s.size/\Hid (refK s s.size 0=refK s g i)/\w=wr)
 case atStart=>exact ⟨0,rfl,by simp,H_ rfl,rfl⟩
 case round =>
  obtain ⟨i,rfl,L,r,rfl⟩:=hrel
  cases gk with
  | zero =>
    have t:¬ (i:Int)<(s.size:Int):=(by omega);have c:refK s s.size 0=true:=(by rw [r.out];rfl);by_cases h64:64<s.size
    · have m:(64:Int)<(s.size:Int):=by omega
      have a:keyE s=31:=(by rw [<-l.out,c,if_neg (by simp),if_pos h64]);have b:=H_ a;clear a;clear c;go_wp2;go_ret;exact ⟨by rw [b.out];rfl,Fr.refl No w⟩
    have m:¬ (64:Int)<(s.size:Int):=by omega
    have a:keyE s=0:=(by rw [<-l.out,c,if_neg (by simp),if_neg h64]);have b:=H_ a;clear a;clear c;go_wp2;go_ret;exact ⟨by rw [b.out];rfl,Fr.refl No w⟩
  | succ g =>
    have t:(i:Int)<(s.size:Int):=(by omega);have d:i<s.size:=(by omega);have C:(i:Int)<=(s.size:Int):=(by omega);have o:=fun W=>zsj W (s.extract i s.size) (by simp;omega);have q:refK s (g+1) i=if oneOf (s.extract i s.size)=0\/bt s i=0 then false else refK s g (i+oneOf (s.extract i s.size)):=(by rw [refK];rw [if_pos d])
    have j:oneOf (s.extract i s.size)≠0->1<=oneOf (s.extract i s.size)/\i+oneOf (s.extract i s.size)<=s.size:=by
     intro F;rcases one_at s i d with ⟨_,B⟩ | ⟨_,B,_,I,_⟩
     · exact absurd B F
     exact ⟨B,I⟩
    generalize oneOf (s.extract i s.size)=n at *;have v:=H_ o;clear o;have f:=H_ q;clear q;by_cases t1:n=0
    · subst t1
      have u:refK s s.size 0=false:=(by rw [r.out,f.out];exact if_pos (.inl rfl));have a:keyE s=30:=(by rw [<-l.out,u];rfl);have b:=H_ a;clear a;clear j;go_wp2_with (go_at_call 164;refine (v.out _).mono ?_;rintro e w' ⟨rfl,rfl⟩);go_ret;exact ⟨by rw [b.out];rfl,Fr.refl No w⟩
    obtain ⟨H,J⟩:=j t1
    have G:((n:Int)==0)=false:=(by simpa using t1);have D:=bt_nonneg s i;have E:=bt_le s i;clear j;by_cases t2:bt s i=0
    · have z:(bt s i==0)=true:=by simpa using t2
      have u:refK s s.size 0=false:=(by rw [r.out,f.out];exact if_pos (.inr t2));have a:keyE s=30:=(by rw [<-l.out,u];rfl);have b:=H_ a;clear a;clear t2;go_wp2_with (go_at_call 164;refine (v.out _).mono ?_;rintro e w' ⟨rfl,rfl⟩);go_ret;exact ⟨by rw [b.out];rfl,Fr.refl No w⟩
    have z:(bt s i==0)=false:=by simpa using t2
    have a:refK s s.size 0=refK s (s.size-(i+n)) (i+n):=by
     rw [r.out,f.out,if_neg (by omega)];exact zng s _ _ _ (by omega) (by omega)
    have b:=H_ a;clear a;go_wp2_with (go_at_call 164;refine (v.out _).mono ?_;rintro e w' ⟨rfl,rfl⟩);go_roundg (s.size-(i+n))
    case rel=>exact ⟨i+n,by go_num,by omega,b,rfl⟩
    case measure=>omega
theorem zgo (w:World) (key frm end_:ByteArray):Calls Tryz.prog 150 #[.string key,.string frm,.string end_] w fun e w'=>e=.returned (.bool (inB key frm end_))/\w=w':=by
 unfold inB;cases h1:end_.toList.isEmpty
 · cases h2:(end_.toList == [0])
   · cases h3:Op.bytesLess key.toList frm.toList <;>
     · go_enter Tryz.func150,Tryz.ntmps150
       go_wp2;go_ret;exact ⟨by simp,rfl⟩
   cases h3:Op.bytesLess key.toList frm.toList <;>
   · go_enter Tryz.func150,Tryz.ntmps150
     go_wp2;go_ret;exact ⟨by simp,rfl⟩
 go_enter Tryz.func150,Tryz.ntmps150
 go_wp2;go_ret;exact ⟨by simp,rfl⟩
theorem zgy (w:World) (g:Rg) (hs:g.key.size<=1099511627776):Calls Tryz.prog 105 #[rgV g] w fun e w'=>e=.returned (.int .i64 (askE g))/\Fr No w w':=by
 have i:=fun W=>zcz W g.key hs;obtain ⟨j,c,d,f,n,m,l⟩:=g;unfold askE rgV;dsimp only at *;generalize keyE j=k at *;clear hs;by_cases h1:k≠0
 · have q:(k==0)=false:=by simpa using h1
   rw [if_pos h1];go_enter Tryz.func105,Tryz.ntmps105;go_wp2_with (go_at_call 124;refine (i _).mono ?_;rintro e w1 ⟨rfl,a⟩);go_ret;exact ⟨rfl,((Fr.refl No w).alloc _).trans0 a⟩
 have q:(k==0)=true:=by simpa using h1
 rw [if_neg h1];by_cases h2:64<c.size
 · have p:(64:Int)<(c.size:Int):=by omega
   rw [if_pos h2];go_enter Tryz.func105,Tryz.ntmps105
   go_wp2_with (go_at_call 124;refine (i _).mono ?_;rintro e w1 ⟨rfl,a⟩
                have b:w1.heap[w.heap.size]?=some (.cells #[.string j,.string c,.int .i64 d,.int .i64 f,.bool n,.bool m,.bool l] 35 (0,0)):=a.heap (zad _ _ _ rfl) id;have o:w1.cell? ⟨w.heap.size,1,none⟩=some (.string c):=cellAt b 1 rfl)
   go_ret;exact ⟨rfl,((Fr.refl No w).alloc _).trans0 a⟩
 have p:¬ (64:Int)<(c.size:Int):=by omega
 rw [if_neg h2];by_cases h3:d<0
 · have u:¬ 0<=d:=by omega
   rw [if_pos (.inl h3)];go_enter Tryz.func105,Tryz.ntmps105
   go_wp2_with (go_at_call 124;refine (i _).mono ?_;rintro e w1 ⟨rfl,a⟩
                have b:w1.heap[w.heap.size]?=some (.cells #[.string j,.string c,.int .i64 d,.int .i64 f,.bool n,.bool m,.bool l] 35 (0,0)):=a.heap (zad _ _ _ rfl) id;have o:w1.cell? ⟨w.heap.size,1,none⟩=some (.string c):=cellAt b 1 rfl;have r:w1.cell? ⟨w.heap.size,2,none⟩=some (.int .i64 d):=cellAt b 2 rfl)
   go_ret;exact ⟨rfl,((Fr.refl No w).alloc _).trans0 a⟩
 by_cases h4:f<0
 · have s:¬ 0<=f:=by omega
   rw [if_pos (.inr h4)];go_enter Tryz.func105,Tryz.ntmps105
   go_wp2_with (go_at_call 124;refine (i _).mono ?_;rintro e w1 ⟨rfl,a⟩
                have b:w1.heap[w.heap.size]?=some (.cells #[.string j,.string c,.int .i64 d,.int .i64 f,.bool n,.bool m,.bool l] 35 (0,0)):=a.heap (zad _ _ _ rfl) id;have o:w1.cell? ⟨w.heap.size,1,none⟩=some (.string c):=cellAt b 1 rfl;have r:w1.cell? ⟨w.heap.size,2,none⟩=some (.int .i64 d):=cellAt b 2 rfl;have t:w1.cell? ⟨w.heap.size,3,none⟩=some (.int .i64 f):=cellAt b 3 rfl)
   go_ret;exact ⟨rfl,((Fr.refl No w).alloc _).trans0 a⟩
 rw [if_neg (by omega)]
 go_enter Tryz.func105,Tryz.ntmps105
 go_wp2_with (go_at_call 124;refine (i _).mono ?_;rintro e w1 ⟨rfl,a⟩
              have b:w1.heap[w.heap.size]?=some (.cells #[.string j,.string c,.int .i64 d,.int .i64 f,.bool n,.bool m,.bool l] 35 (0,0)):=a.heap (zad _ _ _ rfl) id;have o:w1.cell? ⟨w.heap.size,1,none⟩=some (.string c):=cellAt b 1 rfl;have r:w1.cell? ⟨w.heap.size,2,none⟩=some (.int .i64 d):=cellAt b 2 rfl;have t:w1.cell? ⟨w.heap.size,3,none⟩=some (.int .i64 f):=cellAt b 3 rfl)
 go_ret;exact ⟨rfl,((Fr.refl No w).alloc _).trans0 a⟩
theorem zgi (w:World) (c:Cmp) (hs:c.key.size<=1099511627776):Calls Tryz.prog 79 #[cmpV c] w fun e w'=>e=.returned (.int .i64 (cmpE c))/\Fr No w w':=by
 have i:=fun W=>zcz W c.key hs;obtain ⟨j,f,l,g,d⟩:=c;unfold cmpE cmpV;dsimp only at *;generalize keyE j=k at *;clear hs;by_cases h1:k≠0
 · have s:(k==0)=false:=by simpa using h1
   rw [if_pos h1];go_enter Tryz.func79,Tryz.ntmps79;go_wp2_with (go_at_call 124;refine (i _).mono ?_;rintro e w1 ⟨rfl,b⟩);go_ret;exact ⟨rfl,((Fr.refl No w).alloc _).trans0 b⟩
 have s:(k==0)=true:=by simpa using h1
 rw [if_neg h1];by_cases h2:f<1
 · rw [if_pos (.inl h2)]
   go_enter Tryz.func79,Tryz.ntmps79
   go_wp2_with (go_at_call 124;refine (i _).mono ?_;rintro e w1 ⟨rfl,b⟩
                have a:w1.heap[w.heap.size]?=some (.cells #[.string j,.int .i64 f,.int .i64 l,.int .i64 g,.string d] 53 (0,0)):=b.heap (zad _ _ _ rfl) id;have m:w1.cell? ⟨w.heap.size,1,none⟩=some (.int .i64 f):=cellAt a 1 rfl)
   go_ret;exact ⟨rfl,((Fr.refl No w).alloc _).trans0 b⟩
 by_cases h3:5<f
 · rw [if_pos (.inr h3)]
   go_enter Tryz.func79,Tryz.ntmps79
   go_wp2_with (go_at_call 124;refine (i _).mono ?_;rintro e w1 ⟨rfl,b⟩
                have a:w1.heap[w.heap.size]?=some (.cells #[.string j,.int .i64 f,.int .i64 l,.int .i64 g,.string d] 53 (0,0)):=b.heap (zad _ _ _ rfl) id;have m:w1.cell? ⟨w.heap.size,1,none⟩=some (.int .i64 f):=cellAt a 1 rfl)
   go_ret;exact ⟨rfl,((Fr.refl No w).alloc _).trans0 b⟩
 rw [if_neg (c:=f<1\/5<f) (by omega)]
 by_cases h4:1024<d.size
 · have q:(1024:Int)<(d.size:Int):=by omega
   rw [if_pos h4];go_enter Tryz.func79,Tryz.ntmps79
   go_wp2_with (go_at_call 124;refine (i _).mono ?_;rintro e w1 ⟨rfl,b⟩
                have a:w1.heap[w.heap.size]?=some (.cells #[.string j,.int .i64 f,.int .i64 l,.int .i64 g,.string d] 53 (0,0)):=b.heap (zad _ _ _ rfl) id;have m:w1.cell? ⟨w.heap.size,1,none⟩=some (.int .i64 f):=cellAt a 1 rfl;have p:w1.cell? ⟨w.heap.size,4,none⟩=some (.string d):=cellAt a 4 rfl)
   go_ret;exact ⟨rfl,((Fr.refl No w).alloc _).trans0 b⟩
 have q:¬ (1024:Int)<(d.size:Int):=by omega
 rw [if_neg h4];by_cases h5:f=4
 · subst h5
   by_cases h6:g=0
   · subst h6
     rw [if_neg (by simp)];go_enter Tryz.func79,Tryz.ntmps79
     go_wp2_with (go_at_call 124;refine (i _).mono ?_;rintro e w1 ⟨rfl,b⟩
                  have a:w1.heap[w.heap.size]?=some (.cells #[.string j,.int .i64 4,.int .i64 l,.int .i64 0,.string d] 53 (0,0)):=b.heap (zad _ _ _ rfl) id;have m:w1.cell? ⟨w.heap.size,1,none⟩=some (.int .i64 4):=cellAt a 1 rfl;have r:w1.cell? ⟨w.heap.size,3,none⟩=some (.int .i64 0):=cellAt a 3 rfl;have p:w1.cell? ⟨w.heap.size,4,none⟩=some (.string d):=cellAt a 4 rfl)
     go_ret;exact ⟨rfl,((Fr.refl No w).alloc _).trans0 b⟩
   have o:(g==0)=false:=by simpa using h6
   rw [if_pos (.inl ⟨rfl,h6⟩)];go_enter Tryz.func79,Tryz.ntmps79
   go_wp2_with (go_at_call 124;refine (i _).mono ?_;rintro e w1 ⟨rfl,b⟩
                have a:w1.heap[w.heap.size]?=some (.cells #[.string j,.int .i64 4,.int .i64 l,.int .i64 g,.string d] 53 (0,0)):=b.heap (zad _ _ _ rfl) id;have m:w1.cell? ⟨w.heap.size,1,none⟩=some (.int .i64 4):=cellAt a 1 rfl;have r:w1.cell? ⟨w.heap.size,3,none⟩=some (.int .i64 g):=cellAt a 3 rfl;have p:w1.cell? ⟨w.heap.size,4,none⟩=some (.string d):=cellAt a 4 rfl)
   go_ret;exact ⟨rfl,((Fr.refl No w).alloc _).trans0 b⟩
 have t:(f==4)=false:=by simpa using h5
 by_cases h6:d.toList = []
 · have o:d.toList.isEmpty=true:=by rw [h6];rfl
   have n:(d.toList == [])=true:=(by rw [h6];rfl);rw [if_neg (by simp [h5,h6])];go_enter Tryz.func79,Tryz.ntmps79
   go_wp2_with (go_at_call 124;refine (i _).mono ?_;rintro e w1 ⟨rfl,b⟩
                have a:w1.heap[w.heap.size]?=some (.cells #[.string j,.int .i64 f,.int .i64 l,.int .i64 g,.string d] 53 (0,0)):=b.heap (zad _ _ _ rfl) id;have m:w1.cell? ⟨w.heap.size,1,none⟩=some (.int .i64 f):=cellAt a 1 rfl;have r:w1.cell? ⟨w.heap.size,3,none⟩=some (.int .i64 g):=cellAt a 3 rfl;have p:w1.cell? ⟨w.heap.size,4,none⟩=some (.string d):=cellAt a 4 rfl)
   go_ret;exact ⟨rfl,((Fr.refl No w).alloc _).trans0 b⟩
 have o:d.toList.isEmpty=false:=by simpa using h6
 have n:(d.toList == [])=false:=(by simpa using h6);rw [if_pos (.inr ⟨h5,h6⟩)];go_enter Tryz.func79,Tryz.ntmps79
 go_wp2_with (go_at_call 124;refine (i _).mono ?_;rintro e w1 ⟨rfl,b⟩
              have a:w1.heap[w.heap.size]?=some (.cells #[.string j,.int .i64 f,.int .i64 l,.int .i64 g,.string d] 53 (0,0)):=b.heap (zad _ _ _ rfl) id;have m:w1.cell? ⟨w.heap.size,1,none⟩=some (.int .i64 f):=cellAt a 1 rfl;have r:w1.cell? ⟨w.heap.size,3,none⟩=some (.int .i64 g):=cellAt a 3 rfl;have p:w1.cell? ⟨w.heap.size,4,none⟩=some (.string d):=cellAt a 4 rfl)
 go_ret;exact ⟨rfl,((Fr.refl No w).alloc _).trans0 b⟩
open Go Go.Proofs Go.RowKit
theorem zwa {l:List Opr} {P:Opr->Bool} {i:Nat} (hi:i<l.length):((l.take i).any P||(l.drop (i+1)).any P)=true ↔ ∃ (k:Nat) (p:Opr),k≠i/\l[k]?=some p/\P p=true:=by
 rw [Bool.or_eq_true,List.any_eq_true,List.any_eq_true]
 constructor
 · rintro (⟨x,c,h⟩ | ⟨x,c,h⟩)
   · obtain ⟨k,a⟩:=List.mem_iff_getElem?.1 c
     have b:=(List.getElem?_eq_some_iff.1 a).1;rw [List.length_take] at b;rw [List.getElem?_take_of_lt (by omega)] at a;exact ⟨k,x,by omega,a,h⟩
   obtain ⟨k,a⟩:=List.mem_iff_getElem?.1 c
   rw [List.getElem?_drop] at a;exact ⟨i+1+k,x,by omega,a,h⟩
 rintro ⟨k,p,d,a,h⟩
 by_cases b:k<i
 · exact .inl ⟨p,List.mem_of_getElem? (i:=k) (by rw [List.getElem?_take_of_lt b];exact a),h⟩
 refine .inr ⟨p,List.mem_of_getElem? (i:=k-(i+1)) ?_,h⟩
 rw [List.getElem?_drop,show i+1+(k-(i+1))=k by omega];exact a
theorem ziq {l:List Opr} {i:Nat} {o:Opr} (ho:l[i]?=some o):zdd l i=true↔o.kind=1/\∃ (k:Nat) (p:Opr),k≠i/\l[k]?=some p/\clash o p=true:=by
 have a:=(List.getElem?_eq_some_iff.1 ho).1;unfold zdd;rw [ho]
 show (o.kind==1&&((l.take i).any (clash o)||(l.drop (i+1)).any (clash o)))=true↔_
 rw [Bool.and_eq_true,beq_iff_eq,zwa a]
theorem zsf (w:World) (key frm end_:ByteArray):Calls Tryz.prog 150 #[.string key,.string frm,.string end_] w fun e w'=>e=.returned (.bool (inB key frm end_))/\w'=w :=
 (zgo w key frm end_).mono fun _ _ ⟨h,h'⟩=>⟨h,h'.symm⟩
set_option maxHeartbeats 8000000 in
theorem zdr (w:World) (v:Value) (l:List Opr) (hv:SlR w 10 opC v l) (hl:l.length<=1099511627) (hks:∀ o∈l,o.rg.key.size<=1099511627776) :
 Calls Tryz.prog 112 #[v] w fun e w'=>e=.returned (.int .i64 (checkE l))/\Fr No w w':=by
 obtain ⟨a,cap,rfl,b8,bj,ha⟩:=hv.shape;have HV:=H_ hv;clear hv;have HA:=H_ ha;clear ha;have aE:=H_ hks;clear hks;by_cases h16:16<l.length
 · have ao:(16:Int)<(l.length:Int):=by omega
   have hE:checkE l=31:=(by unfold checkE;rw [if_pos h16]);rw [hE];go_enter Tryz.func112,Tryz.ntmps112;go_wp2;go_ret;exact ⟨rfl,Fr.refl No w⟩
 have ao:¬ (16:Int)<(l.length:Int):=by omega
 have hE:checkE l=match l.find? fun o=>oneE o != 0 with
  | some o=>oneE o
  | none=>if twice l then 34 else 0:=by unfold checkE;rw [if_neg h16];rfl
 have HE:=H_ hE;clear hE;go_enter Tryz.func112,Tryz.ntmps112;go_wp2
 go_loopg [3] l.length (fun g s3 wr=>∃ i:Nat,s3=.int .i64 i/\i+g=l.length/\Hid (∀ j,j<i->∀ p,l[j]?=some p->oneE p=0)/\Hid (Fr No w wr))
 case atStart=>exact ⟨0,rfl,by simp,H_ (by simp),H_ (Fr.refl No w)⟩
 case round =>
  obtain ⟨i,rfl,hi,S,HF⟩:=hrel
  cases gk with
  | zero =>
    have Z:¬ (i:Int)<(l.length:Int):=(by omega)
    have aj:checkE l=if twice l then 34 else 0:=by
     rw [HE.out]
     have:l.find? (fun o=>oneE o != 0)=none:=by
      rw [List.find?_eq_none];intro x u;obtain ⟨j,G,rfl⟩:=List.getElem_of_mem u;have:=S.out j (by omega) _ (List.getElem?_eq_getElem G);simp [this]
     rw [this]
    have a3:=H_ aj;clear aj;have J:=HF;clear S HE HF;go_wp2
    go_loopg [6] l.length (fun g s6 wr2=>∃ i:Nat,s6=.int .i64 i/\i+g=l.length/\Hid (∀ j,j<i->zdd l j=false)/\Hid (Fr No w wr2))
    case atStart=>exact ⟨0,rfl,by simp,H_ (by simp),J⟩
    clear J
    case round =>
     obtain ⟨i,rfl,hi,S,J⟩:=hrel
     cases gk with
     | zero =>
       have Z:¬ (i:Int)<(l.length:Int):=(by omega)
       have ar:checkE l=0:=by
        rw [a3.out]
        have:twice l=false:=by
         unfold twice;rw [List.any_eq_false];intro j G;simp at G;simpa using S.out j (by omega)
        rw [this];rfl
       have aK:=H_ ar;clear ar;go_wp2;go_ret;exact ⟨by rw [aK.out];rfl,J.out⟩
     | succ g =>
       obtain ⟨gb,go,rfl⟩:=HA.out (by omega);obtain ⟨o,ho⟩:∃ o,l[i]?=some o:=⟨_,List.getElem?_eq_getElem (by omega)⟩;have Z:(i:Int)<(l.length:Int):=(by omega);have HO:=H_ ho;clear ho;go_wp2
       go_loopg [7] l.length (fun D s7 wr3=>∃ k:Nat,s7=.int .i64 k/\k+D=l.length/\Hid (o.kind=1->∀ j,j<k->j≠i->∀ p,l[j]?=some p->clash o p=false)/\Hid (Fr No w wr3))
       case atStart=>exact ⟨0,rfl,by simp,H_ (fun _ j G=>by omega),J⟩
       case round =>
        obtain ⟨k,rfl,hk,P,z⟩:=hrel
        cases gk with
        | zero =>
          have aR:¬ (k:Int)<(l.length:Int):=(by omega)
          have ax:zdd l i=false:=by
           rw [Bool.eq_false_iff];intro h;obtain ⟨h1,j,p,m,G,H⟩:=(ziq HO.out).1 h;have bk:=(List.getElem?_eq_some_iff.1 G).1;have:=P.out h1 j (by omega) m p G;rw [this] at H;cases H
          have aN:=H_ ax;clear ax;go_wp2;go_roundg g
          case rel=>exact ⟨i+1,by go_num,by omega,H_ (fun j G=>by
           by_cases m:j=i
           · subst m;exact aN.out
           exact S.out j (by omega)),z⟩
          case measure=>omega
        | succ D =>
          obtain ⟨q,R⟩:∃ q,l[k]?=some q:=⟨_,List.getElem?_eq_getElem (by omega)⟩;have b:=HV.out.fr0 z.out;have x0:=b.cell0 zaf i HO.out rfl;have x1:=b.cell zaf i 1 HO.out rfl;have y0:=b.cell0 zaf k R rfl;have y1:=b.cell zaf k 1 R rfl;have y2:=b.cell zaf k 2 R rfl;clear b;have aR:(k:Int)<(l.length:Int):=(by omega);have HQ:=H_ R;clear R;by_cases t1:i=k
          · subst t1
            have ag:((i:Int)==(i:Int))=true:=(by simp);go_wp2;go_roundg D
            case rel=>exact ⟨i+1,by go_num,by omega,H_ (fun h j G m p hp=>P.out h j (by omega) m p hp),z⟩
            case measure=>omega
          have ag:((i:Int)==(k:Int))=false:=by rw [beq_eq_false_iff_ne];omega
          by_cases t2:o.kind=1
          · have V:(o.kind==1)=true:=by simpa using t2
            have an:(o.kind != 1)=false:=(by simpa using t2);have H:clash o q=((q.kind==1&&q.rg.key.toList==o.rg.key.toList)||(q.kind==2&&inB o.rg.key q.rg.key q.rg.end_)):=rfl
            have ae:clash o q=true->checkE l=34:=by
             intro h;rw [a3.out]
             have:twice l=true:=by
              unfold twice;rw [List.any_eq_true];exact ⟨i,by simp;omega,(ziq HO.out).2 ⟨t2,k,q,fun e=>t1 e.symm,HQ.out,h⟩⟩
             rw [this];rfl
            have I:=H_ H;have Q:=H_ ae;clear H ae;generalize al:clash o q=cc at *;have aC:=H_ al;clear al;obtain ⟨q0,⟨r1,r2,r3,r4,r5,r6,r7⟩,q2,q3⟩:=q;obtain ⟨o0,⟨k1,k2,k3,k4,k5,k6,k7⟩,o2,o3⟩:=o;dsimp only at *;go_upto_region 28 with fail
            go_cut [134] (fun s134 wx=>s134=.bool cc/\Hid (Fr No wr wx))
            case first =>
             clear Q P S a3 HA HV z;by_cases v1:q0=1
             · subst v1
               cases v2:(r1.toList==k1.toList)
               · have d:cc=false:=by rw [I.out];rw [v2];rfl
                 have s:Hid True:=H_ trivial;have r:=H_ d;clear d
                 go_quiet (first | (go_at_call 150;refine Calls.quiet_of_same (s.out _)))
                 go_wp2;go_meet
                 case rel=>exact ⟨by rw [r.out],H_ (Fr.drewN No wr _)⟩
               have d:cc=true:=by rw [I.out];rw [v2];rfl
               have s:Hid True:=H_ trivial;have r:=H_ d;clear d
               go_quiet (first | (go_at_call 150;refine Calls.quiet_of_same (s.out _)))
               go_wp2;go_meet
               case rel=>exact ⟨by rw [r.out],H_ (Fr.drewN No wr _)⟩
             have aM:(q0==1)=false:=by simpa using v1
             by_cases v3:q0=2
             · subst v3
               have C:=fun W=>zsf W k1 r1 r2;cases v4:inB k1 r1 r2
               · have d:cc=false:=by rw [I.out];rw [v4];rfl
                 rw [v4] at C;have s:=H_ C;clear C;have r:=H_ d;clear d
                 go_quiet (first | (go_at_call 150;refine Calls.quiet_of_same (s.out _)))
                 go_wp2;go_meet
                 case rel=>exact ⟨by rw [r.out],H_ (Fr.drewN No wr _)⟩
               have d:cc=true:=by rw [I.out];rw [v4];rfl
               rw [v4] at C;have s:=H_ C;clear C;have r:=H_ d;clear d
               go_quiet (first | (go_at_call 150;refine Calls.quiet_of_same (s.out _)))
               go_wp2;go_meet
               case rel=>exact ⟨by rw [r.out],H_ (Fr.drewN No wr _)⟩
             have aG:(q0==2)=false:=by simpa using v3
             have d:cc=false:=(by rw [I.out];rw [aM,aG];rfl);have s:Hid True:=H_ trivial;have r:=H_ d;clear d
             go_quiet (first | (go_at_call 150;refine Calls.quiet_of_same (s.out _)))
             go_wp2;go_meet
             case rel=>exact ⟨by rw [r.out],H_ (Fr.drewN No wr _)⟩
            case rest =>
             obtain ⟨rfl,ah⟩:=hcut;cases cc
             · clear Q
               go_wp2;go_roundg D
               case rel=>exact ⟨k+1,by go_num,by omega,H_ (fun h j G m p hp=>by
                by_cases hjk:j=k
                · subst hjk;rw [HQ.out] at hp;cases hp;exact aC.out
                exact P.out h j (by omega) m p hp),H_ (z.out.trans0 ah.out)⟩
               case measure=>omega
             have A:=H_ (Q.out rfl)
             clear Q;go_wp2;go_ret;exact ⟨by rw [A.out];rfl,z.out.trans0 ah.out⟩
          have V:(o.kind==1)=false:=by simpa using t2
          have an:(o.kind != 1)=true:=(by simpa using t2);go_wp2;go_roundg D
          case rel=>exact ⟨k+1,by go_num,by omega,H_ (fun h=>absurd h t2),z⟩
          case measure=>omega
  | succ g =>
    obtain ⟨gb,go,rfl⟩:=HA.out (by omega);obtain ⟨p,u⟩:∃ p,l[i]?=some p:=⟨_,List.getElem?_eq_getElem (by omega)⟩;have b:=HV.out.fr0 HF.out;have x0:=b.cell0 zaf i u rfl;have x1:=b.cell zaf i 1 u rfl;have x2:=b.cell zaf i 2 u rfl;have x3:=b.cell zaf i 3 u rfl;have x4:=b.cell zaf i 4 u rfl;have x5:=b.cell zaf i 5 u rfl;have x6:=b.cell zaf i 6 u rfl;have x7:=b.cell zaf i 7 u rfl;have x8:=b.cell zaf i 8 u rfl;have x9:=b.cell zaf i 9 u rfl;have Z:(i:Int)<(l.length:Int):=(by omega);have Hx:=H_ u;have N:=aE.out p (List.mem_of_getElem? u);have ai:=fun W=>zcz W p.rg.key N;have a1:=fun W=>zgy W p.rg N;have a5:=fun W=>zgy W ⟨p.rg.key,p.rg.end_,0,0,false,false,false⟩ N
    have ap:oneE p=if p.kind=3 then askE p.rg else if p.kind=2 then askE ⟨p.rg.key,p.rg.end_,0,0,false,false,false⟩
     else if p.kind=1 then (if keyE p.rg.key≠0 then keyE p.rg.key else if 1024<p.value.size then 31 else if 0<=p.lease then 0 else 1) else 1:=rfl
    have aw:oneE p≠0->checkE l=oneE p:=by
     intro hp;rw [HE.out]
     have hf:l.find? (fun o=>oneE o != 0)=some p:=by
      rw [List.find?_eq_some_iff_getElem];have am:i<l.length:=(List.getElem?_eq_some_iff.1 u).1;refine ⟨by simpa using hp,i,am,(List.getElem?_eq_some_iff.1 u).2,fun j m=>?_⟩;have:=S.out j m _ (List.getElem?_eq_getElem (by omega));simp [this]
     rw [hf]
    have Y:=H_ aw;clear u b aw N;generalize y:oneE p=B at *;have aI:=H_ y;clear y;obtain ⟨K,⟨U,D,g3,g4,g5,g6,g7⟩,E,L⟩:=p;unfold rgV at a1 a5;dsimp only at *;generalize keyE U=kk at *;generalize askE ⟨U,D,g3,g4,g5,g6,g7⟩=aa at *;generalize askE ⟨U,D,0,0,false,false,false⟩=bb at *;have M:=H_ ai;clear ai;have aS:=H_ a1;clear a1;have aT:=H_ a5;clear a5;have O:=H_ ap;clear ap
    go_upto_block 2 with fail
    have f:(wr.alloc (Obj.cells #[.int .i64 K,.string U,.string D,.int .i64 g3,.int .i64 g4,.bool g5,.bool g6,.bool g7,.string E,.int .i64 L] 94)).heap[wr.heap.size]?=some (.cells #[.int .i64 K,.string U,.string D,.int .i64 g3,.int .i64 g4,.bool g5,.bool g6,.bool g7,.string E,.int .i64 L] 94 (0,0)):=zad _ _ _ rfl;have t:Fr No w (wr.alloc (Obj.cells #[.int .i64 K,.string U,.string D,.int .i64 g3,.int .i64 g4,.bool g5,.bool g6,.bool g7,.string E,.int .i64 L] 94)):=HF.out.alloc _;generalize wr.alloc (Obj.cells #[.int .i64 K,.string U,.string D,.int .i64 g3,.int .i64 g4,.bool g5,.bool g6,.bool g7,.string E,.int .i64 L] 94)=W0 at f t ⊢
    have z1:W0.cell? ⟨wr.heap.size,1,none⟩=some (.string U):=cellAt f 1 rfl;have z2:W0.cell? ⟨wr.heap.size,2,none⟩=some (.string D):=cellAt f 2 rfl;have z3:W0.cell? ⟨wr.heap.size,3,none⟩=some (.int .i64 g3):=cellAt f 3 rfl;have z4:W0.cell? ⟨wr.heap.size,4,none⟩=some (.int .i64 g4):=cellAt f 4 rfl;have z5:W0.cell? ⟨wr.heap.size,5,none⟩=some (.bool g5):=cellAt f 5 rfl;have z6:W0.cell? ⟨wr.heap.size,6,none⟩=some (.bool g6):=cellAt f 6 rfl;have z7:W0.cell? ⟨wr.heap.size,7,none⟩=some (.bool g7):=cellAt f 7 rfl;have lz:=zaa f;clear x0 x1 x2 x3 x4 x5 x6 x7 x8 x9
    go_cut [5] (fun s5 wx=>s5=.int .i64 B/\Hid (Fr No w wx))
    case first =>
     by_cases t3:K=3
     · subst t3
       have F:B=aa:=(by rw [O.out,if_pos rfl]);have A:=H_ F;clear F;go_wp2_with (go_at_call 105;refine (aS.out _).mono ?_;rintro e w1 ⟨rfl,c⟩);go_meet
       case rel=>exact ⟨by rw [A.out],H_ (t.trans0 c)⟩
     have af:(K==3)=false:=by simpa using t3
     by_cases t2:K=2
     · subst t2
       have F:B=bb:=(by rw [O.out,if_neg t3,if_pos rfl]);have A:=H_ F;clear F;clear t3 af;go_wp2_with (go_at_call 105;refine (aT.out _).mono ?_;rintro e w1 ⟨rfl,c⟩);go_meet
       case rel=>exact ⟨by rw [A.out],H_ (t.trans0 c)⟩
     have V:(K==2)=false:=by simpa using t2
     by_cases t1:K=1
     · subst t1
       have F:B=if kk≠0 then kk else if 1024<E.size then 31 else if 0<=L then 0 else 1:=(by rw [O.out,if_neg t3,if_neg t2,if_pos rfl]);have A:=H_ F;clear F;clear t2 V t3 af;by_cases u1:kk≠0
       · have ak:(kk==0)=false:=by simpa using u1
         have X:Hid (B=kk):=H_ (by rw [A.out,if_pos u1]);go_wp2_with (go_at_call 124;refine (M.out _).mono ?_;rintro e w1 ⟨rfl,c⟩;have n:=c.heap f id;have y8:w1.cell? ⟨wr.heap.size,8,none⟩=some (.string E):=cellAt n 8 rfl;have y9:w1.cell? ⟨wr.heap.size,9,none⟩=some (.int .i64 L):=cellAt n 9 rfl);go_meet
         case rel=>exact ⟨by rw [X.out],H_ (t.trans0 c)⟩
       have ak:kk=0:=by simpa using u1
       subst ak;by_cases u2:1024<E.size
       · have aH:(1024:Int)<(E.size:Int):=by omega
         have X:Hid (B=31):=H_ (by rw [A.out,if_neg (by simp),if_pos u2]);go_wp2_with (go_at_call 124;refine (M.out _).mono ?_;rintro e w1 ⟨rfl,c⟩;have n:=c.heap f id;have y8:w1.cell? ⟨wr.heap.size,8,none⟩=some (.string E):=cellAt n 8 rfl;have y9:w1.cell? ⟨wr.heap.size,9,none⟩=some (.int .i64 L):=cellAt n 9 rfl);go_meet
         case rel=>exact ⟨by rw [X.out],H_ (t.trans0 c)⟩
       have aH:¬ (1024:Int)<(E.size:Int):=by omega
       by_cases u3:0<=L
       · have X:Hid (B=0):=H_ (by rw [A.out,if_neg (by simp),if_neg u2,if_pos u3])
         go_wp2_with (go_at_call 124;refine (M.out _).mono ?_;rintro e w1 ⟨rfl,c⟩;have n:=c.heap f id;have y8:w1.cell? ⟨wr.heap.size,8,none⟩=some (.string E):=cellAt n 8 rfl;have y9:w1.cell? ⟨wr.heap.size,9,none⟩=some (.int .i64 L):=cellAt n 9 rfl);go_meet
         case rel=>exact ⟨by rw [X.out],H_ (t.trans0 c)⟩
       have X:Hid (B=1):=H_ (by rw [A.out,if_neg (by simp),if_neg u2,if_neg u3])
       go_wp2_with (go_at_call 124;refine (M.out _).mono ?_;rintro e w1 ⟨rfl,c⟩;have n:=c.heap f id;have y8:w1.cell? ⟨wr.heap.size,8,none⟩=some (.string E):=cellAt n 8 rfl;have y9:w1.cell? ⟨wr.heap.size,9,none⟩=some (.int .i64 L):=cellAt n 9 rfl);go_meet
       case rel=>exact ⟨by rw [X.out],H_ (t.trans0 c)⟩
     have ag:(K==1)=false:=by simpa using t1
     have F:B=1:=(by rw [O.out,if_neg t3,if_neg t2,if_neg t1]);have A:=H_ F;clear F;go_wp2;go_meet
     case rel=>exact ⟨by rw [A.out],H_ t⟩
    case rest =>
     obtain ⟨rfl,av⟩:=hcut;by_cases y:B≠0
     · have au:(B==0)=false:=by simpa using y
       have A:=H_ (Y.out y);clear Y;go_wp2;go_ret;exact ⟨by rw [A.out];rfl,av.out⟩
     have au:(B==0)=true:=by simpa using y
     have T:B=0:=(by simpa using y);have aq:=H_ T;clear Y T;go_wp2;go_roundg g
     case rel=>exact ⟨i+1,by go_num,by omega,H_ (fun j G q R=>by
      by_cases m:j=i
      · subst m;rw [Hx.out] at R;cases R;rw [aI.out,aq.out]
      exact S.out j (by omega) q R),av⟩
     case measure=>omega
end Go.Proofs.YthljnnjpmdgkoaaGreat