/- Own lemmas. -/
import Derived.Test.YtdgkdfmfoonbpaaGreatQ33
namespace Go.Proofs.YtdgkdfmfoonbpaaGreat
open Go Go.Proofs Go.RowKit Go.PlainAid
set_option maxRecDepth 100000
set_option maxHeartbeats 16000000
theorem zzaj (s:ByteArray) (h:bt s 0<128) (hs:0<s.size):oneOf s=1:=by
 have d:=bt_nonneg s 0;have b:leadN (bt s 0)=1:=by unfold leadN;rw [if_neg (by omega),if_neg (by omega),if_neg (by omega)]
 have c:leadV (bt s 0)=bt s 0:=by unfold leadV;rw [if_neg (by omega),if_neg (by omega),if_neg (by omega)]
 have a:leadL (bt s 0)=0:=by unfold leadL;rw [if_neg (by omega),if_neg (by omega),if_neg (by omega)]
 unfold oneOf;rw [b,c,a,if_neg (by omega),if_neg (by omega)]
 show (if bt s 0<0\/1114111<bt s 0\/(55296<=bt s 0/\bt s 0<=57343) then 0 else 1)=1
 rw [if_neg (by omega)]
theorem zzai (s:ByteArray) (h:128<=bt s 0) (h':bt s 0<192):oneOf s=0:=by
 unfold oneOf;rw [if_pos ⟨h,h'⟩]
theorem zyj (s:ByteArray) (h:248<=bt s 0):oneOf s=0:=by
 unfold oneOf;rw [if_neg (by omega),if_pos (.inl h)]
theorem zla (s:ByteArray) (n:Nat) (v0 least:Int) (hN:leadN (bt s 0)=n) (hV:leadV (bt s 0)=v0) (hL:leadL (bt s 0)=least) (h1:192<=bt s 0) (h2:bt s 0<248) :
 oneOf s=if s.size<n then 0 else match contK s (n-1) 1 v0 with
  | none=>0
  | some v=>if v<least\/1114111<v\/(55296<=v/\v<=57343) then 0 else n:=by
 unfold oneOf;rw [hN,hV,hL,if_neg (by omega)];by_cases h:s.size<n
 · rw [if_pos (.inr h),if_pos h]
 rw [if_neg (by omega),if_neg h]
 rfl
theorem zlp (s:ByteArray) (g i:Nat) (v:Int) (h:bt s i<128\/191<bt s i):contK s (g+1) i v=none:=by
 rw [contK];rw [if_pos h]
theorem zlq (s:ByteArray) (g i:Nat) (v:Int) (h:¬ (bt s i<128\/191<bt s i)):contK s (g+1) i v=contK s g (i+1) (v * 64+bt s i-128):=by
 rw [contK];rw [if_neg h]
theorem zsu (w:World) (s:ByteArray) (hs:0<s.size):Calls Tryz.prog 118 #[.string s] w fun e w'=>e=.returned (.int .i64 (oneOf s:Int))/\w=w':=by
 have O:=get_bt s;have L:=bt_nonneg s 0;have M:=bt_le s 0;have N:(0:Int)<(s.size:Int):=by omega
 by_cases a1:bt s 0<128
 · have k:=zzaj s a1 hs
   have f:=H_ k;clear k;go_enter Tryz.func118,Tryz.ntmps118;go_wp2
   go_loopg [5,7] 0 (fun g s5 s7 wr=>g=0/\s5=.int .i64 (bt s 0)/\s7=.int .i64 1/\w=wr)
   case atStart=>exact ⟨rfl,rfl,rfl,rfl⟩
   case round =>
    obtain ⟨rfl,rfl,rfl,rfl⟩:=hrel;go_wp2;go_ret;exact ⟨by rw [f.out];rfl,rfl⟩
 by_cases a2:bt s 0<192
 · have k:=zzai s (by omega) a2
   have f:=H_ k;clear k;go_enter Tryz.func118,Tryz.ntmps118;go_wp2;go_ret;exact ⟨by rw [f.out];rfl,rfl⟩
 by_cases a5:248<=bt s 0
 · have k:=zyj s a5
   have f:=H_ k;clear k;go_enter Tryz.func118,Tryz.ntmps118;go_wp2;go_ret;exact ⟨by rw [f.out];rfl,rfl⟩
 by_cases a3:bt s 0<224
 · have k:=zla s 2 (bt s 0-192) 128 (by unfold leadN;rw [if_neg (by omega),if_neg (by omega),if_pos (by omega)]) (by unfold leadV;rw [if_neg (by omega),if_neg (by omega),if_pos (by omega)]) (by unfold leadL;rw [if_neg (by omega),if_neg (by omega),if_pos (by omega)]) (by omega) (by omega)
   have f:=H_ k;clear k;by_cases hn:s.size<2
   · have u:(s.size:Int)<2:=by omega
     have y:oneOf s=0:=(by rw [f.out,if_pos hn]);have B:=H_ y;clear y;go_enter Tryz.func118,Tryz.ntmps118;go_wp2;go_ret;exact ⟨by rw [B.out];rfl,rfl⟩
   have u:¬ (s.size:Int)<2:=by omega
   rw [if_neg hn] at f;go_enter Tryz.func118,Tryz.ntmps118;go_wp2
   go_loopg [5,7] 1 (fun g s5 s7 wr=>∃ (i:Nat) (v:Int),s5=.int .i64 v/\s7=.int .i64 i/\1<=i/\i+g=2/\0<=v/\(i=1->v<=31)/\(i=2->v<=2047)/\(i=3->v<=131071)/\v<=8388607/\Hid (contK s 1 1 (bt s 0-192)=contK s g i v)/\w=wr)
   case atStart=>exact ⟨1,bt s 0-192,rfl,rfl,by omega,by omega,by omega,by omega,by omega,by omega,by omega,H_ rfl,rfl⟩
   case round =>
    obtain ⟨i,v,rfl,rfl,F,K,H,l,m,n,I,o,rfl⟩:=hrel
    cases gk with
    | zero =>
      have t:¬ (i:Int)<2:=(by omega);have z:oneOf s=if v<128\/1114111<v\/(55296<=v/\v<=57343) then 0 else 2:=(by rw [f.out,o.out];rfl);have j:=H_ z;clear z;clear l m n;by_cases t1:v<128
      · have a:oneOf s=0:=by rw [j.out,if_pos (by omega)]
        have b:=H_ a;clear a;go_wp2;go_ret;exact ⟨by rw [b.out];rfl,rfl⟩
      by_cases t2:1114111<v
      · have a:oneOf s=0:=by rw [j.out,if_pos (by omega)]
        have b:=H_ a;clear a;go_wp2;go_ret;exact ⟨by rw [b.out];rfl,rfl⟩
      by_cases t3:55296<=v
      · by_cases t4:v<=57343
        · have a:oneOf s=0:=by rw [j.out,if_pos (by omega)]
          have b:=H_ a;clear a;go_wp2;go_ret;exact ⟨by rw [b.out];rfl,rfl⟩
        have a:oneOf s=2:=by rw [j.out,if_neg (by omega)]
        have b:=H_ a;clear a;go_wp2;go_ret;exact ⟨by rw [b.out];rfl,rfl⟩
      have a:oneOf s=2:=by rw [j.out,if_neg (by omega)]
      have b:=H_ a;clear a;go_wp2;go_ret;exact ⟨by rw [b.out];rfl,rfl⟩
    | succ g =>
      have t:(i:Int)<2:=(by omega);have G:(i:Int)<(s.size:Int):=(by omega);have A:i<s.size:=(by omega);have D:=bt_nonneg s i;have E:=bt_le s i;have J:v<=131071:=(by omega);have x:=H_ (zlp s g i v);have C:=H_ (zlq s g i v);have c:i=1->v * 64+bt s i-128<=2047\/¬ bt s i<=191:=(by omega);have d:i=2->v * 64+bt s i-128<=131071\/¬ bt s i<=191:=(by omega);have q:=H_ c;have r:=H_ d;clear l m n c d;by_cases t1:bt s i<128
      · have a:oneOf s=0:=by rw [f.out,o.out,x.out (.inl t1)]
        have b:=H_ a;clear a;go_wp2;go_ret;exact ⟨by rw [b.out];rfl,rfl⟩
      by_cases t2:191<bt s i
      · have a:oneOf s=0:=by rw [f.out,o.out,x.out (.inr t2)]
        have b:=H_ a;clear a;go_wp2;go_ret;exact ⟨by rw [b.out];rfl,rfl⟩
      go_wp2;go_roundg g
      case rel=>exact ⟨i+1,v * 64+bt s i-128,by go_num,by go_num,by omega,by omega,by omega,by omega,fun h=>by have:=q.out (by omega);omega,fun h=>by have:=r.out (by omega);omega,by omega,H_ (by rw [o.out,C.out (by omega)]),rfl⟩
      case measure=>omega
 by_cases a4:bt s 0<240
 · have k:=zla s 3 (bt s 0-224) 2048 (by unfold leadN;rw [if_neg (by omega),if_pos (by omega)]) (by unfold leadV;rw [if_neg (by omega),if_pos (by omega)]) (by unfold leadL;rw [if_neg (by omega),if_pos (by omega)]) (by omega) (by omega)
   have f:=H_ k;clear k;by_cases hn:s.size<3
   · have u:(s.size:Int)<3:=by omega
     have y:oneOf s=0:=(by rw [f.out,if_pos hn]);have B:=H_ y;clear y;go_enter Tryz.func118,Tryz.ntmps118;go_wp2;go_ret;exact ⟨by rw [B.out];rfl,rfl⟩
   have u:¬ (s.size:Int)<3:=by omega
   rw [if_neg hn] at f;go_enter Tryz.func118,Tryz.ntmps118;go_wp2
   go_loopg [5,7] 2 (fun g s5 s7 wr=>∃ (i:Nat) (v:Int),s5=.int .i64 v/\s7=.int .i64 i/\1<=i/\i+g=3/\0<=v/\(i=1->v<=31)/\(i=2->v<=2047)/\(i=3->v<=131071)/\v<=8388607/\Hid (contK s 2 1 (bt s 0-224)=contK s g i v)/\w=wr)
   case atStart=>exact ⟨1,bt s 0-224,rfl,rfl,by omega,by omega,by omega,by omega,by omega,by omega,by omega,H_ rfl,rfl⟩
   case round =>
    obtain ⟨i,v,rfl,rfl,F,K,H,l,m,n,I,o,rfl⟩:=hrel
    cases gk with
    | zero =>
      have t:¬ (i:Int)<3:=(by omega);have z:oneOf s=if v<2048\/1114111<v\/(55296<=v/\v<=57343) then 0 else 3:=(by rw [f.out,o.out];rfl);have j:=H_ z;clear z;clear l m n;by_cases t1:v<2048
      · have a:oneOf s=0:=by rw [j.out,if_pos (by omega)]
        have b:=H_ a;clear a;go_wp2;go_ret;exact ⟨by rw [b.out];rfl,rfl⟩
      by_cases t2:1114111<v
      · have a:oneOf s=0:=by rw [j.out,if_pos (by omega)]
        have b:=H_ a;clear a;go_wp2;go_ret;exact ⟨by rw [b.out];rfl,rfl⟩
      by_cases t3:55296<=v
      · by_cases t4:v<=57343
        · have a:oneOf s=0:=by rw [j.out,if_pos (by omega)]
          have b:=H_ a;clear a;go_wp2;go_ret;exact ⟨by rw [b.out];rfl,rfl⟩
        have a:oneOf s=3:=by rw [j.out,if_neg (by omega)]
        have b:=H_ a;clear a;go_wp2;go_ret;exact ⟨by rw [b.out];rfl,rfl⟩
      have a:oneOf s=3:=by rw [j.out,if_neg (by omega)]
      have b:=H_ a;clear a;go_wp2;go_ret;exact ⟨by rw [b.out];rfl,rfl⟩
    | succ g =>
      have t:(i:Int)<3:=(by omega);have G:(i:Int)<(s.size:Int):=(by omega);have A:i<s.size:=(by omega);have D:=bt_nonneg s i;have E:=bt_le s i;have J:v<=131071:=(by omega);have x:=H_ (zlp s g i v);have C:=H_ (zlq s g i v);have c:i=1->v * 64+bt s i-128<=2047\/¬ bt s i<=191:=(by omega);have d:i=2->v * 64+bt s i-128<=131071\/¬ bt s i<=191:=(by omega);have q:=H_ c;have r:=H_ d;clear l m n c d;by_cases t1:bt s i<128
      · have a:oneOf s=0:=by rw [f.out,o.out,x.out (.inl t1)]
        have b:=H_ a;clear a;go_wp2;go_ret;exact ⟨by rw [b.out];rfl,rfl⟩
      by_cases t2:191<bt s i
      · have a:oneOf s=0:=by rw [f.out,o.out,x.out (.inr t2)]
        have b:=H_ a;clear a;go_wp2;go_ret;exact ⟨by rw [b.out];rfl,rfl⟩
      go_wp2;go_roundg g
      case rel=>exact ⟨i+1,v * 64+bt s i-128,by go_num,by go_num,by omega,by omega,by omega,by omega,fun h=>by have:=q.out (by omega);omega,fun h=>by have:=r.out (by omega);omega,by omega,H_ (by rw [o.out,C.out (by omega)]),rfl⟩
      case measure=>omega
 have k:=zla s 4 (bt s 0-240) 65536 (by unfold leadN;rw [if_pos (by omega)]) (by unfold leadV;rw [if_pos (by omega)]) (by unfold leadL;rw [if_pos (by omega)]) (by omega) (by omega);have f:=H_ k;clear k;by_cases hn:s.size<4
 · have u:(s.size:Int)<4:=by omega
   have y:oneOf s=0:=(by rw [f.out,if_pos hn]);have B:=H_ y;clear y;go_enter Tryz.func118,Tryz.ntmps118;go_wp2;go_ret;exact ⟨by rw [B.out];rfl,rfl⟩
 have u:¬ (s.size:Int)<4:=by omega
 rw [if_neg hn] at f;go_enter Tryz.func118,Tryz.ntmps118;go_wp2
 go_loopg [5,7] 3 (fun g s5 s7 wr=>∃ (i:Nat) (v:Int),s5=.int .i64 v/\s7=.int .i64 i/\1<=i/\i+g=4/\0<=v/\(i=1->v<=31)/\(i=2->v<=2047)/\(i=3->v<=131071)/\v<=8388607/\Hid (contK s 3 1 (bt s 0-240)=contK s g i v)/\w=wr)
 case atStart=>exact ⟨1,bt s 0-240,rfl,rfl,by omega,by omega,by omega,by omega,by omega,by omega,by omega,H_ rfl,rfl⟩
 case round =>
  obtain ⟨i,v,rfl,rfl,F,K,H,l,m,n,I,o,rfl⟩:=hrel
  cases gk with
  | zero =>
    have t:¬ (i:Int)<4:=(by omega);have z:oneOf s=if v<65536\/1114111<v\/(55296<=v/\v<=57343) then 0 else 4:=(by rw [f.out,o.out];rfl);have j:=H_ z;clear z;clear l m n;by_cases t1:v<65536
    · have a:oneOf s=0:=by rw [j.out,if_pos (by omega)]
      have b:=H_ a;clear a;go_wp2;go_ret;exact ⟨by rw [b.out];rfl,rfl⟩
    by_cases t2:1114111<v
    · have a:oneOf s=0:=by rw [j.out,if_pos (by omega)]
      have b:=H_ a;clear a;go_wp2;go_ret;exact ⟨by rw [b.out];rfl,rfl⟩
    by_cases t3:55296<=v
    · by_cases t4:v<=57343
      · have a:oneOf s=0:=by rw [j.out,if_pos (by omega)]
        have b:=H_ a;clear a;go_wp2;go_ret;exact ⟨by rw [b.out];rfl,rfl⟩
      have a:oneOf s=4:=by rw [j.out,if_neg (by omega)]
      have b:=H_ a;clear a;go_wp2;go_ret;exact ⟨by rw [b.out];rfl,rfl⟩
    have a:oneOf s=4:=by rw [j.out,if_neg (by omega)]
    have b:=H_ a;clear a;go_wp2;go_ret;exact ⟨by rw [b.out];rfl,rfl⟩
  | succ g =>
    have t:(i:Int)<4:=(by omega);have G:(i:Int)<(s.size:Int):=(by omega);have A:i<s.size:=(by omega);have D:=bt_nonneg s i;have E:=bt_le s i;have J:v<=131071:=(by omega);have x:=H_ (zlp s g i v);have C:=H_ (zlq s g i v);have c:i=1->v * 64+bt s i-128<=2047\/¬ bt s i<=191:=(by omega);have d:i=2->v * 64+bt s i-128<=131071\/¬ bt s i<=191:=(by omega);have q:=H_ c;have r:=H_ d;clear l m n c d;by_cases t1:bt s i<128
    · have a:oneOf s=0:=by rw [f.out,o.out,x.out (.inl t1)]
      have b:=H_ a;clear a;go_wp2;go_ret;exact ⟨by rw [b.out];rfl,rfl⟩
    by_cases t2:191<bt s i
    · have a:oneOf s=0:=by rw [f.out,o.out,x.out (.inr t2)]
      have b:=H_ a;clear a;go_wp2;go_ret;exact ⟨by rw [b.out];rfl,rfl⟩
    go_wp2;go_roundg g
    case rel=>exact ⟨i+1,v * 64+bt s i-128,by go_num,by go_num,by omega,by omega,by omega,by omega,fun h=>by have:=q.out (by omega);omega,fun h=>by have:=r.out (by omega);omega,by omega,H_ (by rw [o.out,C.out (by omega)]),rfl⟩
    case measure=>omega
theorem zms (s:ByteArray):∀ (g i g':Nat),s.size<=i+g->g<=g'->refK s g' i=refK s g i
 | 0,i,g',h,_=>by
   cases g' with
   | zero=>rfl
   | succ g'=>unfold refK;rw [if_neg (by omega)]
 | g+1,i,g',h,hg=>by
   cases g' with
   | zero=>omega
   | succ g' =>
     unfold refK;by_cases hi:i<s.size
     · rw [if_pos hi,if_pos hi]
       split
       · rfl
       rename_i hn
       have:1<=oneOf (s.extract i s.size):=by
        rcases Nat.eq_zero_or_pos (oneOf (s.extract i s.size)) with a | a
        · exact absurd (.inl a) hn
        exact a
       exact zms s g _ g' (by omega) (by omega)
     rw [if_neg hi,if_neg hi]
theorem zfe (w:World) (s:ByteArray) (hs:s.size<=1099511627776):Calls Tryz.prog 95 #[.string s] w fun e w'=>e=.returned (.int .i64 (keyE s))/\Fr No w w':=by
 have y:=zsr s;unfold zov at y;have l:=H_ y;clear y;by_cases h0:s.size=0
 · have A:s.toList = []:=by
    rw [Lib.toList_data];exact gN_ (by simpa using h0)
   have B:s.toList.isEmpty=true:=(by rw [A];rfl);have q:(s.toList == [])=true:=(by rw [A];rfl);have a:keyE s=30:=(by rw [<-l.out,if_pos h0]);have b:=H_ a;clear a;clear A;go_enter Tryz.func95,Tryz.ntmps95;go_wp2;go_ret;exact ⟨by rw [b.out];rfl,Fr.refl No w⟩
 have j:s.toList≠[]:=by
  rw [Lib.toList_data];intro h;have:=congrArg List.length h;simp at this;exact h0 (by rw [this];rfl)
 have B:s.toList.isEmpty=false:=(by simpa using j);have q:(s.toList == [])=false:=(by simpa using j);rw [if_neg h0] at l;have L:=get_bt s;clear j;go_enter Tryz.func95,Tryz.ntmps95;go_wp2
 go_loopg [3] s.size (fun g s3 wr=>∃ i:Nat,s3=.int .i64 i/\i+g=s.size/\Hid (refK s s.size 0=refK s g i)/\w=wr)
 case atStart=>exact ⟨0,rfl,by simp,H_ rfl,rfl⟩
 case round =>
  obtain ⟨i,rfl,M,t,rfl⟩:=hrel
  cases gk with
  | zero =>
    have z:¬ (i:Int)<(s.size:Int):=(by omega);have c:refK s s.size 0=true:=(by rw [t.out];rfl);by_cases h64:64<s.size
    · have m:(64:Int)<(s.size:Int):=by omega
      have a:keyE s=31:=(by rw [<-l.out,c,if_neg (by simp),if_pos h64]);have b:=H_ a;clear a;clear c;go_wp2;go_ret;exact ⟨by rw [b.out];rfl,Fr.refl No w⟩
    have m:¬ (64:Int)<(s.size:Int):=by omega
    have a:keyE s=0:=(by rw [<-l.out,c,if_neg (by simp),if_neg h64]);have b:=H_ a;clear a;clear c;go_wp2;go_ret;exact ⟨by rw [b.out];rfl,Fr.refl No w⟩
  | succ g =>
    have z:(i:Int)<(s.size:Int):=(by omega);have d:i<s.size:=(by omega);have D:(i:Int)<=(s.size:Int):=(by omega);have r:=fun W=>zsu W (s.extract i s.size) (by simp;omega);have o:refK s (g+1) i=if oneOf (s.extract i s.size)=0\/bt s i=0 then false else refK s g (i+oneOf (s.extract i s.size)):=(by rw [refK];rw [if_pos d])
    have k:oneOf (s.extract i s.size)≠0->1<=oneOf (s.extract i s.size)/\i+oneOf (s.extract i s.size)<=s.size:=by
     intro H;rcases one_at s i d with ⟨_,x⟩ | ⟨_,x,_,E,_⟩
     · exact absurd x H
     exact ⟨x,E⟩
    generalize oneOf (s.extract i s.size)=n at *;have u:=H_ r;clear r;have f:=H_ o;clear o;by_cases t1:n=0
    · subst t1
      have v:refK s s.size 0=false:=(by rw [t.out,f.out];exact if_pos (.inl rfl));have a:keyE s=30:=(by rw [<-l.out,v];rfl);have b:=H_ a;clear a;clear k;go_wp2_with (go_at_call 118;refine (u.out _).mono ?_;rintro e w' ⟨rfl,rfl⟩);go_ret;exact ⟨by rw [b.out];rfl,Fr.refl No w⟩
    obtain ⟨I,J⟩:=k t1
    have K:((n:Int)==0)=false:=(by simpa using t1);have F:=bt_nonneg s i;have G:=bt_le s i;clear k;by_cases t2:bt s i=0
    · have C:(bt s i==0)=true:=by simpa using t2
      have v:refK s s.size 0=false:=(by rw [t.out,f.out];exact if_pos (.inr t2));have a:keyE s=30:=(by rw [<-l.out,v];rfl);have b:=H_ a;clear a;clear t2;go_wp2_with (go_at_call 118;refine (u.out _).mono ?_;rintro e w' ⟨rfl,rfl⟩);go_ret;exact ⟨by rw [b.out];rfl,Fr.refl No w⟩
    have C:(bt s i==0)=false:=by simpa using t2
    have a:refK s s.size 0=refK s (s.size-(i+n)) (i+n):=by
     rw [t.out,f.out,if_neg (by omega)];exact zms s _ _ _ (by omega) (by omega)
    have b:=H_ a;clear a;go_wp2_with (go_at_call 118;refine (u.out _).mono ?_;rintro e w' ⟨rfl,rfl⟩);go_roundg (s.size-(i+n))
    case rel=>exact ⟨i+n,by go_num,by omega,b,rfl⟩
    case measure=>omega
theorem zow (w:World) (key frm end_:ByteArray):Calls Tryz.prog 50 #[.string key,.string frm,.string end_] w fun e w'=>e=.returned (.bool (inB key frm end_))/\w=w':=by
 unfold inB;cases h1:end_.toList.isEmpty
 · cases h2:(end_.toList == [0])
   · cases h3:Op.bytesLess key.toList frm.toList <;>
     · go_enter Tryz.func50,Tryz.ntmps50
       go_wp2;go_ret;exact ⟨by simp,rfl⟩
   cases h3:Op.bytesLess key.toList frm.toList <;>
   · go_enter Tryz.func50,Tryz.ntmps50
     go_wp2;go_ret;exact ⟨by simp,rfl⟩
 go_enter Tryz.func50,Tryz.ntmps50
 go_wp2;go_ret;exact ⟨by simp,rfl⟩
theorem zkt (w:World) (g:Rg) (hs:g.key.size<=1099511627776):Calls Tryz.prog 62 #[rgV g] w fun e w'=>e=.returned (.int .i64 (askE g))/\Fr No w w':=by
 have j:=fun W=>zfe W g.key hs;obtain ⟨i,c,d,f,l,m,n⟩:=g;unfold askE rgV;dsimp only at *;generalize keyE i=k at *;clear hs;by_cases h1:k≠0
 · have o:(k==0)=false:=by simpa using h1
   rw [if_pos h1];go_enter Tryz.func62,Tryz.ntmps62;go_wp2_with (go_at_call 95;refine (j _).mono ?_;rintro e w1 ⟨rfl,a⟩);go_ret;exact ⟨rfl,((Fr.refl No w).alloc _).trans0 a⟩
 have o:(k==0)=true:=by simpa using h1
 rw [if_neg h1];by_cases h2:64<c.size
 · have q:(64:Int)<(c.size:Int):=by omega
   rw [if_pos h2];go_enter Tryz.func62,Tryz.ntmps62
   go_wp2_with (go_at_call 95;refine (j _).mono ?_;rintro e w1 ⟨rfl,a⟩
                have b:w1.heap[w.heap.size]?=some (.cells #[.string i,.string c,.int .i64 d,.int .i64 f,.bool l,.bool m,.bool n] 24 (0,0)):=a.heap (zad _ _ _ rfl) id;have r:w1.cell? ⟨w.heap.size,1,none⟩=some (.string c):=cellAt b 1 rfl)
   go_ret;exact ⟨rfl,((Fr.refl No w).alloc _).trans0 a⟩
 have q:¬ (64:Int)<(c.size:Int):=by omega
 rw [if_neg h2];by_cases h3:d<0
 · have t:¬ 0<=d:=by omega
   rw [if_pos (.inl h3)];go_enter Tryz.func62,Tryz.ntmps62
   go_wp2_with (go_at_call 95;refine (j _).mono ?_;rintro e w1 ⟨rfl,a⟩
                have b:w1.heap[w.heap.size]?=some (.cells #[.string i,.string c,.int .i64 d,.int .i64 f,.bool l,.bool m,.bool n] 24 (0,0)):=a.heap (zad _ _ _ rfl) id;have r:w1.cell? ⟨w.heap.size,1,none⟩=some (.string c):=cellAt b 1 rfl;have s:w1.cell? ⟨w.heap.size,2,none⟩=some (.int .i64 d):=cellAt b 2 rfl)
   go_ret;exact ⟨rfl,((Fr.refl No w).alloc _).trans0 a⟩
 by_cases h4:f<0
 · have u:¬ 0<=f:=by omega
   rw [if_pos (.inr h4)];go_enter Tryz.func62,Tryz.ntmps62
   go_wp2_with (go_at_call 95;refine (j _).mono ?_;rintro e w1 ⟨rfl,a⟩
                have b:w1.heap[w.heap.size]?=some (.cells #[.string i,.string c,.int .i64 d,.int .i64 f,.bool l,.bool m,.bool n] 24 (0,0)):=a.heap (zad _ _ _ rfl) id;have r:w1.cell? ⟨w.heap.size,1,none⟩=some (.string c):=cellAt b 1 rfl;have s:w1.cell? ⟨w.heap.size,2,none⟩=some (.int .i64 d):=cellAt b 2 rfl;have v:w1.cell? ⟨w.heap.size,3,none⟩=some (.int .i64 f):=cellAt b 3 rfl)
   go_ret;exact ⟨rfl,((Fr.refl No w).alloc _).trans0 a⟩
 rw [if_neg (by omega)]
 go_enter Tryz.func62,Tryz.ntmps62
 go_wp2_with (go_at_call 95;refine (j _).mono ?_;rintro e w1 ⟨rfl,a⟩
              have b:w1.heap[w.heap.size]?=some (.cells #[.string i,.string c,.int .i64 d,.int .i64 f,.bool l,.bool m,.bool n] 24 (0,0)):=a.heap (zad _ _ _ rfl) id;have r:w1.cell? ⟨w.heap.size,1,none⟩=some (.string c):=cellAt b 1 rfl;have s:w1.cell? ⟨w.heap.size,2,none⟩=some (.int .i64 d):=cellAt b 2 rfl;have v:w1.cell? ⟨w.heap.size,3,none⟩=some (.int .i64 f):=cellAt b 3 rfl)
 go_ret;exact ⟨rfl,((Fr.refl No w).alloc _).trans0 a⟩
open Go Go.Proofs Go.RowKit
theorem rb {a b:Bool} (h:a=b):Ending.returned (.bool a)=.returned (.bool b):=by rw [h]
theorem zhf (w:World) (x:Kv) (hx:x.key.size<=1099511627776) (rev:Int) (hr:rev<=1099511627777) :
 Calls Tryz.prog 64 #[kvV x,.int .i64 rev] w fun e w'=>e=.returned (.bool (mayB x rev))/\Fr No w w':=by
 have o:=H_ (fun W=>zfe W x.key hx);clear hx;obtain ⟨l,j,c,d,g,k⟩:=x
 have n:Hid (mayB ⟨l,j,c,d,g,k⟩ rev=if keyE l≠0\/1024<j.size\/k<0\/c<1\/d<c\/rev<d then false
  else if d=c then g==1 else decide (2<=g)&&decide (g<=d-c+1)):=H_ rfl
 dsimp only at o;unfold kvV;dsimp only;generalize J:keyE l=E at *;generalize mayB ⟨l,j,c,d,g,k⟩ rev=m at *;clear J;by_cases h1:E=0
 · subst h1
   by_cases h2:1024<j.size
   · have z:decide ((1024:Int)<(j.size:Int))=true:=dT_ (by omega)
     have i:Hid (false=m):=H_ (by rw [n.out,if_pos (Or.inr (Or.inl h2))]);clear h2;go_enter Tryz.func64,Tryz.ntmps64
     go_wp2_with (go_at_call 95;refine (o.out _).mono ?_;rintro e w1 ⟨rfl,b⟩
                  have a:=b.heap (zad w (Obj.cells #[.string l,.string j,.int .i64 c,.int .i64 d,.int .i64 g,.int .i64 k] 70) _ rfl) id;have lb:=zab a;have q:=cellAt a 1 rfl;have r:=cellAt a 2 rfl;have s:=cellAt a 3 rfl;have t:=cellAt a 4 rfl;have u:=cellAt a 5 rfl;clear a)
     go_ret;exact ⟨rb (i.out),(((Fr.refl No w).alloc _).trans0 b)⟩
   have z:decide ((1024:Int)<(j.size:Int))=false:=dF_ (by omega)
   by_cases h3:k<0
   · have A:decide (k<0)=true:=dT_ (by omega)
     have i:Hid (false=m):=H_ (by rw [n.out,if_pos (Or.inr (Or.inr (Or.inl h3)))]);clear h3;go_enter Tryz.func64,Tryz.ntmps64
     go_wp2_with (go_at_call 95;refine (o.out _).mono ?_;rintro e w1 ⟨rfl,b⟩
                  have a:=b.heap (zad w (Obj.cells #[.string l,.string j,.int .i64 c,.int .i64 d,.int .i64 g,.int .i64 k] 70) _ rfl) id;have lb:=zab a;have q:=cellAt a 1 rfl;have r:=cellAt a 2 rfl;have s:=cellAt a 3 rfl;have t:=cellAt a 4 rfl;have u:=cellAt a 5 rfl;clear a)
     go_ret;exact ⟨rb (i.out),(((Fr.refl No w).alloc _).trans0 b)⟩
   have A:decide (k<0)=false:=dF_ (by omega)
   by_cases h4:c<1
   · have B:decide (c<1)=true:=dT_ (by omega)
     have i:Hid (false=m):=H_ (by rw [n.out,if_pos (Or.inr (Or.inr (Or.inr (Or.inl h4))))]);clear h4;go_enter Tryz.func64,Tryz.ntmps64
     go_wp2_with (go_at_call 95;refine (o.out _).mono ?_;rintro e w1 ⟨rfl,b⟩
                  have a:=b.heap (zad w (Obj.cells #[.string l,.string j,.int .i64 c,.int .i64 d,.int .i64 g,.int .i64 k] 70) _ rfl) id;have lb:=zab a;have q:=cellAt a 1 rfl;have r:=cellAt a 2 rfl;have s:=cellAt a 3 rfl;have t:=cellAt a 4 rfl;have u:=cellAt a 5 rfl;clear a)
     go_ret;exact ⟨rb (i.out),(((Fr.refl No w).alloc _).trans0 b)⟩
   have B:decide (c<1)=false:=dF_ (by omega)
   by_cases h5:d<c
   · have C:decide (d<c)=true:=dT_ (by omega)
     have i:Hid (false=m):=H_ (by rw [n.out,if_pos (Or.inr (Or.inr (Or.inr (Or.inr (Or.inl h5)))))]);clear h5;go_enter Tryz.func64,Tryz.ntmps64
     go_wp2_with (go_at_call 95;refine (o.out _).mono ?_;rintro e w1 ⟨rfl,b⟩
                  have a:=b.heap (zad w (Obj.cells #[.string l,.string j,.int .i64 c,.int .i64 d,.int .i64 g,.int .i64 k] 70) _ rfl) id;have lb:=zab a;have q:=cellAt a 1 rfl;have r:=cellAt a 2 rfl;have s:=cellAt a 3 rfl;have t:=cellAt a 4 rfl;have u:=cellAt a 5 rfl;clear a)
     go_ret;exact ⟨rb (i.out),(((Fr.refl No w).alloc _).trans0 b)⟩
   have C:decide (d<c)=false:=dF_ (by omega)
   by_cases h6:rev<d
   · have D:decide (rev<d)=true:=dT_ (by omega)
     have i:Hid (false=m):=H_ (by rw [n.out,if_pos (Or.inr (Or.inr (Or.inr (Or.inr (Or.inr (h6))))))]);clear h6;go_enter Tryz.func64,Tryz.ntmps64
     go_wp2_with (go_at_call 95;refine (o.out _).mono ?_;rintro e w1 ⟨rfl,b⟩
                  have a:=b.heap (zad w (Obj.cells #[.string l,.string j,.int .i64 c,.int .i64 d,.int .i64 g,.int .i64 k] 70) _ rfl) id;have lb:=zab a;have q:=cellAt a 1 rfl;have r:=cellAt a 2 rfl;have s:=cellAt a 3 rfl;have t:=cellAt a 4 rfl;have u:=cellAt a 5 rfl;clear a)
     go_ret;exact ⟨rb (i.out),(((Fr.refl No w).alloc _).trans0 b)⟩
   have D:decide (rev<d)=false:=dF_ (by omega)
   have f:=n.out;rw [if_neg (by rintro (h | h | h | h | h | h) <;> first | exact h rfl | omega)] at f;by_cases h7:d=c
   · rw [if_pos h7] at f
     have F:(d==c)=true:=beq_iff_eq.2 h7;have i:Hid ((g==1)=m):=H_ f.symm;clear f n h7;go_enter Tryz.func64,Tryz.ntmps64
     go_wp2_with (go_at_call 95;refine (o.out _).mono ?_;rintro e w1 ⟨rfl,b⟩
                  have a:=b.heap (zad w (Obj.cells #[.string l,.string j,.int .i64 c,.int .i64 d,.int .i64 g,.int .i64 k] 70) _ rfl) id;have lb:=zab a;have q:=cellAt a 1 rfl;have r:=cellAt a 2 rfl;have s:=cellAt a 3 rfl;have t:=cellAt a 4 rfl;have u:=cellAt a 5 rfl;clear a)
     go_ret;exact ⟨rb (i.out),(((Fr.refl No w).alloc _).trans0 b)⟩
   rw [if_neg h7] at f
   have F:(d==c)=false:=beq_eq_false_iff_ne.2 h7;by_cases h8:2<=g
   · have v:decide (2<=g)=true:=dT_ h8
     have y:decide (g ≥ 2)=true:=dT_ h8;rw [v,Bool.true_and] at f;have i:Hid (decide (g<=d-c+1)=m):=H_ f.symm;clear f n;have K:0<=d-c:=(by omega);have I:d-c<=1099511627777:=(by omega);go_enter Tryz.func64,Tryz.ntmps64
     go_wp2_with (go_at_call 95;refine (o.out _).mono ?_;rintro e w1 ⟨rfl,b⟩
                  have a:=b.heap (zad w (Obj.cells #[.string l,.string j,.int .i64 c,.int .i64 d,.int .i64 g,.int .i64 k] 70) _ rfl) id;have lb:=zab a;have q:=cellAt a 1 rfl;have r:=cellAt a 2 rfl;have s:=cellAt a 3 rfl;have t:=cellAt a 4 rfl;have u:=cellAt a 5 rfl;clear a)
     go_ret;exact ⟨rb (i.out),(((Fr.refl No w).alloc _).trans0 b)⟩
   have v:decide (2<=g)=false:=dF_ h8
   have y:decide (g ≥ 2)=false:=dF_ h8;rw [v,Bool.false_and] at f;have i:Hid (false=m):=H_ f.symm;clear f n;go_enter Tryz.func64,Tryz.ntmps64
   go_wp2_with (go_at_call 95;refine (o.out _).mono ?_;rintro e w1 ⟨rfl,b⟩
                have a:=b.heap (zad w (Obj.cells #[.string l,.string j,.int .i64 c,.int .i64 d,.int .i64 g,.int .i64 k] 70) _ rfl) id;have lb:=zab a;have q:=cellAt a 1 rfl;have r:=cellAt a 2 rfl;have s:=cellAt a 3 rfl;have t:=cellAt a 4 rfl;have u:=cellAt a 5 rfl;clear a)
   go_ret;exact ⟨rb (i.out),(((Fr.refl No w).alloc _).trans0 b)⟩
 have H:(E != 0)=true:=by rw [bne_iff_ne];exact h1
 have G:(E==0)=false:=beq_eq_false_iff_ne.2 h1;have i:Hid (false=m):=H_ (by rw [n.out,if_pos (.inl h1)]);clear h1 n;go_enter Tryz.func64,Tryz.ntmps64
 go_wp2_with (go_at_call 95;refine (o.out _).mono ?_;rintro e w1 ⟨rfl,b⟩
              have a:=b.heap (zad w (Obj.cells #[.string l,.string j,.int .i64 c,.int .i64 d,.int .i64 g,.int .i64 k] 70) _ rfl) id;have lb:=zab a;have q:=cellAt a 1 rfl;have r:=cellAt a 2 rfl;have s:=cellAt a 3 rfl;have t:=cellAt a 4 rfl;have u:=cellAt a 5 rfl;clear a)
 go_ret;exact ⟨rb (i.out),(((Fr.refl No w).alloc _).trans0 b)⟩
theorem zgo (w:World) (x:Ev) (was:Kv) (hx:x.kv.key.size<=1099511627776) (rev:Int) (hmt:madeB x was rev=true) :
 Calls Tryz.prog 66 #[evV x,kvV was,.int .i64 rev] w fun e w'=>e=.returned (.bool (madeB x was rev))/\Fr No w w':=by
 have HK:=H_ (fun W=>zfe W x.kv.key hx);clear hx;obtain ⟨D,⟨r,l,F,n,G,K⟩,⟨q1,q2,q3,q4,q5,q6⟩⟩:=x;obtain ⟨r1,r2,H,r4,k,r6⟩:=was;have I:=fun W=>zch W ⟨q1,q2,q3,q4,q5,q6⟩ ⟨r1,r2,H,r4,k,r6⟩;have J:=fun W=>zch W ⟨r,l,F,n,G,K⟩ ⟨r,⟨#[]⟩,0,rev,0,0⟩
 have L:Hid (madeB ⟨D,⟨r,l,F,n,G,K⟩,⟨q1,q2,q3,q4,q5,q6⟩⟩ ⟨r1,r2,H,r4,k,r6⟩ rev=if keyE r≠0\/n≠rev\/sameB ⟨q1,q2,q3,q4,q5,q6⟩ ⟨r1,r2,H,r4,k,r6⟩=false then false
  else if D=2 then decide (0<k)&&sameB ⟨r,l,F,n,G,K⟩ ⟨r,⟨#[]⟩,0,rev,0,0⟩
  else (D==1)&&((F==if k=0 then rev else H)&&((G==wrap64 (k+1))&&(decide (l.size<=1024)&&decide (0<=K))))):=H_ rfl
 unfold kvV at I J;dsimp only at HK I J;unfold evV kvV;dsimp only;generalize hE:keyE r=E at *;generalize madeB ⟨D,⟨r,l,F,n,G,K⟩,⟨q1,q2,q3,q4,q5,q6⟩⟩ ⟨r1,r2,H,r4,k,r6⟩ rev=m at *;generalize aO:sameB ⟨q1,q2,q3,q4,q5,q6⟩ ⟨r1,r2,H,r4,k,r6⟩=s1 at *;generalize aP:sameB ⟨r,l,F,n,G,K⟩ ⟨r,⟨#[]⟩,0,rev,0,0⟩=s2 at *;have ax:=H_ I;have aI:=H_ J;have s:=H_ hmt;clear hE aO aP I J hmt;have aA:=zar (zad w (Obj.cells #[.int .i64 D,.string r,.string l,.int .i64 F,.int .i64 n,.int .i64 G,.int .i64 K,.string q1,.string q2,.int .i64 q3,.int .i64 q4,.int .i64 q5,.int .i64 q6] 72) _ rfl) (Obj.cells #[.string r1,.string r2,.int .i64 H,.int .i64 r4,.int .i64 k,.int .i64 r6] 70)
 have aB:=zad (w.alloc (Obj.cells #[.int .i64 D,.string r,.string l,.int .i64 F,.int .i64 n,.int .i64 G,.int .i64 K,.string q1,.string q2,.int .i64 q3,.int .i64 q4,.int .i64 q5,.int .i64 q6] 72)) (Obj.cells #[.string r1,.string r2,.int .i64 H,.int .i64 r4,.int .i64 k,.int .i64 r6] 70) (w.heap.size+1) (by simp);have aC:Fr No w ((w.alloc (Obj.cells #[.int .i64 D,.string r,.string l,.int .i64 F,.int .i64 n,.int .i64 G,.int .i64 K,.string q1,.string q2,.int .i64 q3,.int .i64 q4,.int .i64 q5,.int .i64 q6] 72)).alloc (Obj.cells #[.string r1,.string r2,.int .i64 H,.int .i64 r4,.int .i64 k,.int .i64 r6] 70)):=((Fr.refl No w).alloc _).alloc _;have o:=H_ aA;have q:=H_ aB;have aw:=H_ aC;clear aA aB aC;by_cases h1:E=0
 · subst h1
   by_cases h2:n=rev
   · have ay:(n==rev)=true:=beq_iff_eq.2 h2
     have az:(n != rev)=false:=(by unfold bne;rw [ay];rfl)
     cases s1 with
     | true =>
       have a:=L.out;rw [if_neg (by rintro (h | h | h) <;> first | exact h rfl | exact h h2 | cases h)] at a;clear L h2;by_cases h3:D=2
       · subst h3
         rw [if_pos rfl] at a;by_cases h4:0<k
         · have aK:decide (k > 0)=true:=dT_ h4
           have B:decide (0<k)=true:=dT_ h4;rw [B,Bool.true_and] at a;have b:=H_ a;clear a;go_enter Tryz.func66,Tryz.ntmps66
           go_wp2_with (go_at_call 95;refine (HK.out _).mono ?_;rintro e w1 ⟨rfl,i⟩
                        have c:=i.heap o.out id;have f:=i.heap q.out id;have aD:=zab c;have aF:=zab f;obtain ⟨M,N,O,P,Q,R,S,T,U,V,t,u,v⟩:=cells13 c;obtain ⟨a7,a8,a9,aa,ab,ad⟩:=cells6 f;clear c f)
           go_wp2_with (go_at_call 51;with_reducible refine (ax.out _).mono ?_;rintro e w2 ⟨rfl,C⟩
                        have j:=i.trans0 C;have d:=j.heap o.out id;have g:=j.heap q.out id;have aE:=zab d;have aG:=zab g;obtain ⟨X,Y,Z,a0,a1,a2,a3,a4,a5,a6,y,z,A⟩:=cells13 d;obtain ⟨ae,af,ag,ah,ai,aj⟩:=cells6 g;clear d g)
           go_wp2_with (go_at_call 51;with_reducible refine (aI.out _).mono ?_;rintro e w3 ⟨rfl,aN⟩
                        have aM:=j.trans0 aN)
           go_ret;exact ⟨rb (b.out.symm),aw.out.trans0 aM⟩
         have aK:decide (k > 0)=false:=dF_ h4
         have B:decide (0<k)=false:=dF_ h4;rw [B,Bool.false_and] at a;have b:=H_ a;clear a;cases s.out.symm.trans b.out
       rw [if_neg h3] at a
       have aT:(D==2)=false:=beq_eq_false_iff_ne.2 h3;clear h3;by_cases h5:k=0
       · rw [if_pos h5] at a
         have aL:(k==0)=true:=beq_iff_eq.2 h5;clear h5
         cases c0:(D==1) with
         | false =>
           rw [c0,Bool.false_and] at a;have b:=H_ a;clear a;cases s.out.symm.trans b.out
         | true =>
           rw [c0,Bool.true_and] at a
           cases c1:(F==rev) with
           | false =>
             rw [c1,Bool.false_and] at a;have b:=H_ a;clear a;cases s.out.symm.trans b.out
           | true =>
             rw [c1,Bool.true_and] at a
             cases c2:(G==wrap64 (k+1)) with
             | false =>
               rw [c2,Bool.false_and] at a;have b:=H_ a;clear a;cases s.out.symm.trans b.out
             | true =>
               rw [c2,Bool.true_and] at a
               cases c3:decide (l.size<=1024) with
               | false =>
                 rw [c3,Bool.false_and] at a;have b:=H_ a;clear a;have d3:decide ((l.size:Int)<=1024)=false:=(by rw [decide_eq_false_iff_not] at c3 ⊢;omega);clear c3;cases s.out.symm.trans b.out
               | true =>
                 rw [c3,Bool.true_and] at a;have d3:decide ((l.size:Int)<=1024)=true:=(by rw [decide_eq_true_iff] at c3 ⊢;omega);clear c3;have b:=H_ a;clear a;go_enter Tryz.func66,Tryz.ntmps66
                 go_wp2_with (go_at_call 95;refine (HK.out _).mono ?_;rintro e w1 ⟨rfl,i⟩
                              have c:=i.heap o.out id;have f:=i.heap q.out id;have aD:=zab c;have aF:=zab f;obtain ⟨M,N,O,P,Q,R,S,T,U,V,t,u,v⟩:=cells13 c;obtain ⟨a7,a8,a9,aa,ab,ad⟩:=cells6 f;clear c f)
                 go_wp2_with (go_at_call 51;with_reducible refine (ax.out _).mono ?_;rintro e w2 ⟨rfl,C⟩
                              have j:=i.trans0 C;have d:=j.heap o.out id;have g:=j.heap q.out id;have aE:=zab d;have aG:=zab g;obtain ⟨X,Y,Z,a0,a1,a2,a3,a4,a5,a6,y,z,A⟩:=cells13 d;obtain ⟨ae,af,ag,ah,ai,aj⟩:=cells6 g;clear d g)
                 go_ret;exact ⟨rb (b.out.symm),aw.out.trans0 j⟩
       rw [if_neg h5] at a
       have aL:(k==0)=false:=beq_eq_false_iff_ne.2 h5;clear h5
       cases c0:(D==1) with
       | false =>
         rw [c0,Bool.false_and] at a;have b:=H_ a;clear a;cases s.out.symm.trans b.out
       | true =>
         rw [c0,Bool.true_and] at a
         cases c1:(F==H) with
         | false =>
           rw [c1,Bool.false_and] at a;have b:=H_ a;clear a;cases s.out.symm.trans b.out
         | true =>
           rw [c1,Bool.true_and] at a
           cases c2:(G==wrap64 (k+1)) with
           | false =>
             rw [c2,Bool.false_and] at a;have b:=H_ a;clear a;cases s.out.symm.trans b.out
           | true =>
             rw [c2,Bool.true_and] at a
             cases c3:decide (l.size<=1024) with
             | false =>
               rw [c3,Bool.false_and] at a;have b:=H_ a;clear a;have d3:decide ((l.size:Int)<=1024)=false:=(by rw [decide_eq_false_iff_not] at c3 ⊢;omega);clear c3;cases s.out.symm.trans b.out
             | true =>
               rw [c3,Bool.true_and] at a;have d3:decide ((l.size:Int)<=1024)=true:=(by rw [decide_eq_true_iff] at c3 ⊢;omega);clear c3;have b:=H_ a;clear a;go_enter Tryz.func66,Tryz.ntmps66
               go_wp2_with (go_at_call 95;refine (HK.out _).mono ?_;rintro e w1 ⟨rfl,i⟩
                            have c:=i.heap o.out id;have f:=i.heap q.out id;have aD:=zab c;have aF:=zab f;obtain ⟨M,N,O,P,Q,R,S,T,U,V,t,u,v⟩:=cells13 c;obtain ⟨a7,a8,a9,aa,ab,ad⟩:=cells6 f;clear c f)
               go_wp2_with (go_at_call 51;with_reducible refine (ax.out _).mono ?_;rintro e w2 ⟨rfl,C⟩
                            have j:=i.trans0 C;have d:=j.heap o.out id;have g:=j.heap q.out id;have aE:=zab d;have aG:=zab g;obtain ⟨X,Y,Z,a0,a1,a2,a3,a4,a5,a6,y,z,A⟩:=cells13 d;obtain ⟨ae,af,ag,ah,ai,aj⟩:=cells6 g;clear d g)
               go_ret;exact ⟨rb (b.out.symm),aw.out.trans0 j⟩
     | false =>
       have b:Hid (false=m):=H_ (by rw [L.out,if_pos (.inr (.inr rfl))]);clear L h2;cases b.out.trans s.out
   have ay:(n==rev)=false:=beq_eq_false_iff_ne.2 h2
   have az:(n != rev)=true:=(by unfold bne;rw [ay];rfl);have b:Hid (false=m):=H_ (by rw [L.out,if_pos (.inr (.inl h2))]);clear h2 L;cases b.out.trans s.out
 have aS:(E != 0)=true:=by rw [bne_iff_ne];exact h1
 have aQ:(E==0)=false:=beq_eq_false_iff_ne.2 h1;have b:Hid (false=m):=H_ (by rw [L.out,if_pos (.inl h1)]);clear h1 L;cases b.out.trans s.out
end Go.Proofs.YtdgkdfmfoonbpaaGreat