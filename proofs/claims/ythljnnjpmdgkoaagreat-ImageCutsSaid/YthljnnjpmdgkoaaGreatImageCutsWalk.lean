/- The statement ImageCuts's function returns true, whatever its arguments are. -/
import Derived.Test.YthljnnjpmdgkoaaGreatI37
import Derived.Test.YthljnnjpmdgkoaaGreatI38
namespace Go.Proofs.YthljnnjpmdgkoaaGreat
open Go Go.Proofs Go.RowKit
set_option maxRecDepth 100000
theorem znv (D:Doc):32<=(docB D).length:=by
 unfold docB stB;simp only [List.length_append,zam];omega
theorem zxw (l:List UInt8) (n:Nat):(⟨l.toArray⟩:ByteArray).extract 0 n=⟨(l.take n).toArray⟩:=by
 apply ByteArray.ext;rw [ByteArray.data_extract];simp
theorem rem_at (a:Int) {n:Nat} (hn:0<n):∃ k:Nat,k<n/\(a.tmod n+n).tmod n=k/\-(n:Int)<a.tmod n/\a.tmod n<n:=by
 have c:a.tmod n<n:=Int.tmod_lt_of_pos a (by omega)
 have d : -(n:Int)<a.tmod n:=by
  have:=Int.lt_tmod_of_pos a (b:=(n:Int)) (by omega);exact this
 have e:=Int.tmod_lt_of_pos (a.tmod n+n) (b:=(n:Int)) (by omega);have f:=Int.tmod_nonneg (n:Int) (a:=a.tmod n+n) (by omega);exact ⟨((a.tmod n+n).tmod n).toNat,by omega,by omega,d,c⟩
set_option maxHeartbeats 16000000 in
theorem zlx {TA:zao} (hT:TreeOk TA 1000000) (hTD:TreeDl TA) (w:World) (v:Value) (l:List CalQ) (at_:Int) (m:ByteArray) (_ha0 : -9223372036854775808<=at_) (_ha1:at_<=9223372036854775807) (hv:CalR w v l) (hlq:∀ q∈l,LeaQ q) :
 Calls Tryz.prog 12 #[v,.int .i64 at_,.string m] w fun e w'=>e=.returned (.bool true)/\Fr No w w':=by
 have b:=zcl w v l hv
 cases hfl:zba l with
 | false =>
   rw [hfl] at b;obtain ⟨X,f,c,_,_,_⟩:=hv.sl.shape;clear hv;subst c;have o:=H_ b;clear b;go_enter Tryz.func12,Tryz.ntmps12
   go_wp2_with (first
    | (go_at_call 15;with_reducible refine o.out.mono ?_;rintro e w1 ⟨rfl,rfl⟩)
    | (go_at_call 39;refine (zax hT _).mono ?_;rintro e T ⟨rfl,a⟩))
   go_ret;exact ⟨rfl,a⟩
 | true =>
   rw [hfl] at b;by_cases hm:m.size=0\/1000<m.size
   · obtain ⟨X,f,c,_,_,_⟩:=hv.sl.shape
     clear hv;subst c;have o:=H_ b;clear b;by_cases h0:(m.size:Int)=0
     · go_enter Tryz.func12,Tryz.ntmps12
       go_wp2_with (first
        | (go_at_call 15;with_reducible refine o.out.mono ?_;rintro e w1 ⟨rfl,rfl⟩)
        | (go_at_call 39;refine (zax hT _).mono ?_;rintro e T ⟨rfl,a⟩))
       go_ret;exact ⟨rfl,a⟩
     have h1:(1000:Int)<(m.size:Int):=by omega
     have Z:((m.size:Int)==0)=false:=(by simpa using h0);go_enter Tryz.func12,Tryz.ntmps12
     go_wp2_with (first
      | (go_at_call 15;with_reducible refine o.out.mono ?_;rintro e w1 ⟨rfl,rfl⟩)
      | (go_at_call 39;refine (zax hT _).mono ?_;rintro e T ⟨rfl,a⟩))
     go_ret;exact ⟨rfl,a⟩
   have U:=(zar hfl).1
   have i:=zdi hT hTD w v l hv hfl;have I:=zbe hfl l.length (Nat.le_refl _);have g:=zdu hfl hlq;obtain ⟨X,f,c,_,_,_⟩:=hv.sl.shape;clear hv hlq;subst c;generalize donesT l l.length=Y at *;obtain ⟨S,D⟩:=Y;dsimp only at I i g;have p:=fun W s F hS=>zbl hT I (by omega) (Nat.le_trans g.len (by decide)) (Nat.le_of_lt g.n64.len) W s F hS;have d:=fun (n:Nat) (hn:n<(docB D).length) W=>znk hT g ((docB D).take n) ((docB D).drop n) (List.take_append_drop n _) (by rw [Ne,List.drop_eq_nil_iff];omega) W
   have j:=fun W=>zgp hT g m.data.toList (fun e=>by
    have h:=congrArg List.length e;simp only [Array.length_toList,List.length_nil] at h
    exact hm (.inl h)) (by
    rw [Array.length_toList]
    show m.size<=_
    omega) W
   have O:=znv D;have P:=g.len;have Q:¬ (m.size:Int)=0:=(by omega);have V:((m.size:Int)==0)=false:=(by simpa using Q);have a2:¬ (1000:Int)<(m.size:Int):=(by omega);rw [<-zaz] at O P d;rw [<-zny] at j;simp only [<-zxw] at d;generalize (⟨(docB D).toArray⟩:ByteArray)=B at *;obtain ⟨k,x,L,M,N⟩:=rem_at at_ (n:=B.size) (by omega);have a0:(((B.size:Int)):Int)<=9000000000:=(by omega);have r:=d k x;have o:=H_ b;have C:=H_ i;have z:=H_ p;have A:=H_ r;have H:=H_ j;clear b i p d j I g r hm;go_enter Tryz.func12,Tryz.ntmps12
   go_upto_region 4 with (first
    | (go_at_call 15;(with_reducible refine o.out.mono ?_);rintro e w1 ⟨rfl,rfl⟩)
    | (go_at_call 40;(with_reducible refine C.out.mono ?_);rintro e T ⟨s,rfl,F,y,a,R⟩)
    | (go_at_call 42;(with_reducible refine (z.out _ _ _ y).mono ?_);rintro e w3 ⟨rfl,t⟩))
   have E:=H_ (a.trans0 t);clear y a R t;go_upto_region 6 with fail;have hz:¬ (B.size:Int)=0:=(by omega);have a1:(k:Int)<=(B.size:Int):=(by omega);go_upto_region 7 with (go_at_call 45;(with_reducible refine (A.out w3).mono ?_);rintro e w4 ⟨rfl,u⟩);have G:=H_ (E.out.trans0 u);clear u x L M N;have a3:m.size<=1000:=(by omega);go_upto_region 8 with (go_at_call 45;(with_reducible refine (H.out w4).mono ?_);rintro e w5 ⟨rfl,J⟩);go_wp2_with (go_at_call 39;refine (zax hT _).mono ?_;rintro e w6 ⟨rfl,K⟩);go_ret;exact ⟨rfl,(G.out.trans0 J).trans0 K⟩
end Go.Proofs.YthljnnjpmdgkoaaGreat
