/- The statement ImageBytes's function returns true, whatever its argument is. -/
import Derived.Test.YthljnnjpmdgkoaaGreatI37
import Derived.Test.YthljnnjpmdgkoaaGreatI39
import Derived.Test.YthljnnjpmdgkoaaGreatI38
namespace Go.Proofs.YthljnnjpmdgkoaaGreat
open Go Go.Proofs Go.RowKit
set_option maxRecDepth 100000
theorem plain_calls (w : World) (r m : Int) (n1 n2 c1 c2 : Nat) (a1 a2 : Option Addr) :
    Calls Tryz.prog 22 #[stateV r m (.slice a1 n1 c1) (.slice a2 n2 c2)] w fun e w' => e = .returned (stateV r m (.slice a1 n1 c1) (.slice a2 n2 c2)) ∧ Fr No w w' := by
  unfold stateV
  go_enter Tryz.func22, Tryz.ntmps22
  go_wp2
  exact bodyPost_ret (results_cell_row rfl _ _ (w.heap.size + 1) 30 _ (0, 0) _ rfl (zad _ _ _ (by simp)) Tryz.underlying30 rfl (by kernel_rfl)) rfl ⟨rfl, ((Fr.refl No w).alloc _).alloc _⟩
set_option maxHeartbeats 16000000 in
theorem zkv {TA:zao} (hT:TreeOk TA 1000000) (hTD:TreeDl TA) (w:World) (v:Value) (l:List CalQ) (hv:CalR w v l) (hlq:∀ q∈l,LeaQ q) :
 Calls Tryz.prog 10 #[v] w fun e w'=>e=.returned (.bool true)/\Fr No w w':=by
 have a:=zcl w v l hv
 cases hfl:zba l with
 | false =>
   rw [hfl] at a;obtain ⟨va,I,r,_,_,_⟩:=hv.sl.shape;clear hv;subst r;have O:=H_ a;clear a;go_enter Tryz.func10,Tryz.ntmps10
   go_wp2_with (first
    | (go_at_call 15;with_reducible refine O.out.mono ?_;rintro e w1 ⟨rfl,rfl⟩)
    | (go_at_call 39;refine (zax hT _).mono ?_;rintro e w2 ⟨rfl,c⟩))
   go_ret;exact ⟨rfl,c⟩
 | true =>
   rw [hfl] at a;have a5:=(zar hfl).1;have i:=zdi hT hTD w v l hv hfl;have N:=zbe hfl l.length (Nat.le_refl _);have d:=zdu hfl hlq;obtain ⟨n,j⟩:=zhd hfl hlq;obtain ⟨va,I,r,_,_,_⟩:=hv.sl.shape;clear hv hlq;subst r;generalize donesT l l.length=SD at *;obtain ⟨S,D⟩:=SD;dsimp only at N i d n j;have a6:=d.n64.len;have a8:=d.len
   have C:∀ x∈D.kvs,x.key.size<=1000000000000/\x.value.size<=1000000000000:=fun x hx=>by
    have h:=(n x hx).2;unfold kvB at h;simp only [List.length_append,zmv,zam] at h;omega
   have y:∀ x∈D.events,(x.kv.key.size<=1000000000000/\x.kv.value.size<=1000000000000)/\x.prev.key.size<=1000000000000/\x.prev.value.size<=1000000000000:=fun x hx=>by
    have h:=(j x hx).2;unfold evB kvB at h;simp only [List.length_append,zmv,zam] at h;omega
   have H:=fun W s F hS=>zqh hT N (by omega) W s F hS;have g:=fun W=>plain_calls W D.rev D.mark;have o:=fun W J L K M hD=>zlu W D J K L M hD (by omega) C y (by omega);have f:=fun W s F hS=>zbl hT N (by omega) (Nat.le_trans d.len (by decide)) (Nat.le_of_lt d.n64.len) W s F hS;have G:=fun W s F hS=>zfr W (some ⟨s,0,none⟩) (docB D) (Nat.le_trans d.len (by decide)) (f W s F hS);have E:=fun W=>zoz W (docB D) (Nat.le_trans d.len (by decide));generalize (⟨(docB D).toArray⟩:ByteArray)=B at *;generalize sumL (docB D)=sm at *;unfold docV at o;unfold stateV at g;have O:=H_ a;have R:=H_ i;have Y:=H_ H;have Q:=H_ g;have U:=H_ o;have P:=H_ f;have X:=H_ G;have V:=H_ E;clear a i H g o f G E N d n j C y;go_enter Tryz.func10,Tryz.ntmps10
   go_upto_region 5 with (first
    | (go_at_call 15;(with_reducible refine O.out.mono ?_);rintro e w1 ⟨rfl,rfl⟩)
    | (go_at_call 40;(with_reducible refine R.out.mono ?_);rintro e w2 ⟨s,rfl,F,p,c,a4⟩)
    | (go_at_call 23;(with_reducible refine (Y.out _ _ _ p).mono ?_);rintro e w3 ⟨J,L,K,M,rfl,A,u,k,_,_⟩;unfold stateV)
    | (go_at_call 22;(with_reducible refine (Q.out w3 D.kvs.length D.events.length L M J K).mono ?_);rintro e w4 ⟨rfl,b⟩)
    | (go_at_call 41;(with_reducible refine (U.out w4 J L K M ⟨(A.toR zak).fr0 b,(u.toR zac).fr0 b⟩).mono ?_);rintro e w5 ⟨rfl,m⟩))
   have T:=H_ (((c.trans0 k).trans0 b).trans0 m);have t:=H_ (p.fr0 hT ((k.trans0 b).trans0 m));clear p c a4 k b m A u
   go_wp2_with (first
    | (go_at_call 42;(with_reducible refine (P.out w5 s F t.out).mono ?_);rintro e w6 ⟨rfl,z⟩)
    | (go_at_call 43;(with_reducible refine (X.out w6 s F (t.out.fr0 hT z)).mono ?_);rintro e w7 ⟨rfl,Z⟩)
    | (go_at_call 44;(with_reducible refine (V.out w7).mono ?_);rintro e w8 ⟨rfl,a0⟩)
    | (go_at_call 39;refine (zax hT _).mono ?_;rintro e w9 ⟨rfl,a3⟩))
   go_ret;exact ⟨rfl,(((T.out.trans0 z).trans0 Z).trans0 a0).trans0 a3⟩
end Go.Proofs.YthljnnjpmdgkoaaGreat
