/- The statement ImageTurned's function returns true, whatever its arguments are. -/
import Derived.Test.YthljnnjpmdgkoaaGreatI39
import Derived.Test.YthljnnjpmdgkoaaGreatI38
import Derived.Deep.RegionHeld3
import Derived.Laws.IdiomStrings
namespace Go.Proofs.YthljnnjpmdgkoaaGreat
open Go Go.Proofs Go.RowKit
set_option maxRecDepth 100000
theorem znv (D:Doc):32<=(docB D).length:=by
 unfold docB stB;simp only [List.length_append,zam];omega
theorem rem_at (a:Int) {n:Nat} (hn:0<n):∃ k:Nat,k<n/\(a.tmod n+n).tmod n=k/\-(n:Int)<a.tmod n/\a.tmod n<n:=by
 have c:a.tmod n<n:=Int.tmod_lt_of_pos a (by omega)
 have d : -(n:Int)<a.tmod n:=by
  have:=Int.lt_tmod_of_pos a (b:=(n:Int)) (by omega);exact this
 have e:=Int.tmod_lt_of_pos (a.tmod n+n) (b:=(n:Int)) (by omega);have f:=Int.tmod_nonneg (n:Int) (a:=a.tmod n+n) (by omega);exact ⟨((a.tmod n+n).tmod n).toNat,by omega,by omega,d,c⟩
theorem zyh:∀ c:Fin 256,bits BinOp.xor IntKind.u8 (c.val:Int) 0=(c.val:Int):=by decide +kernel
theorem zja {TA:zao} (hT:TreeOk TA 1000000) {D:Doc} (h:DocImg D) (hlen:(docB D).length<=3000000) (hrev:D.rev<=1000) (h0:0<=D.mark) (hm:D.mark<=D.rev) (i:Nat) (c:UInt8) (w:World) :
 Calls Tryz.prog 45 #[.string ⟨((docB D).set i c).toArray⟩] w fun e w'=>(∃ n:Int,n≠0/\e=.returned (.tuple #[.pointer none,.int .i64 n])/\Fr No w w'/\(docB D).set i c≠docB D) ∨
  ∃ D2 a S F,e=.returned (.tuple #[.pointer (some ⟨a,0,none⟩),.int .i64 0])/\docB D2=(docB D).set i c/\D2.kvs.length+D2.events.length<=1000000/\zaj TA w' a S F/\MadeOk D2 S/\(∀ b,F b->w.heap.size<=b)/\Fr No w w':=by
 by_cases hs:(docB D).set i c=docB D
 · rw [hs]
   refine (zdl hT h w).mono ?_;rintro e w' ⟨a,S,F,rfl,d,l,o,p⟩;exact .inr ⟨D,a,S,F,rfl,rfl,Nat.le_of_lt h.n64.len,d,l,o,p⟩
 obtain ⟨g,k,u,r,m,ks,q,j,b1,b2,_,_⟩:=StW.ends ((docB D).set i c,false)
 have v:((docB D).set i c).length<=3000000:=(by rw [List.length_set];exact hlen);dsimp only at b1 b2;have f:=fun hb=>zvw hlen hrev h0 hm i c j hb;refine (zgj hT w ((docB D).set i c) (by omega) g k u ⟨r,m,ks,q⟩ (by omega) (by omega) j fun d _=>f d).mono fun e w' hr=>?_;unfold LoadR at hr
 split at hr
 · exact .inl ⟨10,by decide,hr.1,hr.2,hs⟩
 split at hr
 · exact .inl ⟨12,by decide,hr.1,hr.2,hs⟩
 rename_i hb _
 split at hr
 · rename_i hd
   obtain ⟨a,S,F,d,l,o,p,s⟩:=hr;have t:=(f (by simpa using hb)).1.len;exact .inr ⟨⟨r,m,ks,q⟩,a,S,F,d,hd.2,Nat.le_of_lt t,l,o,p,s⟩
 exact .inl ⟨11,by decide,hr.1,hr.2,hs⟩
set_option maxHeartbeats 16000000 in
theorem zjd {TA:zao} (hT:TreeOk TA 1000000) (hTD:TreeDl TA) (w:World) (v:Value) (l:List CalQ) (at_ by_:Int) (_ha0 : -9223372036854775808<=at_) (_ha1:at_<=9223372036854775807) (hb:0<=by_/\by_<=255) (hv:CalR w v l) (hlq:∀ q∈l,LeaQ q) :
 Calls Tryz.prog 14 #[v,.int .i64 at_,.int .u8 by_] w fun e w'=>e=.returned (.bool true)/\Fr No w w':=by
 have m:=zcl w v l hv
 cases hfl:zba l with
 | false =>
   rw [hfl] at m;obtain ⟨va,ae,X,_,_,_⟩:=hv.sl.shape;clear hv;subst X;have CA:=H_ m;clear m;go_enter Tryz.func14,Tryz.ntmps14
   go_wp2_with (first
    | (go_at_call 15;with_reducible refine CA.out.mono ?_;rintro e w1 ⟨rfl,rfl⟩)
    | (go_at_call 39;refine (zax hT _).mono ?_;rintro e w2 ⟨rfl,t⟩))
   go_ret;exact ⟨rfl,t⟩
 | true =>
   rw [hfl] at m;have aM:=(zar hfl).1;have T:=zdi hT hTD w v l hv hfl;have hG:=zbe hfl l.length (Nat.le_refl _);have hI:=zdu hfl hlq;have y:=zxr hfl hlq;obtain ⟨va,ae,X,_,_,_⟩:=hv.sl.shape;clear hv hlq;subst X;generalize donesT l l.length=SD at *;obtain ⟨S,D⟩:=SD;dsimp only at hG T hI y;have ab:=hG.rev1;have V:=hG.cpl.m0;have O:=fun W s F hS=>zbl hT hG (by omega) (by omega) (Nat.le_of_lt hI.n64.len) W s F hS;have o:=fun i c W=>zja hT hI y (by omega) V.1 V.2 i c W;have aD:=znv D;obtain ⟨Z,hZ⟩:∃ Z,docB D=Z:=⟨_,rfl⟩;rw [hZ] at O o aD y;obtain ⟨k,u,aU,aV,aW⟩:=rem_at at_ (n:=Z.length) (by omega);have CA:=H_ m;have am:=H_ T;have al:=H_ O;have Y:=H_ o;clear m T O o hG hI ab V hZ;have aA:=zaz Z;go_enter Tryz.func14,Tryz.ntmps14
   go_upto_region 4 with (first
    | (go_at_call 15;(with_reducible refine CA.out.mono ?_);rintro e w1 ⟨rfl,rfl⟩)
    | (go_at_call 40;(with_reducible refine am.out.mono ?_);rintro e w2 ⟨s,rfl,F,z,t,E⟩)
    | (go_at_call 42;(with_reducible refine (al.out _ _ _ z).mono ?_);rintro e b ⟨rfl,U⟩;have B:=Lib.run_convert_string_bytes (P:=Tryz.prog) b 9 90 5 ⟨Z.toArray⟩ Tryz.underlying9 Tryz.underlying90 Tryz.underlying5))
   have M:=Lib.bytesWorld_at_new b 5 ⟨Z.toArray⟩
   have r:∀ j (hj:j<Z.length),(Lib.bytesWorld b 5 ⟨Z.toArray⟩).cell? ⟨b.heap.size,j,none⟩=some (.int .u8 Z[j].toNat):=fun j hj=>by
    have h:=Lib.bytesWorld_cell b 5 ⟨Z.toArray⟩ j (by rw [zaz];exact hj);rw [h];simp [List.getD,hj]
   have a7:Fr No b (Lib.bytesWorld b 5 ⟨Z.toArray⟩):=((Fr.refl No b).drew.alloc _).freezeAt _ _ (.inr (Nat.le_refl _))
   have aB:(Lib.bytesWorld b 5 ⟨Z.toArray⟩).frozen? ⟨b.heap.size,k,none⟩=false:=by
    have aY:k<(Lib.bytesCells b 5 ⟨Z.toArray⟩).size:=by
     have h:=r k u;unfold World.cell? at h;simp only [M] at h;simp only [Option.isSome_none,Bool.false_eq_true,if_false] at h;exact (Array.getElem?_eq_some_iff.1 h).1
    unfold World.frozen?;simp only [M];simp;omega
   clear B M;generalize grownCap b Z.length 0 5=cp at *;generalize Lib.bytesWorld b 5 ⟨Z.toArray⟩=W at *;have aE:b.heap.size<W.heap.size:=World.block_lt_of_cell? _ _ (r k u);have aC:w.heap.size<=b.heap.size:=(t.trans0 U).size;have aq:=H_ ((t.trans0 U).trans0 a7);clear z t E U a7 aA;generalize b.heap.size=g at *;obtain ⟨x,hx⟩:∃ x,bits BinOp.xor IntKind.u8 (Z[k].toNat:Int) by_=x:=⟨_,rfl⟩;have aG:0<=x:=(by rw [<-hx];exact bits_lo_u8 _ _ _);have aH:x<=255:=(by rw [<-hx];exact bits_hi_u8 _ _ _);obtain ⟨c,hc⟩:∃ c:UInt8,(c.toNat:Int)=x:=⟨UInt8.ofNat x.toNat,by rw [UInt8.toNat_ofNat'];omega⟩
   have ad:by_=0->Z.set k c=Z:=fun h=>by
    subst h;have h1:=zyh ⟨Z[k].toNat,Z[k].toNat_lt⟩;dsimp only at h1;have h2:c=Z[k]:=UInt8.toNat_inj.1 (by omega);rw [h2];exact List.set_getElem_self u
   have a4:=r k u
   have K:Hid (∀ j (hj:j<(Z.set k c).length),(W.setCell ⟨g,k,none⟩ (.int .u8 x)).cell? ⟨g,j,none⟩=some (.int .u8 (Z.set k c)[j].toNat)):=H_ fun j hj=>by
    rw [List.length_set] at hj;by_cases e:k=j
    · subst e
      rw [World.cell?_setCell_same _ _ _ a4,List.getElem_set_self,hc]
    have G:(⟨g,k,none⟩:Addr)≠⟨g,j,none⟩:=fun h=>e (by cases h;rfl)
    rw [World.cell?_setCell_other _ _ _ _ G,List.getElem_set_ne e];exact r j hj
   have a1:=H_ ad;clear r ad aG aH hc;have b0:¬ (Z.length:Int)=0:=(by omega);have aX:(k:Int)<(Z.length:Int):=(by omega);go_upto_region 8 with fail;have a8:Fr No w (W.setCell ⟨g,k,none⟩ (.int .u8 x)):=aq.out.setCell (p:=⟨g,k,none⟩) (.inr aC) _;have aN:g<(W.setCell ⟨g,k,none⟩ (.int .u8 x)).heap.size:=World.block_lt_of_cell? _ _ (K.out k (by rw [List.length_set];exact u));have H:=H_ a8;clear aB aE a4 a8 hx;generalize W.setCell ⟨g,k,none⟩ (.int .u8 x)=W2 at *;have A:(Z.set k c).length=Z.length:=List.length_set ..
   have I:∀ j,(⟨g,0,none⟩:Addr).add j=⟨g,j,none⟩:=fun j=>by
    unfold Addr.add;by_cases h:j=0
    · simp [h]
    simp [h]
   have d:Hid (∀ W,Fr No W2 W->(convert 90 9 (.slice (some ⟨g,0,none⟩) Z.length cp)).run Tryz.prog W=.ok (.string ⟨(Z.set k c).toArray⟩) W):=H_ fun W hW=>by
    have h:=run_convert_bytes_back (P:=Tryz.prog) W 90 9 5 ⟨g,0,none⟩ cp (Z.set k c) Tryz.underlying90 Tryz.underlying5 Tryz.underlying9 fun j hj=>by
     rw [I];exact hW.cell0 (K.out j hj)
    rw [A] at h;exact h
   have B:=d.out W2 (Fr.refl No W2);have o:=Y.out k c W2;have a3:=fun (D2:Doc) (S2:St) (h:MadeOk D2 S2) (e:docB D2=Z.set k c) hl W a F hS=>zqe hT h (by rw [e,A];omega) hl W a F hS;have av:Hid (Z.set k c≠Z->by_≠0):=H_ fun h e=>h (a1.out e);have a0:=H_ o;have ak:=H_ a3;clear o a3 A I Y a1 K;go_upto_region 9 with (go_at_call 45;(with_reducible refine a0.out.mono ?_);rintro e w5 (⟨n,hn,rfl,f,G⟩ | ⟨D2,a,S2,F2,rfl,Q,a9,z,aa,E,f⟩))
   · have J:=av.out G
     have aJ:(by_==0)=false:=(by simpa using J);have aK:(by_ != 0)=true:=(by simpa using J);have aZ:(n==0)=false:=(by simpa using hn);have E:(n != 0)=true:=(by simpa using hn);clear B G;go_wp2_with (go_at_call 39;refine (zax hT _).mono ?_;rintro e w6 ⟨rfl,C⟩);go_ret;exact ⟨rfl,(H.out.trans0 f).trans0 C⟩
   have N:=ak.out D2 S2 aa Q a9
   rw [Q] at N;have aj:=H_ N;have ar:=H_ z;have L:=H_ f;have a5:=d.out w5 f;have aO:g<w5.heap.size:=(by have:=f.size;omega);clear N z aa E Q a9 B f;go_upto_region 11 with fail;generalize (⟨(Z.set k c).toArray⟩:ByteArray)=R at *;have q0:=d.out w5 L.out;have q1:=d.out w5.drew L.out.drew;have au:=H_ (ar.out.fr0 hT (Fr.refl No w5).drew);have ap:=H_ L.out.drew;clear a5
   go_region_held3 (fun W=>(convert 90 9 (.slice (some ⟨g,0,none⟩) Z.length cp)).run Tryz.prog W=.ok (.string R) W)
    (first | with_reducible exact q0 | with_reducible exact q1 | with_reducible exact qa | with_reducible exact qb | fail)
    (first
      | (go_at_call 42;(with_reducible refine (aj.out _ a F2 au.out).mono ?_);rintro e w6 ⟨rfl,C⟩
         have h6:=ap.out.trans0 C;have qa:=d.out _ h6;have an:=H_ h6;clear h6 C)
      | (go_at_call 39;refine (zax hT _).mono ?_;rintro e w7 ⟨rfl,a6⟩
         have h7:=an.out.trans0 a6;have qb:=d.out _ h7;have ao:=H_ h7;clear h7 a6))
   all_goals
    go_wp2;go_ret;exact ⟨rfl,H.out.trans0 ao.out⟩
end Go.Proofs.YthljnnjpmdgkoaaGreat
