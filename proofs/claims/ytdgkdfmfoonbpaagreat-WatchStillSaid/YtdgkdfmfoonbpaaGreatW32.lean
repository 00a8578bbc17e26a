/- Own lemmas. -/
import Derived.Test.YtdgkdfmfoonbpaaGreatW31
import Derived.Test.YtdgkdfmfoonbpaaGreatW16
import Derived.Test.YtdgkdfmfoonbpaaGreatW30
import Derived.Deep.RegionHeld3
namespace Go.Proofs.YtdgkdfmfoonbpaaGreat
open Go Go.Proofs Go.RowKit
set_option maxRecDepth 100000
theorem zeg (w:World) (x:Kv):Calls Tryz.prog 51 #[kvV x,kvV x] w fun e w'=>e=.returned (.bool true)/\Fr No w w':=by
 obtain ⟨a,b,c,d,f,g⟩:=x;unfold kvV;dsimp only;go_enter Tryz.func51,Tryz.ntmps51;go_wp2;go_ret;exact ⟨rfl,((Fr.refl No w).alloc _).alloc _⟩
set_option maxHeartbeats 4000000 in
theorem zip (w:World) (u v:Value) (L:List Kv) (hu:SlR w 6 kvC u L) (hv:SlR w 6 kvC v L) (hl:L.length<=9223372036854775807) :
 Calls Tryz.prog 57 #[u,v] w fun e w'=>e=.returned (.bool true)/\Fr No w w':=by
 obtain ⟨a,ca,rfl,U,V,z⟩:=hu.shape;obtain ⟨b,cb,rfl,X,Y,A⟩:=hv.shape;have K:=H_ hu;have M:=H_ hv;have I:=H_ z;have J:=H_ A;clear hu hv z A;go_enter Tryz.func57,Tryz.ntmps57;go_wp2
 go_loopg [5] L.length (fun g s5 wr=>∃ i:Nat,s5=.int .i64 i/\i+g=L.length/\Hid (Fr No w wr))
 case atStart=>exact ⟨0,rfl,by simp,H_ (Fr.refl No w)⟩
 case round =>
  obtain ⟨i,rfl,hi,B⟩:=hrel
  cases gk with
  | zero =>
    have D:¬ (i:Int)<(L.length:Int):=(by omega);go_wp2;go_ret;exact ⟨rfl,B.out⟩
  | succ g =>
    have D:(i:Int)<(L.length:Int):=(by omega);obtain ⟨x,f⟩:∃ x,L[i]?=some x:=⟨_,List.getElem?_eq_getElem (by omega)⟩;obtain ⟨j,l,rfl⟩:=I.out (by omega);obtain ⟨k,m,rfl⟩:=J.out (by omega);have c:=K.out.fr0 B.out;have d:=M.out.fr0 B.out;have F:=c.cell0 zak i f rfl;have G:=d.cell0 zak i f rfl;have P:=c.cell zak i 1 f rfl;have Z:=d.cell zak i 1 f rfl;have Q:=c.cell zak i 2 f rfl;have q2:=d.cell zak i 2 f rfl;have R:=c.cell zak i 3 f rfl;have q3:=d.cell zak i 3 f rfl;have S:=c.cell zak i 4 f rfl;have q4:=d.cell zak i 4 f rfl;have T:=c.cell zak i 5 f rfl;have q5:=d.cell zak i 5 f rfl;have lf:=World.block_lt_of_cell? _ _ F;have lq:=World.block_lt_of_cell? _ _ G;clear f c d;obtain ⟨o,q,r,s,t,y⟩:=x;dsimp only at *
    have C:Hid (∀ W,Fr No wr W->W.cell? ⟨j,l+i * 6,none⟩=some (.string o)/\W.cell? ⟨j,l+i * 6+1,none⟩=some (.string q)/\W.cell? ⟨j,l+i * 6+2,none⟩=some (.int .i64 r)/\W.cell? ⟨j,l+i * 6+3,none⟩=some (.int .i64 s)/\W.cell? ⟨j,l+i * 6+4,none⟩=some (.int .i64 t)/\W.cell? ⟨j,l+i * 6+5,none⟩=some (.int .i64 y)/\W.cell? ⟨k,m+i * 6,none⟩=some (.string o)/\W.cell? ⟨k,m+i * 6+1,none⟩=some (.string q)/\W.cell? ⟨k,m+i * 6+2,none⟩=some (.int .i64 r)/\W.cell? ⟨k,m+i * 6+3,none⟩=some (.int .i64 s)/\W.cell? ⟨k,m+i * 6+4,none⟩=some (.int .i64 t)/\W.cell? ⟨k,m+i * 6+5,none⟩=some (.int .i64 y)):=H_ fun W hW=>⟨hW.cell0 F,hW.cell0 P,hW.cell0 Q,hW.cell0 R,hW.cell0 S,hW.cell0 T,hW.cell0 G,hW.cell0 Z,hW.cell0 q2,hW.cell0 q3,hW.cell0 q4,hW.cell0 q5⟩
    have b1:=C.out wr (Fr.refl No wr);have b2:=C.out wr.drew (Fr.refl No wr).drew;have E:Hid (∀ (W:World) (k1 k2:ByteArray) (k3 k4 k5 k6:Int),Calls Tryz.prog 51 #[.agg #[.string k1,.string k2,.int .i64 k3,.int .i64 k4,.int .i64 k5,.int .i64 k6],.agg #[.string k1,.string k2,.int .i64 k3,.int .i64 k4,.int .i64 k5,.int .i64 k6]] W fun e w'=>e=.returned (.bool true)/\Fr No W w'):=H_ fun W k1 k2 k3 k4 k5 k6=>zeg W ⟨k1,k2,k3,k4,k5,k6⟩;have C1:=H_ (E.out wr o q r s t y);have H:=H_ (E.out wr.drew o q r s t y);have HD:=H_ (Fr.refl No wr).drew;go_upto_region 6 with fail
    go_cut [26] (fun s26 wx=>s26=.bool false/\Hid (Fr No wr wx))
    case first =>
     go_region_held3 (fun W=>W.cell? ⟨j,l+i * 6,none⟩=some (.string o)/\W.cell? ⟨j,l+i * 6+1,none⟩=some (.string q)/\W.cell? ⟨j,l+i * 6+2,none⟩=some (.int .i64 r)/\W.cell? ⟨j,l+i * 6+3,none⟩=some (.int .i64 s)/\W.cell? ⟨j,l+i * 6+4,none⟩=some (.int .i64 t)/\W.cell? ⟨j,l+i * 6+5,none⟩=some (.int .i64 y)/\W.cell? ⟨k,m+i * 6,none⟩=some (.string o)/\W.cell? ⟨k,m+i * 6+1,none⟩=some (.string q)/\W.cell? ⟨k,m+i * 6+2,none⟩=some (.int .i64 r)/\W.cell? ⟨k,m+i * 6+3,none⟩=some (.int .i64 s)/\W.cell? ⟨k,m+i * 6+4,none⟩=some (.int .i64 t)/\W.cell? ⟨k,m+i * 6+5,none⟩=some (.int .i64 y))
      (first | with_reducible exact b1 | with_reducible exact b2 | with_reducible exact O)
      (first | (go_at_call 51;refine (zeg _ ⟨o,q,r,s,t,y⟩).mono ?_;rintro e w3 ⟨rfl,n⟩;have O:=C.out w3 (by first | exact n | exact (Fr.refl No wr).drew.trans0 n)))
     all_goals
      go_wp2;go_meet
      case rel=>exact ⟨rfl,H_ (by first | exact n | exact (Fr.refl No wr).drew.trans0 n)⟩
    case rest =>
     obtain ⟨rfl,N⟩:=hcut;go_wp2;go_roundg g
     case rel=>exact ⟨i+1,by go_num,by omega,H_ (B.out.trans0 N.out)⟩
     case measure=>omega
set_option maxHeartbeats 4000000 in
theorem zgc (w:World) (u v:Value) (L:List Ev) (hu:SlR w 13 evC u L) (hv:SlR w 13 evC v L) (hl:L.length<=1099511627) :
 Calls Tryz.prog 26 #[u,v] w fun e w'=>e=.returned (.bool true)/\Fr No w w':=by
 obtain ⟨a,ca,rfl,av,aw,J⟩:=hu.shape;obtain ⟨b,cb,rfl,ax,ay,K⟩:=hv.shape;have HU:=H_ hu;have HV:=H_ hv;have HA:=H_ J;have HB:=H_ K;clear hu hv J K;go_enter Tryz.func26,Tryz.ntmps26;go_wp2
 go_loopg [5] L.length (fun g s5 wr=>∃ i:Nat,s5=.int .i64 i/\i+g=L.length/\Hid (Fr No w wr))
 case atStart=>exact ⟨0,rfl,by simp,H_ (Fr.refl No w)⟩
 case round =>
  obtain ⟨i,rfl,hi,O⟩:=hrel
  cases gk with
  | zero =>
    have a2:¬ (i:Int)<(L.length:Int):=(by omega);go_wp2;go_ret;exact ⟨rfl,O.out⟩
  | succ g =>
    have a2:(i:Int)<(L.length:Int):=(by omega);obtain ⟨x,f⟩:∃ x,L[i]?=some x:=⟨_,List.getElem?_eq_getElem (by omega)⟩;obtain ⟨j,l,rfl⟩:=HA.out (by omega);obtain ⟨k,m,rfl⟩:=HB.out (by omega);have c:=HU.out.fr0 O.out;have d:=HV.out.fr0 O.out;have f0:=c.cell0 zaa i f rfl;have q0:=d.cell0 zaa i f rfl;have f1:=c.cell zaa i 1 f rfl;have q1:=d.cell zaa i 1 f rfl;have f2:=c.cell zaa i 2 f rfl;have q2:=d.cell zaa i 2 f rfl;have f3:=c.cell zaa i 3 f rfl;have q3:=d.cell zaa i 3 f rfl;have f4:=c.cell zaa i 4 f rfl;have q4:=d.cell zaa i 4 f rfl;have f5:=c.cell zaa i 5 f rfl;have q5:=d.cell zaa i 5 f rfl;have f6:=c.cell zaa i 6 f rfl;have q6:=d.cell zaa i 6 f rfl;have f7:=c.cell zaa i 7 f rfl;have q7:=d.cell zaa i 7 f rfl;have f8:=c.cell zaa i 8 f rfl
    have q8:=d.cell zaa i 8 f rfl;have f9:=c.cell zaa i 9 f rfl;have q9:=d.cell zaa i 9 f rfl;have Z:=c.cell zaa i 10 f rfl;have a3:=d.cell zaa i 10 f rfl;have a0:=c.cell zaa i 11 f rfl;have a4:=d.cell zaa i 11 f rfl;have a1:=c.cell zaa i 12 f rfl;have a5:=d.cell zaa i 12 f rfl;have lf:=World.block_lt_of_cell? _ _ f0;have lq:=World.block_lt_of_cell? _ _ q0;clear f c d;obtain ⟨P,⟨A,B,C,D,E,F⟩,⟨G,H,I,q,r,s⟩⟩:=x;dsimp only at *
    have z:Hid (∀ W,Fr No wr W->W.cell? ⟨j,l+i * 13,none⟩=some (.int .i64 P)/\W.cell? ⟨j,l+i * 13+1,none⟩=some (.string A)/\W.cell? ⟨j,l+i * 13+2,none⟩=some (.string B)/\W.cell? ⟨j,l+i * 13+3,none⟩=some (.int .i64 C)/\W.cell? ⟨j,l+i * 13+4,none⟩=some (.int .i64 D)/\W.cell? ⟨j,l+i * 13+5,none⟩=some (.int .i64 E)/\W.cell? ⟨j,l+i * 13+6,none⟩=some (.int .i64 F)/\W.cell? ⟨j,l+i * 13+7,none⟩=some (.string G)/\W.cell? ⟨j,l+i * 13+8,none⟩=some (.string H)/\W.cell? ⟨j,l+i * 13+9,none⟩=some (.int .i64 I)/\W.cell? ⟨j,l+i * 13+10,none⟩=some (.int .i64 q)/\W.cell? ⟨j,l+i * 13+11,none⟩=some (.int .i64 r)/\W.cell? ⟨j,l+i * 13+12,none⟩=some (.int .i64 s)/\W.cell? ⟨k,m+i * 13,none⟩=some (.int .i64 P)/\W.cell? ⟨k,m+i * 13+1,none⟩=some (.string A)/\W.cell? ⟨k,m+i * 13+2,none⟩=some (.string B)/\W.cell? ⟨k,m+i * 13+3,none⟩=some (.int .i64 C)/\W.cell? ⟨k,m+i * 13+4,none⟩=some (.int .i64 D)/\W.cell? ⟨k,m+i * 13+5,none⟩=some (.int .i64 E)/\W.cell? ⟨k,m+i * 13+6,none⟩=some (.int .i64 F)/\W.cell? ⟨k,m+i * 13+7,none⟩=some (.string G)/\W.cell? ⟨k,m+i * 13+8,none⟩=some (.string H)/\W.cell? ⟨k,m+i * 13+9,none⟩=some (.int .i64 I)/\W.cell? ⟨k,m+i * 13+10,none⟩=some (.int .i64 q)/\W.cell? ⟨k,m+i * 13+11,none⟩=some (.int .i64 r)/\W.cell? ⟨k,m+i * 13+12,none⟩=some (.int .i64 s)):=H_ fun W hW=>⟨hW.cell0 f0,hW.cell0 f1,hW.cell0 f2,hW.cell0 f3,hW.cell0 f4,hW.cell0 f5,hW.cell0 f6,hW.cell0 f7,hW.cell0 f8,hW.cell0 f9,hW.cell0 Z,hW.cell0 a0,hW.cell0 a1,hW.cell0 q0,hW.cell0 q1,hW.cell0 q2,hW.cell0 q3,hW.cell0 q4,hW.cell0 q5,hW.cell0 q6,hW.cell0 q7,hW.cell0 q8,hW.cell0 q9,hW.cell0 a3,hW.cell0 a4,hW.cell0 a5⟩
    have b1:=z.out wr (Fr.refl No wr);have b2:=z.out wr.drew (Fr.refl No wr).drew;have N:Hid (∀ (W:World) (k1 k2:ByteArray) (k3 k4 k5 k6:Int),Calls Tryz.prog 51 #[.agg #[.string k1,.string k2,.int .i64 k3,.int .i64 k4,.int .i64 k5,.int .i64 k6],.agg #[.string k1,.string k2,.int .i64 k3,.int .i64 k4,.int .i64 k5,.int .i64 k6]] W fun e w'=>e=.returned (.bool true)/\Fr No W w'):=H_ fun W k1 k2 k3 k4 k5 k6=>zeg W ⟨k1,k2,k3,k4,k5,k6⟩;have C1:=H_ (N.out wr A B C D E F);have Q:=H_ (N.out wr.drew A B C D E F);have HD:=H_ (Fr.refl No wr).drew;go_upto_region 6 with fail
    go_cut [55] (fun sc wx=>sc=.bool false/\Hid (Fr No wr wx))
    case first =>
     go_region_held3 (fun W=>W.cell? ⟨j,l+i * 13,none⟩=some (.int .i64 P)/\W.cell? ⟨j,l+i * 13+1,none⟩=some (.string A)/\W.cell? ⟨j,l+i * 13+2,none⟩=some (.string B)/\W.cell? ⟨j,l+i * 13+3,none⟩=some (.int .i64 C)/\W.cell? ⟨j,l+i * 13+4,none⟩=some (.int .i64 D)/\W.cell? ⟨j,l+i * 13+5,none⟩=some (.int .i64 E)/\W.cell? ⟨j,l+i * 13+6,none⟩=some (.int .i64 F)/\W.cell? ⟨j,l+i * 13+7,none⟩=some (.string G)/\W.cell? ⟨j,l+i * 13+8,none⟩=some (.string H)/\W.cell? ⟨j,l+i * 13+9,none⟩=some (.int .i64 I)/\W.cell? ⟨j,l+i * 13+10,none⟩=some (.int .i64 q)/\W.cell? ⟨j,l+i * 13+11,none⟩=some (.int .i64 r)/\W.cell? ⟨j,l+i * 13+12,none⟩=some (.int .i64 s)/\W.cell? ⟨k,m+i * 13,none⟩=some (.int .i64 P)/\W.cell? ⟨k,m+i * 13+1,none⟩=some (.string A)/\W.cell? ⟨k,m+i * 13+2,none⟩=some (.string B)/\W.cell? ⟨k,m+i * 13+3,none⟩=some (.int .i64 C)/\W.cell? ⟨k,m+i * 13+4,none⟩=some (.int .i64 D)/\W.cell? ⟨k,m+i * 13+5,none⟩=some (.int .i64 E)/\W.cell? ⟨k,m+i * 13+6,none⟩=some (.int .i64 F)/\W.cell? ⟨k,m+i * 13+7,none⟩=some (.string G)/\W.cell? ⟨k,m+i * 13+8,none⟩=some (.string H)/\W.cell? ⟨k,m+i * 13+9,none⟩=some (.int .i64 I)/\W.cell? ⟨k,m+i * 13+10,none⟩=some (.int .i64 q)/\W.cell? ⟨k,m+i * 13+11,none⟩=some (.int .i64 r)/\W.cell? ⟨k,m+i * 13+12,none⟩=some (.int .i64 s))
      (first | with_reducible exact b1 | with_reducible exact b2 | with_reducible exact b3 | with_reducible exact X | with_reducible exact b4 | with_reducible exact Y)
      (first
        | (go_at_call 51;(first | with_reducible refine C1.out.mono ?_ | with_reducible refine Q.out.mono ?_);rintro e M ⟨rfl,t⟩
           have n:Fr No wr M:=(by first | with_reducible exact t | with_reducible exact HD.out.trans0 t);have b3:=z.out M n;have X:=z.out M.drew n.drew;have C2:=H_ (N.out M G H I q r s);have R:=H_ (N.out M.drew G H I q r s);have U:=H_ n;have S:=H_ n.drew;clear t n)
        | (go_at_call 51;(first | with_reducible refine C2.out.mono ?_ | with_reducible refine R.out.mono ?_);rintro e w4 ⟨rfl,y⟩
           have o:Fr No wr w4:=(by first | with_reducible exact U.out.trans0 y | with_reducible exact S.out.trans0 y);have b4:=z.out w4 o;have Y:=z.out w4.drew o.drew;have V:=H_ o;have T:=H_ o.drew;clear y o))
     all_goals
      go_wp2;go_meet
      case rel=>exact ⟨rfl,by first | with_reducible exact V | with_reducible exact T⟩
    case rest =>
     obtain ⟨rfl,HX⟩:=hcut;go_wp2;go_roundg g
     case rel=>exact ⟨i+1,by go_num,by omega,H_ (O.out.trans0 HX.out)⟩
     case measure=>omega
theorem zmz (w:World) (r m:Int) (n1 n2 c1 c2:Nat) (a1 a2:Option Addr) :
 Calls Tryz.prog 29 #[stateV r m (.slice a1 n1 c1) (.slice a2 n2 c2)] w fun e w'=>e=.returned (stateV r m (.slice a1 n1 c1) (.slice a2 n2 c2))/\Fr No w w':=by
 unfold stateV;go_enter Tryz.func29,Tryz.ntmps29;go_wp2;exact bodyPost_ret (results_cell_row rfl _ _ (w.heap.size+1) 76 _ (0,0) _ rfl (zad _ _ _ (by simp)) Tryz.underlying76 rfl (by kernel_rfl)) rfl ⟨rfl,((Fr.refl No w).alloc _).alloc _⟩
theorem zmw (w:World) (r m:Int) (u1 u2 v1 v2:Value) (L:List Kv) (M:List Ev) (h1:SlR w 6 kvC u1 L) (h2:SlR w 6 kvC u2 L) (h3:SlR w 13 evC v1 M) (h4:SlR w 13 evC v2 M) (hl:L.length<=1099511627) (hm:M.length<=1099511627) :
 Calls Tryz.prog 28 #[stateV r m u1 v1,stateV r m u2 v2] w fun e w'=>e=.returned (.bool true)/\Fr No w w':=by
 have b:=fun W (h:Fr No w W)=>zip W u1 u2 L (h1.fr0 h) (h2.fr0 h) (by omega);have c:=fun W (h:Fr No w W)=>zgc W v1 v2 M (h3.fr0 h) (h4.fr0 h) hm;obtain ⟨n,s,rfl,_,_,_⟩:=h1.shape;obtain ⟨o,t,rfl,_,_,_⟩:=h2.shape;obtain ⟨j,l,rfl,_,_,_⟩:=h3.shape;obtain ⟨q,u,rfl,_,_,_⟩:=h4.shape;have g:=H_ b;have i:=H_ c;clear h1 h2 h3 h4 b c;unfold stateV;go_enter Tryz.func28,Tryz.ntmps28
 go_wp2_with (first
  | (go_at_call 57;refine (g.out _ (((Fr.refl No w).alloc _).alloc _)).mono ?_;rintro e w1 ⟨rfl,a⟩
     have d:=a.heap (zar (zad w (Obj.cells #[.int .i64 r,.int .i64 m,.slice n L.length s,.slice j M.length l] 76) _ rfl) (Obj.cells #[.int .i64 r,.int .i64 m,.slice o L.length t,.slice q M.length u] 76)) id;have f:=a.heap (zad (w.alloc (Obj.cells #[.int .i64 r,.int .i64 m,.slice n L.length s,.slice j M.length l] 76)) (Obj.cells #[.int .i64 r,.int .i64 m,.slice o L.length t,.slice q M.length u] 76) (w.heap.size+1) (by simp)) id;have z:w1.cell? ⟨w.heap.size,3,none⟩=some (.slice j M.length l):=cellAt d 3 rfl;have A:=cellAt f 3 rfl;have v:=zaf d;have x:=zaf f)
  | (go_at_call 26;refine (i.out _ ((((Fr.refl No w).alloc _).alloc _).trans0 a)).mono ?_;rintro e y ⟨rfl,k⟩))
 go_ret;exact ⟨rfl,(((Fr.refl No w).alloc _).alloc _).trans0 (a.trans0 k)⟩
theorem zpw (w:World) (r m:Int) (u1 u2 v1 v2:Value) (L:List Kv) (M:List Ev) (h1:SlF w 70 6 kvC u1 L) (h2:SlF w 70 6 kvC u2 L) (h3:SlF w 72 13 evC v1 M) (h4:SlF w 72 13 evC v2 M) (hl:L.length<=1099511627) (hm:M.length<=1099511627) :
 Calls Tryz.prog 28 #[stateV r m u1 v1,stateV r m u2 v2] w fun e w'=>e=.returned (.bool true)/\Fr No w w':=zmw w r m u1 u2 v1 v2 L M (h1.toR zak) (h2.toR zak) (h3.toR zaa) (h4.toR zaa) hl hm
theorem zmj {TA:zan} (hT:TreeOk TA 1000000) {k:Nat} {S:St} {D:Doc} (h:Good k S D) (hk:k<=70) (w:World) (s:Nat) (F:Nat->Prop) (hS:zai TA w s S F) :
 Calls Tryz.prog 30 #[.pointer (some ⟨s,0,none⟩)] w fun e w'=>∃ a1 c1 a2 c2,e=.returned (stateV S.rev S.mark (.slice a1 (zam S S.T S.mark).length c1) (.slice a2 S.events.length c2))/\SlF w' 70 6 kvC (.slice a1 (zam S S.T S.mark).length c1) (zam S S.T S.mark)/\SlF w' 72 13 evC (.slice a2 S.events.length c2) S.events/\Fr No w w' ∧
  (∀ b,(Value.slice a1 (zam S S.T S.mark).length c1).ownBlock=some b->w.heap.size<=b)/\(∀ b,(Value.slice a2 S.events.length c2).ownBlock=some b->w.heap.size<=b):=by
 refine (zog hT (n:=20000 * k) (by omega) w s S F hS h.ok (by have:=h.size;omega)).mono ?_;rintro e w' ⟨kv,i,rfl,a,c,d,f,g⟩;obtain ⟨a1,c1,rfl,_,_,_⟩:=a.shape;obtain ⟨a2,c2,rfl,_,_,_⟩:=c.shape;exact ⟨a1,c1,a2,c2,rfl,a,c,d,f,g⟩
theorem zrs {k:Nat} {S:St} {D:Doc} (h:Good k S D) (hk:k<=70):(zam S S.T S.mark).length<=1099511627/\S.events.length<=1099511627:=by
 have a:=h.size;have b:=h.ok.ev;refine ⟨?_,by omega⟩;unfold zam;exact Nat.le_trans (List.length_filterMap_le _ _) (by omega)
end Go.Proofs.YtdgkdfmfoonbpaaGreat