/- Own lemmas and contracts that the claim's proof needs, laid together. The conditions stand in each. -/
import Derived.Test.YthljnnjpmdgkoaaGreatB33
import Derived.Test.YthljnnjpmdgkoaaGreatB16
import Derived.Test.YthljnnjpmdgkoaaGreatB23
import Derived.Deep.RegionHeld3
import Derived.Deep.DeepCutAuto
import Derived.ProofKit
import Derived.Deep.Slices
import Derived.Deep.Fields
import Derived.ChangeSame
namespace Go.Proofs.YthljnnjpmdgkoaaGreat
open Go Go.Proofs Go.RowKit
set_option maxRecDepth 100000
theorem zen (w:World) (x:Kv):Calls Tryz.prog 82 #[kvV x,kvV x] w fun e w'=>e = .returned (.bool true)/\Fr No w w':=by
 obtain ⟨x1,x2,x3,x4,x5,x6⟩:=x;unfold kvV;dsimp only;go_enter Tryz.func82,Tryz.ntmps82;go_wp2;go_ret;exact ⟨rfl,((Fr.refl No w).alloc _).alloc _⟩
set_option maxHeartbeats 4000000 in
theorem zja (w:World) (u v:Value) (L:List Kv) (hu:SlR w 6 kvC u L) (hv:SlR w 6 kvC v L) (hl:L.length<=9223372036854775807) :
 Calls Tryz.prog 54 #[u,v] w fun e w'=>e = .returned (.bool true)/\Fr No w w':=by
 obtain ⟨a,ca,rfl,ha1,ha2,ha3⟩:=hu.shape;obtain ⟨b,cb,rfl,hb1,hb2,hb3⟩:=hv.shape;have HU:=H_ hu;have HV:=H_ hv;have HA:=H_ ha3;have HB:=H_ hb3;clear hu hv ha3 hb3;go_enter Tryz.func54,Tryz.ntmps54;go_wp2
 go_loopg [5] L.length (fun g s5 wr=>∃ i:Nat,s5 = .int .i64 i/\i+g=L.length/\Hid (Fr No w wr))
 case atStart=>exact ⟨0,rfl,by simp,H_ (Fr.refl No w)⟩
 case round =>
  obtain ⟨i,rfl,hi,HF⟩:=hrel
  cases gk with
  | zero =>
    have hil:¬ (i:Int) < (L.length:Int):=(by omega);go_wp2;go_ret;exact ⟨rfl,HF.out⟩
  | succ g =>
    have hil:(i:Int) < (L.length:Int):=(by omega);obtain ⟨x,hx⟩:∃ x,L[i]? = some x:=⟨_,List.getElem?_eq_getElem (by omega)⟩;obtain ⟨ga,oa,rfl⟩:=HA.out (by omega);obtain ⟨gb,ob,rfl⟩:=HB.out (by omega);have hua:=HU.out.fr0 HF.out;have hvb:=HV.out.fr0 HF.out;have f0:=hua.cell0 zai i hx rfl;have q0:=hvb.cell0 zai i hx rfl;have f1:=hua.cell zai i 1 hx rfl;have q1:=hvb.cell zai i 1 hx rfl;have f2:=hua.cell zai i 2 hx rfl;have q2:=hvb.cell zai i 2 hx rfl;have f3:=hua.cell zai i 3 hx rfl;have q3:=hvb.cell zai i 3 hx rfl;have f4:=hua.cell zai i 4 hx rfl;have q4:=hvb.cell zai i 4 hx rfl;have f5:=hua.cell zai i 5 hx rfl;have q5:=hvb.cell zai i 5 hx rfl;have lf:=World.block_lt_of_cell? _ _ f0;have lq:=World.block_lt_of_cell? _ _ q0;clear hx hua hvb;obtain ⟨x1,x2,x3,x4,x5,x6⟩:=x;dsimp only at *
    have HS:Hid (∀ W,Fr No wr W->W.cell? ⟨ga,oa+i * 6,none⟩=some (.string x1)/\W.cell? ⟨ga,oa+i * 6+1,none⟩=some (.string x2)/\W.cell? ⟨ga,oa+i * 6+2,none⟩=some (.int .i64 x3)/\W.cell? ⟨ga,oa+i * 6+3,none⟩=some (.int .i64 x4)/\W.cell? ⟨ga,oa+i * 6+4,none⟩=some (.int .i64 x5)/\W.cell? ⟨ga,oa+i * 6+5,none⟩=some (.int .i64 x6)/\W.cell? ⟨gb,ob+i * 6,none⟩=some (.string x1)/\W.cell? ⟨gb,ob+i * 6+1,none⟩=some (.string x2)/\W.cell? ⟨gb,ob+i * 6+2,none⟩=some (.int .i64 x3)/\W.cell? ⟨gb,ob+i * 6+3,none⟩=some (.int .i64 x4)/\W.cell? ⟨gb,ob+i * 6+4,none⟩=some (.int .i64 x5)/\W.cell? ⟨gb,ob+i * 6+5,none⟩=some (.int .i64 x6)):=H_ fun W hW=>⟨hW.cell0 f0,hW.cell0 f1,hW.cell0 f2,hW.cell0 f3,hW.cell0 f4,hW.cell0 f5,hW.cell0 q0,hW.cell0 q1,hW.cell0 q2,hW.cell0 q3,hW.cell0 q4,hW.cell0 q5⟩
    have b1:=HS.out wr (Fr.refl No wr);have b2:=HS.out wr.drew (Fr.refl No wr).drew;have CK:Hid (∀ (W:World) (k1 k2:ByteArray) (k3 k4 k5 k6:Int),Calls Tryz.prog 82 #[.agg #[.string k1,.string k2,.int .i64 k3,.int .i64 k4,.int .i64 k5,.int .i64 k6],.agg #[.string k1,.string k2,.int .i64 k3,.int .i64 k4,.int .i64 k5,.int .i64 k6]] W fun e w'=>e = .returned (.bool true)/\Fr No W w'):=H_ fun W k1 k2 k3 k4 k5 k6=>zen W ⟨k1,k2,k3,k4,k5,k6⟩;have C1:=H_ (CK.out wr x1 x2 x3 x4 x5 x6);have C1d:=H_ (CK.out wr.drew x1 x2 x3 x4 x5 x6);have HD:=H_ (Fr.refl No wr).drew;go_upto_region 6 with fail
    go_cut [26] (fun s26 wx=>s26 = .bool false/\Hid (Fr No wr wx))
    case first =>
     go_region_held3 (fun W=>W.cell? ⟨ga,oa+i * 6,none⟩=some (.string x1)/\W.cell? ⟨ga,oa+i * 6+1,none⟩=some (.string x2)/\W.cell? ⟨ga,oa+i * 6+2,none⟩=some (.int .i64 x3)/\W.cell? ⟨ga,oa+i * 6+3,none⟩=some (.int .i64 x4)/\W.cell? ⟨ga,oa+i * 6+4,none⟩=some (.int .i64 x5)/\W.cell? ⟨ga,oa+i * 6+5,none⟩=some (.int .i64 x6)/\W.cell? ⟨gb,ob+i * 6,none⟩=some (.string x1)/\W.cell? ⟨gb,ob+i * 6+1,none⟩=some (.string x2)/\W.cell? ⟨gb,ob+i * 6+2,none⟩=some (.int .i64 x3)/\W.cell? ⟨gb,ob+i * 6+3,none⟩=some (.int .i64 x4)/\W.cell? ⟨gb,ob+i * 6+4,none⟩=some (.int .i64 x5)/\W.cell? ⟨gb,ob+i * 6+5,none⟩=some (.int .i64 x6))
      (first | with_reducible exact b1 | with_reducible exact b2 | with_reducible exact b3)
      (first | (go_at_call 82;refine (zen _ ⟨x1,x2,x3,x4,x5,x6⟩).mono ?_;rintro e w3 ⟨rfl,hf3⟩;have b3:=HS.out w3 (by first | exact hf3 | exact (Fr.refl No wr).drew.trans0 hf3)))
     all_goals
      go_wp2;go_meet
      case rel=>exact ⟨rfl,H_ (by first | exact hf3 | exact (Fr.refl No wr).drew.trans0 hf3)⟩
    case rest =>
     obtain ⟨rfl,HX⟩:=hcut;go_wp2;go_roundg g
     case rel=>exact ⟨i+1,by go_num,by omega,H_ (HF.out.trans0 HX.out)⟩
     case measure=>omega
set_option maxHeartbeats 4000000 in
theorem zgo (w:World) (u v:Value) (L:List Ev) (hu:SlR w 13 evC u L) (hv:SlR w 13 evC v L) (hl:L.length<=1099511627) :
 Calls Tryz.prog 36 #[u,v] w fun e w'=>e = .returned (.bool true)/\Fr No w w':=by
 obtain ⟨a,ca,rfl,ha1,ha2,ha3⟩:=hu.shape;obtain ⟨b,cb,rfl,hb1,hb2,hb3⟩:=hv.shape;have HU:=H_ hu;have HV:=H_ hv;have HA:=H_ ha3;have HB:=H_ hb3;clear hu hv ha3 hb3;go_enter Tryz.func36,Tryz.ntmps36;go_wp2
 go_loopg [5] L.length (fun g s5 wr=>∃ i:Nat,s5 = .int .i64 i/\i+g=L.length/\Hid (Fr No w wr))
 case atStart=>exact ⟨0,rfl,by simp,H_ (Fr.refl No w)⟩
 case round =>
  obtain ⟨i,rfl,hi,HF⟩:=hrel
  cases gk with
  | zero =>
    have hil:¬ (i:Int) < (L.length:Int):=(by omega);go_wp2;go_ret;exact ⟨rfl,HF.out⟩
  | succ g =>
    have hil:(i:Int) < (L.length:Int):=(by omega);obtain ⟨x,hx⟩:∃ x,L[i]? = some x:=⟨_,List.getElem?_eq_getElem (by omega)⟩;obtain ⟨ga,oa,rfl⟩:=HA.out (by omega);obtain ⟨gb,ob,rfl⟩:=HB.out (by omega);have hua:=HU.out.fr0 HF.out;have hvb:=HV.out.fr0 HF.out;have f0:=hua.cell0 zab i hx rfl;have q0:=hvb.cell0 zab i hx rfl;have f1:=hua.cell zab i 1 hx rfl;have q1:=hvb.cell zab i 1 hx rfl;have f2:=hua.cell zab i 2 hx rfl;have q2:=hvb.cell zab i 2 hx rfl;have f3:=hua.cell zab i 3 hx rfl;have q3:=hvb.cell zab i 3 hx rfl;have f4:=hua.cell zab i 4 hx rfl;have q4:=hvb.cell zab i 4 hx rfl;have f5:=hua.cell zab i 5 hx rfl;have q5:=hvb.cell zab i 5 hx rfl;have f6:=hua.cell zab i 6 hx rfl;have q6:=hvb.cell zab i 6 hx rfl;have f7:=hua.cell zab i 7 hx rfl;have q7:=hvb.cell zab i 7 hx rfl;have f8:=hua.cell zab i 8 hx rfl
    have q8:=hvb.cell zab i 8 hx rfl;have f9:=hua.cell zab i 9 hx rfl;have q9:=hvb.cell zab i 9 hx rfl;have f10:=hua.cell zab i 10 hx rfl;have q10:=hvb.cell zab i 10 hx rfl;have f11:=hua.cell zab i 11 hx rfl;have q11:=hvb.cell zab i 11 hx rfl;have f12:=hua.cell zab i 12 hx rfl;have q12:=hvb.cell zab i 12 hx rfl;have lf:=World.block_lt_of_cell? _ _ f0;have lq:=World.block_lt_of_cell? _ _ q0;clear hx hua hvb;obtain ⟨x0,⟨x1,x2,x3,x4,x5,x6⟩,⟨x7,x8,x9,x10,x11,x12⟩⟩:=x;dsimp only at *
    have HS:Hid (∀ W,Fr No wr W->W.cell? ⟨ga,oa+i * 13,none⟩=some (.int .i64 x0)/\W.cell? ⟨ga,oa+i * 13+1,none⟩=some (.string x1)/\W.cell? ⟨ga,oa+i * 13+2,none⟩=some (.string x2)/\W.cell? ⟨ga,oa+i * 13+3,none⟩=some (.int .i64 x3)/\W.cell? ⟨ga,oa+i * 13+4,none⟩=some (.int .i64 x4)/\W.cell? ⟨ga,oa+i * 13+5,none⟩=some (.int .i64 x5)/\W.cell? ⟨ga,oa+i * 13+6,none⟩=some (.int .i64 x6)/\W.cell? ⟨ga,oa+i * 13+7,none⟩=some (.string x7)/\W.cell? ⟨ga,oa+i * 13+8,none⟩=some (.string x8)/\W.cell? ⟨ga,oa+i * 13+9,none⟩=some (.int .i64 x9)/\W.cell? ⟨ga,oa+i * 13+10,none⟩=some (.int .i64 x10)/\W.cell? ⟨ga,oa+i * 13+11,none⟩=some (.int .i64 x11)/\W.cell? ⟨ga,oa+i * 13+12,none⟩=some (.int .i64 x12)/\W.cell? ⟨gb,ob+i * 13,none⟩=some (.int .i64 x0)/\W.cell? ⟨gb,ob+i * 13+1,none⟩=some (.string x1)/\W.cell? ⟨gb,ob+i * 13+2,none⟩=some (.string x2)/\W.cell? ⟨gb,ob+i * 13+3,none⟩=some (.int .i64 x3)/\W.cell? ⟨gb,ob+i * 13+4,none⟩=some (.int .i64 x4)/\W.cell? ⟨gb,ob+i * 13+5,none⟩=some (.int .i64 x5)/\W.cell? ⟨gb,ob+i * 13+6,none⟩=some (.int .i64 x6)/\W.cell? ⟨gb,ob+i * 13+7,none⟩=some (.string x7)/\W.cell? ⟨gb,ob+i * 13+8,none⟩=some (.string x8)/\W.cell? ⟨gb,ob+i * 13+9,none⟩=some (.int .i64 x9)/\W.cell? ⟨gb,ob+i * 13+10,none⟩=some (.int .i64 x10)/\W.cell? ⟨gb,ob+i * 13+11,none⟩=some (.int .i64 x11)/\W.cell? ⟨gb,ob+i * 13+12,none⟩=some (.int .i64 x12)):=H_ fun W hW=>⟨hW.cell0 f0,hW.cell0 f1,hW.cell0 f2,hW.cell0 f3,hW.cell0 f4,hW.cell0 f5,hW.cell0 f6,hW.cell0 f7,hW.cell0 f8,hW.cell0 f9,hW.cell0 f10,hW.cell0 f11,hW.cell0 f12,hW.cell0 q0,hW.cell0 q1,hW.cell0 q2,hW.cell0 q3,hW.cell0 q4,hW.cell0 q5,hW.cell0 q6,hW.cell0 q7,hW.cell0 q8,hW.cell0 q9,hW.cell0 q10,hW.cell0 q11,hW.cell0 q12⟩
    have b1:=HS.out wr (Fr.refl No wr);have b2:=HS.out wr.drew (Fr.refl No wr).drew;have CK:Hid (∀ (W:World) (k1 k2:ByteArray) (k3 k4 k5 k6:Int),Calls Tryz.prog 82 #[.agg #[.string k1,.string k2,.int .i64 k3,.int .i64 k4,.int .i64 k5,.int .i64 k6],.agg #[.string k1,.string k2,.int .i64 k3,.int .i64 k4,.int .i64 k5,.int .i64 k6]] W fun e w'=>e = .returned (.bool true)/\Fr No W w'):=H_ fun W k1 k2 k3 k4 k5 k6=>zen W ⟨k1,k2,k3,k4,k5,k6⟩;have C1:=H_ (CK.out wr x1 x2 x3 x4 x5 x6);have C1d:=H_ (CK.out wr.drew x1 x2 x3 x4 x5 x6);have HD:=H_ (Fr.refl No wr).drew;go_upto_region 6 with fail
    go_cut [55] (fun sc wx=>sc = .bool false/\Hid (Fr No wr wx))
    case first =>
     go_region_held3 (fun W=>W.cell? ⟨ga,oa+i * 13,none⟩=some (.int .i64 x0)/\W.cell? ⟨ga,oa+i * 13+1,none⟩=some (.string x1)/\W.cell? ⟨ga,oa+i * 13+2,none⟩=some (.string x2)/\W.cell? ⟨ga,oa+i * 13+3,none⟩=some (.int .i64 x3)/\W.cell? ⟨ga,oa+i * 13+4,none⟩=some (.int .i64 x4)/\W.cell? ⟨ga,oa+i * 13+5,none⟩=some (.int .i64 x5)/\W.cell? ⟨ga,oa+i * 13+6,none⟩=some (.int .i64 x6)/\W.cell? ⟨ga,oa+i * 13+7,none⟩=some (.string x7)/\W.cell? ⟨ga,oa+i * 13+8,none⟩=some (.string x8)/\W.cell? ⟨ga,oa+i * 13+9,none⟩=some (.int .i64 x9)/\W.cell? ⟨ga,oa+i * 13+10,none⟩=some (.int .i64 x10)/\W.cell? ⟨ga,oa+i * 13+11,none⟩=some (.int .i64 x11)/\W.cell? ⟨ga,oa+i * 13+12,none⟩=some (.int .i64 x12)/\W.cell? ⟨gb,ob+i * 13,none⟩=some (.int .i64 x0)/\W.cell? ⟨gb,ob+i * 13+1,none⟩=some (.string x1)/\W.cell? ⟨gb,ob+i * 13+2,none⟩=some (.string x2)/\W.cell? ⟨gb,ob+i * 13+3,none⟩=some (.int .i64 x3)/\W.cell? ⟨gb,ob+i * 13+4,none⟩=some (.int .i64 x4)/\W.cell? ⟨gb,ob+i * 13+5,none⟩=some (.int .i64 x5)/\W.cell? ⟨gb,ob+i * 13+6,none⟩=some (.int .i64 x6)/\W.cell? ⟨gb,ob+i * 13+7,none⟩=some (.string x7)/\W.cell? ⟨gb,ob+i * 13+8,none⟩=some (.string x8)/\W.cell? ⟨gb,ob+i * 13+9,none⟩=some (.int .i64 x9)/\W.cell? ⟨gb,ob+i * 13+10,none⟩=some (.int .i64 x10)/\W.cell? ⟨gb,ob+i * 13+11,none⟩=some (.int .i64 x11)/\W.cell? ⟨gb,ob+i * 13+12,none⟩=some (.int .i64 x12))
      (first | with_reducible exact b1 | with_reducible exact b2 | with_reducible exact b3 | with_reducible exact b3d | with_reducible exact b4 | with_reducible exact b4d)
      (first
        | (go_at_call 82;(first | with_reducible refine C1.out.mono ?_ | with_reducible refine C1d.out.mono ?_);rintro e w3 ⟨rfl,hf3⟩
           have hf3':Fr No wr w3:=(by first | with_reducible exact hf3 | with_reducible exact HD.out.trans0 hf3);have b3:=HS.out w3 hf3';have b3d:=HS.out w3.drew hf3'.drew;have C2:=H_ (CK.out w3 x7 x8 x9 x10 x11 x12);have C2d:=H_ (CK.out w3.drew x7 x8 x9 x10 x11 x12);have HF3:=H_ hf3';have HD3:=H_ hf3'.drew;clear hf3 hf3')
        | (go_at_call 82;(first | with_reducible refine C2.out.mono ?_ | with_reducible refine C2d.out.mono ?_);rintro e w4 ⟨rfl,hf4⟩
           have hf4':Fr No wr w4:=(by first | with_reducible exact HF3.out.trans0 hf4 | with_reducible exact HD3.out.trans0 hf4);have b4:=HS.out w4 hf4';have b4d:=HS.out w4.drew hf4'.drew;have HF4:=H_ hf4';have HD4:=H_ hf4'.drew;clear hf4 hf4'))
     all_goals
      go_wp2;go_meet
      case rel=>exact ⟨rfl,by first | with_reducible exact HF4 | with_reducible exact HD4⟩
    case rest =>
     obtain ⟨rfl,HX⟩:=hcut;go_wp2;go_roundg g
     case rel=>exact ⟨i+1,by go_num,by omega,H_ (HF.out.trans0 HX.out)⟩
     case measure=>omega
theorem znf (w:World) (r m:Int) (n1 n2 c1 c2:Nat) (a1 a2:Option Addr) :
 Calls Tryz.prog 22 #[stateV r m (.slice a1 n1 c1) (.slice a2 n2 c2)] w fun e w'=>e = .returned (stateV r m (.slice a1 n1 c1) (.slice a2 n2 c2))/\Fr No w w':=by
 unfold stateV;go_enter Tryz.func22,Tryz.ntmps22;go_wp2;exact bodyPost_ret (results_cell_row rfl _ _ (w.heap.size+1) 30 _ (0,0) _ rfl (zad _ _ _ (by simp)) Tryz.underlying30 rfl (by kernel_rfl)) rfl ⟨rfl,((Fr.refl No w).alloc _).alloc _⟩
theorem znd (w:World) (r m:Int) (u1 u2 v1 v2:Value) (L:List Kv) (M:List Ev) (h1:SlR w 6 kvC u1 L) (h2:SlR w 6 kvC u2 L) (h3:SlR w 13 evC v1 M) (h4:SlR w 13 evC v2 M) (hl:L.length<=1099511627) (hm:M.length<=1099511627) :
 Calls Tryz.prog 21 #[stateV r m u1 v1,stateV r m u2 v2] w fun e w'=>e = .returned (.bool true)/\Fr No w w':=by
 have c36:=fun W (h:Fr No w W)=>zja W u1 u2 L (h1.fr0 h) (h2.fr0 h) (by omega);have c72:=fun W (h:Fr No w W)=>zgo W v1 v2 M (h3.fr0 h) (h4.fr0 h) hm;obtain ⟨a1,k1,rfl,_,_,_⟩:=h1.shape;obtain ⟨a2,k2,rfl,_,_,_⟩:=h2.shape;obtain ⟨a3,k3,rfl,_,_,_⟩:=h3.shape;obtain ⟨a4,k4,rfl,_,_,_⟩:=h4.shape;have H36:=H_ c36;have H72:=H_ c72;clear h1 h2 h3 h4 c36 c72;unfold stateV;go_enter Tryz.func21,Tryz.ntmps21
 go_wp2_with (first
  | (go_at_call 54;refine (H36.out _ (((Fr.refl No w).alloc _).alloc _)).mono ?_;rintro e w1 ⟨rfl,hf1⟩
     have hb1:=hf1.heap (zaj (zad w (Obj.cells #[.int .i64 r,.int .i64 m,.slice a1 L.length k1,.slice a3 M.length k3] 30) _ rfl) (Obj.cells #[.int .i64 r,.int .i64 m,.slice a2 L.length k2,.slice a4 M.length k4] 30)) id;have hb2:=hf1.heap (zad (w.alloc (Obj.cells #[.int .i64 r,.int .i64 m,.slice a1 L.length k1,.slice a3 M.length k3] 30)) (Obj.cells #[.int .i64 r,.int .i64 m,.slice a2 L.length k2,.slice a4 M.length k4] 30) (w.heap.size+1) (by simp)) id;have x3:w1.cell? ⟨w.heap.size,3,none⟩=some (.slice a3 M.length k3):=cellAt hb1 3 rfl;have y3:=cellAt hb2 3 rfl;have lx:=zac hb1;have ly:=zac hb2)
  | (go_at_call 36;refine (H72.out _ ((((Fr.refl No w).alloc _).alloc _).trans0 hf1)).mono ?_;rintro e w2 ⟨rfl,hf2⟩))
 go_ret;exact ⟨rfl,(((Fr.refl No w).alloc _).alloc _).trans0 (hf1.trans0 hf2)⟩
theorem zqd (w:World) (r m:Int) (u1 u2 v1 v2:Value) (L:List Kv) (M:List Ev) (h1:SlF w 99 6 kvC u1 L) (h2:SlF w 99 6 kvC u2 L) (h3:SlF w 101 13 evC v1 M) (h4:SlF w 101 13 evC v2 M) (hl:L.length<=1099511627) (hm:M.length<=1099511627) :
 Calls Tryz.prog 21 #[stateV r m u1 v1,stateV r m u2 v2] w fun e w'=>e = .returned (.bool true)/\Fr No w w':=znd w r m u1 u2 v1 v2 L M (h1.toR zai) (h2.toR zai) (h3.toR zab) (h4.toR zab) hl hm
open Go Go.Proofs Go.ChangeShapes Go.WideShapes Go.ChangeAt Go.RowKit Go.Deep
theorem znj {α:Type} (P:Nat->α->Prop):∀ n:Nat,(∀ i,i < n->∃ x,P i x)->∃ L:List α,L.length=n/\∀ (i:Nat) (x:α),L[i]? = some x->P i x
 | 0,_=>⟨[],rfl,fun i x h=>by simp at h⟩
 | n+1,h=>by
   obtain ⟨L,h1,h2⟩:=znj P n fun i hi=>h i (by omega);obtain ⟨x,hx⟩:=h n (by omega);refine ⟨L++[x],by simp [h1],fun i y hy=>?_⟩;by_cases hi:i < L.length
   · rw [List.getElem?_append_left hi] at hy
     exact h2 i y hy
   rw [List.getElem?_append_right (by omega)] at hy
   have h0:i - L.length=0:=by
    have:=(List.getElem?_eq_some_iff.1 hy).1;simp at this;omega
   rw [h0] at hy;simp at hy;subst hy;rw [show i=n by omega];exact hx
section
variable {H:Type} {enc:TypeId × Value->H} {w:World} {base:Nat} {spare:Nat->Bool} {held:Bool}
theorem zlu {α:Type} {t e:TypeId} {sz:Nat} (f:α->List Value) (hu:Tryz.prog.underlying t=some (.slice e)) (hC:Tryz.prog.cellsOf e=sz) (hsz:0 < sz) (hf:∀ x,(f x).length=sz)
 (hel:∀ n cs x,DataW.trod enc Tryz.prog w base spare held n e cs=some x->cs.length=sz->∃ y,cs=f y) {fuel:Nat} {cs:List Value} {x:DataW H × List MemPlace}
 (h:DataW.trod enc Tryz.prog w base spare held fuel t cs=some x):∃ v L,cs = [v]/\SlR w sz f v L/\∀ b,v.ownBlock=some b->base<=b:=by
 rcases open_slice hu h with ⟨rfl,_⟩ | ⟨a,len,cap,m,n,D,Pl,rfl,hb,hl,hm,hmm,hx,hi⟩
 · exact ⟨_,[],rfl,SlR.nil _ _ _,by simp [Value.ownBlock]⟩
 have hlm:len<=m:=by rw [hmm];split <;> omega
 obtain ⟨L,hL1,hL2⟩:=znj (fun i y=>∀ j,j < sz->w.cell? ((a.add (i * sz)).add j)=(f y)[j]?) len fun i him=>by
  obtain ⟨cs',hc,ht⟩:=hi i (by omega);rw [hC] at hc;obtain ⟨_,hcl,hat⟩:=World.cells?_some hc;obtain ⟨y,rfl⟩:=hel _ _ _ ht hcl;exact ⟨y,hat⟩
 refine ⟨_,L,rfl,⟨some a,cap,by rw [hL1],by omega,hm,fun hp=>?_⟩,fun b hb'=>?_⟩
 · obtain ⟨g,o,sp⟩:=a
   have h0:sp=none:=by
    have hx0:∃ x0,L[0]? = some x0:=⟨_,List.getElem?_eq_getElem hp⟩;obtain ⟨x0,hx0⟩:=hx0;have:=hL2 0 x0 hx0 0 hsz;have hlt:0 < (f x0).length:=(by rw [hf];exact hsz);rw [Nat.zero_mul] at this;simp only [Addr.add,if_true] at this;rw [List.getElem?_eq_getElem hlt] at this;unfold World.cell? at this
    cases sp with
    | none=>rfl
    | some q =>
      simp only [Option.isSome_some,if_true] at this
      split at this <;> simp at this
   subst h0;refine ⟨g,o,rfl,fun i y hy j u hu'=>?_⟩
   have hj:j < sz:=by
    have:=(List.getElem?_eq_some_iff.1 hu').1
    rwa [hf] at this
   have:=hL2 i y hy j hj;rw [hu'] at this;rw [<-this]
   congr 1
   unfold Addr.add;by_cases h1:i * sz=0
   · by_cases h2:j=0
     · simp [h1,h2]
     simp [h1,h2]
   by_cases h2:j=0
   · simp [h1,h2]
   simp [h1,h2]
 simp [Value.ownBlock] at hb'
 omega
theorem Tryz.cells9:Tryz.prog.cellsOf 9=1:=by kernel_rfl
theorem Tryz.cells3:Tryz.prog.cellsOf 3=1:=by kernel_rfl
theorem Tryz.cells4:Tryz.prog.cellsOf 4=1:=by kernel_rfl
theorem Tryz.cells35:Tryz.prog.cellsOf 35=7:=by kernel_rfl
theorem Tryz.cells94:Tryz.prog.cellsOf 94=10:=by kernel_rfl
theorem Tryz.cells33:Tryz.prog.cellsOf 33=1:=by kernel_rfl
theorem zsl (n:Nat) (cs:List Value) (x:DataW H × List MemPlace) (h:DataW.trod enc Tryz.prog w base spare held n 35 cs=some x) (hl:cs.length=7):∃ y,cs=rgC y:=by
 obtain ⟨ys,n',_,_,_,hyl,hf⟩:=DataW.trod_struct Tryz.underlying35 h
 match cs,hl with
 | [c0,c1,c2,c3,c4,c5,c6],_ =>
   match ys,hyl with
   | [y0,y1,y2,y3,y4,y5,y6],_ =>
     have g0:DataW.trod enc Tryz.prog w base spare held n' 9 [c0] = some y0:=(by have:=hf 0 _ rfl;simpa [Tryz.cells9] using this);have g1:DataW.trod enc Tryz.prog w base spare held n' 9 [c1] = some y1:=(by have:=hf 1 _ rfl;simpa [Tryz.cells9] using this);have g2:DataW.trod enc Tryz.prog w base spare held n' 3 [c2] = some y2:=(by have:=hf 2 _ rfl;simpa [Tryz.cells3] using this);have g3:DataW.trod enc Tryz.prog w base spare held n' 3 [c3] = some y3:=(by have:=hf 3 _ rfl;simpa [Tryz.cells3] using this);have g4:DataW.trod enc Tryz.prog w base spare held n' 4 [c4] = some y4:=(by have:=hf 4 _ rfl;simpa [Tryz.cells4] using this);have g5:DataW.trod enc Tryz.prog w base spare held n' 4 [c5] = some y5:=(by have:=hf 5 _ rfl;simpa [Tryz.cells4] using this)
     have g6:DataW.trod enc Tryz.prog w base spare held n' 4 [c6] = some y6:=(by have:=hf 6 _ rfl;simpa [Tryz.cells4] using this);obtain ⟨s0,e0,_⟩:=DataW.trod_string Tryz.underlying9 g0;obtain ⟨s1,e1,_⟩:=DataW.trod_string Tryz.underlying9 g1;obtain ⟨s2,e2,_⟩:=DataW.trod_int Tryz.underlying3 g2;obtain ⟨s3,e3,_⟩:=DataW.trod_int Tryz.underlying3 g3;obtain ⟨s4,e4,_⟩:=DataW.trod_bool Tryz.underlying4 g4;obtain ⟨s5,e5,_⟩:=DataW.trod_bool Tryz.underlying4 g5;obtain ⟨s6,e6,_⟩:=DataW.trod_bool Tryz.underlying4 g6;simp only [List.cons.injEq,and_true] at e0 e1 e2 e3 e4 e5 e6;subst e0 e1 e2 e3 e4 e5 e6;exact ⟨⟨s0,s1,s2,s3,s4,s5,s6⟩,rfl⟩
theorem zvw (n:Nat) (cs:List Value) (x:DataW H × List MemPlace) (h:DataW.trod enc Tryz.prog w base spare held n 94 cs=some x) (hl:cs.length=10):∃ y,cs=opC y:=by
 obtain ⟨ys,n',_,_,_,hyl,hf⟩:=DataW.trod_struct Tryz.underlying94 h
 match cs,hl with
 | [c0,c1,c2,c3,c4,c5,c6,c7,c8,c9],_ =>
   match ys,hyl with
   | [y0,y1,y2,y3],_ =>
     have g0:DataW.trod enc Tryz.prog w base spare held n' 3 [c0] = some y0:=(by have:=hf 0 _ rfl;simpa [Tryz.cells3] using this);have g1:DataW.trod enc Tryz.prog w base spare held n' 35 [c1,c2,c3,c4,c5,c6,c7] = some y1:=(by have:=hf 1 _ rfl;simpa [Tryz.cells35] using this);have g2:DataW.trod enc Tryz.prog w base spare held n' 9 [c8] = some y2:=(by have:=hf 2 _ rfl;simpa [Tryz.cells9] using this);have g3:DataW.trod enc Tryz.prog w base spare held n' 3 [c9] = some y3:=(by have:=hf 3 _ rfl;simpa [Tryz.cells3] using this);obtain ⟨s0,e0,_⟩:=DataW.trod_int Tryz.underlying3 g0;obtain ⟨r,e1⟩:=zsl _ _ _ g1 rfl;obtain ⟨s2,e2,_⟩:=DataW.trod_string Tryz.underlying9 g2;obtain ⟨s3,e3,_⟩:=DataW.trod_int Tryz.underlying3 g3;unfold rgC at e1;simp only [List.cons.injEq,and_true] at e0 e1 e2 e3;obtain ⟨rfl,rfl,rfl,rfl,rfl,rfl,rfl⟩:=e1
     subst e0 e2 e3;exact ⟨⟨s0,r,s2,s3⟩,rfl⟩
end
section
variable {H:Type} {enc:TypeId × Value->H} {w:World} {base:Nat} {spare:Nat->Bool} {held:Bool}
theorem Tryz.cells36:Tryz.prog.cellsOf 36=1:=by kernel_rfl
theorem Tryz.cells38:Tryz.prog.cellsOf 38=12:=by kernel_rfl
theorem zuj (n:Nat) (cs:List Value) (x:DataW H × List MemPlace) (h:DataW.trod enc Tryz.prog w base spare held n 9 cs=some x) (_:cs.length=1):∃ y,cs=strC y:=by
 obtain ⟨s,e,_⟩:=DataW.trod_string Tryz.underlying9 h;exact ⟨s,e⟩
theorem zuk (n:Nat) (cs:List Value) (x:DataW H × List MemPlace) (h:DataW.trod enc Tryz.prog w base spare held n 38 cs=some x) (hl:cs.length=12) :
 ∃ q:Cal × List Opr × List ByteArray,cs=calC q/\SlR w 10 opC q.1.ops q.2.1/\SlR w 1 strC q.1.keys q.2.2:=by
 obtain ⟨ys,n',_,_,_,hyl,hg⟩:=DataW.trod_struct Tryz.underlying38 h
 match cs,hl with
 | [c0,c1,c2,c3,c4,c5,c6,c7,c8,c9,c10,c11],_ =>
   match ys,hyl with
   | [y0,y1,y2,y3,y4,y5],_ =>
     have g0:DataW.trod enc Tryz.prog w base spare held n' 3 [c0] = some y0:=(by have:=hg 0 _ rfl;simpa [Tryz.cells3,Value.cells] using this);have g1:DataW.trod enc Tryz.prog w base spare held n' 33 [c1] = some y1:=(by have:=hg 1 _ rfl;simpa [Tryz.cells33,Value.cells] using this);have g2:DataW.trod enc Tryz.prog w base spare held n' 35 [c2,c3,c4,c5,c6,c7,c8] = some y2:=(by have:=hg 2 _ rfl;simpa [Tryz.cells35,Value.cells] using this);have g3:DataW.trod enc Tryz.prog w base spare held n' 3 [c9] = some y3:=(by have:=hg 3 _ rfl;simpa [Tryz.cells3,Value.cells] using this);have g4:DataW.trod enc Tryz.prog w base spare held n' 3 [c10] = some y4:=(by have:=hg 4 _ rfl;simpa [Tryz.cells3,Value.cells] using this)
     have g5:DataW.trod enc Tryz.prog w base spare held n' 36 [c11] = some y5:=(by have:=hg 5 _ rfl;simpa [Tryz.cells36,Value.cells] using this);obtain ⟨s0,e0,_⟩:=DataW.trod_int Tryz.underlying3 g0;obtain ⟨u1,L1,e1,h1,_⟩:=zlu opC Tryz.underlying33 Tryz.cells94 (by omega) zaf (fun n cs x=>zvw n cs x) g1;obtain ⟨r,e2⟩:=zsl _ _ _ g2 rfl;obtain ⟨s3,e3,_⟩:=DataW.trod_int Tryz.underlying3 g3;obtain ⟨s4,e4,_⟩:=DataW.trod_int Tryz.underlying3 g4;obtain ⟨u5,L5,e5,h5,_⟩:=zlu strC Tryz.underlying36 Tryz.cells9 (by omega) zbs (fun n cs x=>zuj n cs x) g5;unfold rgC at e2;simp only [List.cons.injEq,and_true] at e0 e1 e2 e3 e4 e5;obtain ⟨rfl,rfl,rfl,rfl,rfl,rfl,rfl⟩:=e2;subst e0 e1 e3 e4 e5;exact ⟨(⟨s0,_,r,s3,s4,_⟩,L1,L5),rfl,h1,h5⟩
theorem zjl {b0:Nat} {v:Value} {d:DataW H} {p:List MemPlace} (hv:Value.okWide Tryz.prog w .any b0 22 v) (h:DataW.Trod enc Tryz.prog w base spare held 22 v d p):∃ l,CalR w v l:=by
 obtain ⟨a,len,cap,rfl⟩:=okWide_slice Tryz.underlying22 hv;obtain ⟨fuel,hf⟩:=h;simp only [Value.cells] at hf;rcases open_slice Tryz.underlying22 hf with ⟨he,_⟩ | ⟨a,len',cap',m,n,D,Pl,he,hb,hl,hm,hmm,hx,hi⟩
 · simp only [List.cons.injEq,and_true] at he
   rw [he];exact ⟨[],⟨SlR.nil _ _ _,by simp,by simp⟩⟩
 simp only [List.cons.injEq,and_true] at he
 rw [he];have hlm:len'<=m:=(by rw [hmm];split <;> omega)
 obtain ⟨L,hL1,hL2⟩:=znj (fun i (y:Cal × List Opr × List ByteArray)=>(∀ j,j < 12->w.cell? ((a.add (i * 12)).add j)=(calC y)[j]?)/\SlR w 10 opC y.1.ops y.2.1/\SlR w 1 strC y.1.keys y.2.2) len' fun i him=>by
  obtain ⟨cs',hc,ht⟩:=hi i (by omega);rw [Tryz.cells38] at hc;obtain ⟨_,hcl,hat⟩:=World.cells?_some hc;obtain ⟨y,rfl,h1,h2⟩:=zuk _ _ _ ht hcl;exact ⟨y,hat,h1,h2⟩
 refine ⟨L,⟨⟨some a,cap',by rw [hL1],by omega,hm,fun hp=>?_⟩,fun i q hq=>(hL2 i q hq).2.1,fun i q hq=>(hL2 i q hq).2.2⟩⟩;obtain ⟨g,o,sp⟩:=a
 have h0:sp=none:=by
  obtain ⟨x0,hx0⟩:∃ x0,L[0]? = some x0:=⟨_,List.getElem?_eq_getElem hp⟩;have:=(hL2 0 x0 hx0).1 0 (by decide);have hlt:0 < (calC x0).length:=(by rw [zam];decide);rw [Nat.zero_mul] at this;simp only [Addr.add,if_true] at this;rw [List.getElem?_eq_getElem hlt] at this;unfold World.cell? at this
  cases sp with
  | none=>rfl
  | some q =>
    simp only [Option.isSome_some,if_true] at this
    split at this <;> simp at this
 subst h0;refine ⟨g,o,rfl,fun i y hy j u hu'=>?_⟩
 have hj:j < 12:=by
  have:=(List.getElem?_eq_some_iff.1 hu').1
  rwa [zam] at this
 have:=(hL2 i y hy).1 j hj;rw [hu'] at this;rw [<-this]
 congr 1
 unfold Addr.add;by_cases h1:i * 12=0
 · by_cases h2:j=0
   · simp [h1,h2]
   simp [h1,h2]
 by_cases h2:j=0
 · simp [h1,h2]
 simp [h1,h2]
end
end Go.Proofs.YthljnnjpmdgkoaaGreat