/- Own lemmas and contracts that the claim's proof needs, laid together. The conditions stand in each. -/
import Derived.Test.YthljnnjpmdgkoaaGreatB19
import Derived.Test.YthljnnjpmdgkoaaGreatB13
import Derived.Test.YthljnnjpmdgkoaaGreatB06
import Derived.Test.YthljnnjpmdgkoaaGreatB23
import Derived.Test.YthljnnjpmdgkoaaGreatB24
import Derived.Test.YthljnnjpmdgkoaaGreatB22
import Derived.Test.YthljnnjpmdgkoaaGreatB25
namespace Go.Proofs.YthljnnjpmdgkoaaGreat
open Go Go.Proofs Go.RowKit
set_option maxRecDepth 100000
def outB (lo up:Int) (x:Ev):Bool:=decide (x.kv.mod < lo) || decide (up < x.kv.mod)
def insB (lo up:Int) (x:Ev):Bool:=!outB lo up x
theorem zls (w:World) (x:Ev) (ra rb:Nat) (lo up:Int) (ha:w.cell? ⟨ra,0,none⟩=some (.int .i64 lo)) (hb:w.cell? ⟨rb,0,none⟩=some (.int .i64 up)) :
 Calls Tryz.prog 100 #[evV x,.pointer (some ⟨ra,0,none⟩),.pointer (some ⟨rb,0,none⟩)] w fun e w'=>e = .returned (.bool (decide (x.kv.mod < lo) || decide (up < x.kv.mod)))/\Fr No w w':=by
 obtain ⟨x0,⟨x1,x2,x3,x4,x5,x6⟩,⟨x7,x8,x9,x10,x11,x12⟩⟩:=x;unfold evV;dsimp only;have hlt:=World.block_lt_of_cell? _ _ hb;have hlt2:=World.block_lt_of_cell? _ _ ha;by_cases h1:x4 < lo
 · go_enter Tryz.func100,Tryz.ntmps100
   go_wp2;go_ret;exact ⟨by simp [],(Fr.refl No w).alloc _⟩
 go_enter Tryz.func100,Tryz.ntmps100
 go_wp2;go_ret;exact ⟨by simp;intro h;omega,(Fr.refl No w).alloc _⟩
theorem zkl {lo up:Int} {L:List Ev} {k:Nat} (h:L.findIdx (outB lo up)=k) (hk:k < L.length):(L.take (k+1)).filter (insB lo up)=L.take k:=by
 have hx:∃ x,L[k]? = some x:=⟨_,List.getElem?_eq_getElem hk⟩;obtain ⟨x,hx⟩:=hx
 have hp:outB lo up x=true:=by
  have:=(List.findIdx_eq hk).1 h;rw [(List.getElem?_eq_some_iff.1 hx).2] at this;exact this.1
 rw [List.take_add_one,hx,List.filter_append]
 have h1:(L.take k).filter (insB lo up)=L.take k:=by
  rw [List.filter_eq_self];intro y hy;obtain ⟨j,hj⟩:=List.mem_iff_getElem?.1 hy;have hjl:=(List.getElem?_eq_some_iff.1 hj).1;rw [List.length_take] at hjl;rw [List.getElem?_take_of_lt (by omega)] at hj;have:=((List.findIdx_eq hk).1 h).2 j (by omega);rw [(List.getElem?_eq_some_iff.1 hj).2] at this;unfold insB;rw [this];rfl
 rw [h1];simp [insB,hp]
theorem znw {lo up:Int} {L:List Ev} (h:L.findIdx (outB lo up)=L.length):L.filter (insB lo up)=L:=by
 rw [List.filter_eq_self];intro y hy;rw [List.findIdx_eq_length] at h;unfold insB;rw [h y hy];rfl
set_option maxHeartbeats 2000000 in
theorem zjc (w:World) (v:Value) (l:List Ev) (ra rb:Nat) (lo up:Int) (hba:w.cell? ⟨ra,0,none⟩=some (.int .i64 lo)) (hb:w.cell? ⟨rb,0,none⟩=some (.int .i64 up)) (hv:SlF w 101 13 evC v l) (hl:l.length<=1099511627) :
 Calls Tryz.prog 144 #[v,.func (.func 100) #[] #[.pointer (some ⟨ra,0,none⟩),.pointer (some ⟨rb,0,none⟩)]] w fun e w'=>e = .returned (.int .i64 (idxEv (outB lo up) l))/\Fr No w w':=by
 obtain ⟨a,cap,rfl,hc1,hc2,ha⟩:=hv.shape;have HV:=H_ hv;clear hv;have HA:=H_ ha;clear ha;have HB:=H_ hb;clear hb;have HBA:=H_ hba;clear hba;go_enter Tryz.func144,Tryz.ntmps144;go_wp2
 go_loopg [8] l.length (fun g s8 wr=>∃ i:Nat,s8 = .int .i64 i/\i+g=l.length/\Hid (∀ j,j < i->∀ p,l[j]? = some p->outB lo up p=false)/\Hid (Fr No w wr))
 case atStart=>exact ⟨0,rfl,by simp,H_ (by simp),H_ (Fr.refl No w)⟩
 case round =>
  obtain ⟨i,rfl,hi,HJ,HF⟩:=hrel
  cases gk with
  | zero =>
    have hil:¬ (i:Int) < (l.length:Int):=(by omega);go_wp2;go_ret;refine ⟨?_,HF.out⟩
    have hu:l.findIdx (outB lo up)=l.length:=by
     rw [List.findIdx_eq_length];intro x hx;obtain ⟨j,hj,rfl⟩:=List.getElem_of_mem hx;exact HJ.out j (by omega) _ (List.getElem?_eq_getElem hj)
    unfold idxEv;rw [if_pos hu]
    rfl
  | succ g =>
    obtain ⟨gb,go,rfl⟩:=HA.out (by omega);obtain ⟨p,hx⟩:∃ p,l[i]? = some p:=⟨_,List.getElem?_eq_getElem (by omega)⟩;have hvr:=HV.out.fr0 HF.out;have x0:=hvr.cell0 zab i hx rfl;have x1:=hvr.cell zab i 1 hx rfl;have x2:=hvr.cell zab i 2 hx rfl;have x3:=hvr.cell zab i 3 hx rfl;have x4:=hvr.cell zab i 4 hx rfl;have x5:=hvr.cell zab i 5 hx rfl;have x6:=hvr.cell zab i 6 hx rfl;have x7:=hvr.cell zab i 7 hx rfl;have x8:=hvr.cell zab i 8 hx rfl;have x9:=hvr.cell zab i 9 hx rfl;have x10:=hvr.cell zab i 10 hx rfl;have x11:=hvr.cell zab i 11 hx rfl;have x12:=hvr.cell zab i 12 hx rfl;have hil:(i:Int) < (l.length:Int):=(by omega);have hcl:=zls wr p ra rb lo up (HF.out.cell0 HBA.out) (HF.out.cell0 HB.out);have hob:(decide (p.kv.mod < lo) || decide (up < p.kv.mod))=outB lo up p:=rfl;rw [hob] at hcl;unfold evV at hcl
    have Hx:=H_ hx;clear hx hvr hob;generalize hp:outB lo up p=q at *;have Hp:=H_ hp;clear hp;cases q
    · go_wp2_with (go_at_call 100;refine hcl.mono ?_;rintro e w1 ⟨rfl,hf⟩)
      go_roundg g
      case rel=>exact ⟨i+1,by go_num,by omega,H_ (fun j hj q hq=>by
       by_cases hji:j=i
       · subst hji;rw [Hx.out] at hq;cases hq;exact Hp.out
       exact HJ.out j (by omega) q hq),H_ (HF.out.trans0 hf)⟩
      case measure=>omega
    go_wp2_with (go_at_call 100;refine hcl.mono ?_;rintro e w1 ⟨rfl,hf⟩)
    go_ret;refine ⟨?_,HF.out.trans0 hf⟩
    have hu:l.findIdx (outB lo up)=i:=by
     have hil':i < l.length:=(by omega);rw [List.findIdx_eq hil'];have hgi:l[i] = p:=(List.getElem?_eq_some_iff.1 Hx.out).2;refine ⟨by rw [hgi];exact Hp.out,fun j hj=>?_⟩;exact HJ.out j hj _ (List.getElem?_eq_getElem (by omega))
    unfold idxEv;rw [hu,if_neg (by omega)]
    rfl
set_option maxHeartbeats 8000000 in
theorem zms (w:World) (v:Value) (L:List Ev) (ra rb:Nat) (lo up:Int) (hba:w.cell? ⟨ra,0,none⟩=some (.int .i64 lo)) (hb:w.cell? ⟨rb,0,none⟩=some (.int .i64 up)) (hv:SlF w 101 13 evC v L) (hna:v.ownBlock≠some ra) (hn:v.ownBlock≠some rb) (hl:L.length<=1099511627) :
 Calls Tryz.prog 98 #[v,.func (.func 100) #[] #[.pointer (some ⟨ra,0,none⟩),.pointer (some ⟨rb,0,none⟩)]] w fun e w'=>∃ v',e = .returned v'/\SlF w' 101 13 evC v' (L.filter (insB lo up))/\Fr (fun b=>v.ownBlock=some b) w w'/\(∀ b,v'.ownBlock=some b->v.ownBlock=some b):=by
 have hix:=fun W (h:Fr No w W)=>zjc W v L ra rb lo up (h.cell0 hba) (h.cell0 hb) (hv.fr0 h) hl;obtain ⟨a,cap,rfl,hc1,hc2,ha⟩:=hv.shape;have HIX:=H_ hix;clear hix;by_cases h0:L.findIdx (outB lo up)=L.length
 · have hidx:idxEv (outB lo up) L = -1:=by unfold idxEv;rw [if_pos h0]
   rw [hidx] at HIX;have hfa:=znw h0;rw [hfa];have HV:=H_ hv;clear hv hidx h0 hfa;go_enter Tryz.func98,Tryz.ntmps98;go_wp2_with (go_at_call 144;refine (HIX.out _ (Fr.refl No w)).mono ?_;rintro e w1 ⟨rfl,hf1⟩);go_ret;exact ⟨_,rfl,HV.out.fr0 hf1,hf1.mono fun _ _ h=>h.elim,fun b h=>h⟩
 have hk:L.findIdx (outB lo up) < L.length:=Nat.lt_of_le_of_ne List.findIdx_le_length h0
 have hidx:idxEv (outB lo up) L=(L.findIdx (outB lo up):Int):=(by unfold idxEv;rw [if_neg h0]);rw [hidx] at HIX;have hff:=zkl rfl hk;generalize hkk:L.findIdx (outB lo up)=k0 at *;obtain ⟨gb,go,rfl⟩:=ha (by omega);have hnr:gb≠rb:=fun e=>hn (by rw [<-e];rfl);have hnra:gb≠ra:=fun e=>hna (by rw [<-e];rfl);have HV:=H_ hv;have HB:=H_ hb;have HBA:=H_ hba;have HFF:=H_ hff;clear hv hidx h0 hff hkk ha hb hba hn hna;have hk0:((k0:Int) == -1)=false:=(by rw [beq_eq_false_iff_ne];omega);go_enter Tryz.func98,Tryz.ntmps98;go_wp2_with (go_at_call 144;refine (HIX.out _ (Fr.refl No w)).mono ?_;rintro e w1 ⟨rfl,hf1⟩)
 go_loopg [5,6] L.length (fun g s5 s6 wr=>∃ (k i:Nat) (M:List Ev),s5 = .int .i64 k/\s6 = .int .i64 i/\k < i/\i<=L.length/\i+g=L.length+k0+1/\k0 < i/\M.length=L.length/\Hid (M.take k=(L.take i).filter (insB lo up))/\Hid (M.drop i=L.drop i) ∧
  Hid (SlF wr 101 13 evC (.slice (some ⟨gb,go,none⟩) L.length cap) M)/\Hid (Fr (fun b=>b=gb) w wr))
 case atStart=>exact ⟨k0,k0+1,L,rfl,by go_num,by omega,by omega,by omega,by omega,rfl,H_ HFF.out.symm,H_ rfl,H_ (HV.out.fr0 hf1),H_ (hf1.mono fun _ _ h=>h.elim)⟩
 case round =>
  obtain ⟨k,i,M,rfl,rfl,hki,hiL,hig,hk0i,hM,HT,HD,HS,HF⟩:=hrel;by_cases hil:i < L.length
  · cases gk with
    | zero=>omega
    | succ g =>
      have hil':(i:Int) < (L.length:Int):=(by omega);have hkl':(k:Int) < (L.length:Int):=(by omega);obtain ⟨x,hx⟩:∃ x,L[i]? = some x:=⟨_,List.getElem?_eq_getElem hil⟩
      have hMx:M[i]? = some x:=by
       have:=congrArg (fun l=>l[0]?) HD.out;simp only [List.getElem?_drop,Nat.add_zero] at this;rw [this];exact hx
      have hsl:SlF wr 101 13 evC (.slice (some ⟨gb,go,none⟩) M.length cap) M:=(by rw [hM];exact HS.out);obtain ⟨y,hy⟩:∃ y,M[k]? = some y:=⟨_,List.getElem?_eq_getElem (by omega)⟩;have lgb:gb < wr.heap.size:=hsl.lt gb rfl;have hrb:=HF.out.cell HB.out (fun e=>hnr e.symm);have hra:=HF.out.cell HBA.out (fun e=>hnra e.symm);have hoc:=fun W (h:Fr No wr W)=>zls W x ra rb lo up (h.cell0 hra) (h.cell0 hrb);have hfz:∀ j,wr.frozen? ⟨gb,j,none⟩=false:=fun j=>hsl.free j;have hob:(decide (x.kv.mod < lo) || decide (up < x.kv.mod))=outB lo up x:=rfl;rw [hob] at hoc
      have hlk:∀ (W:World),Fr No wr W->SlF (layEv W gb (go+k * 13) x) 101 13 evC (.slice (some ⟨gb,go,none⟩) L.length cap) (M.set k x):=fun (W:World) (h:Fr No wr W)=>by
       have:=zpj (hsl.fr0 h) k hy x;rw [hM] at this;exact this
      have hlf:=fun (W:World) (h:Fr (fun b=>b=gb) w W)=>zpk h gb (go+k * 13) x rfl
      have htk:(L.take (i+1)).filter (insB lo up)=(L.take i).filter (insB lo up)++(if outB lo up x then [] else [x]):=by
       rw [List.take_add_one,hx,List.filter_append]
       congr 1
       cases hq:outB lo up x <;> simp [insB,hq]
      have hdk:M.drop (i+1)=L.drop (i+1):=by
       have:=congrArg (List.drop 1) HD.out
       rwa [List.drop_drop,List.drop_drop] at this
      generalize hq:outB lo up x=q at *;have z0:=hsl.cell0 zab i hMx rfl;have u0:=hsl.cell0 zab k hy rfl;have z1:=hsl.cell zab i 1 hMx rfl;have u1:=hsl.cell zab k 1 hy rfl;have z2:=hsl.cell zab i 2 hMx rfl;have u2:=hsl.cell zab k 2 hy rfl;have z3:=hsl.cell zab i 3 hMx rfl;have u3:=hsl.cell zab k 3 hy rfl;have z4:=hsl.cell zab i 4 hMx rfl;have u4:=hsl.cell zab k 4 hy rfl;have z5:=hsl.cell zab i 5 hMx rfl;have u5:=hsl.cell zab k 5 hy rfl;have z6:=hsl.cell zab i 6 hMx rfl;have u6:=hsl.cell zab k 6 hy rfl;have z7:=hsl.cell zab i 7 hMx rfl;have u7:=hsl.cell zab k 7 hy rfl;have z8:=hsl.cell zab i 8 hMx rfl;have u8:=hsl.cell zab k 8 hy rfl;have z9:=hsl.cell zab i 9 hMx rfl;have u9:=hsl.cell zab k 9 hy rfl;have z10:=hsl.cell zab i 10 hMx rfl;have u10:=hsl.cell zab k 10 hy rfl;have z11:=hsl.cell zab i 11 hMx rfl
      have u11:=hsl.cell zab k 11 hy rfl;have z12:=hsl.cell zab i 12 hMx rfl;have u12:=hsl.cell zab k 12 hy rfl;have HLK:=H_ hlk;have HLF:=H_ hlf;have HOC:=H_ hoc;have HTK:=H_ htk;have HDK:=H_ hdk;have HSL:=H_ hsl;clear hlk hlf hoc htk hdk hsl hx hMx hq hob;obtain ⟨x0,⟨x1,x2,x3,x4,x5,x6⟩,⟨x7,x8,x9,x10,x11,x12⟩⟩:=x;unfold layEv at HLK HLF;unfold evV at HOC;dsimp only at *;cases q
      · go_wp2_with (go_at_call 100;refine (HOC.out _ ((Fr.refl No wr).alloc _)).mono ?_;rintro e w2 ⟨rfl,hf2⟩
                     have hkc:=hf2.heap (zad wr (Obj.cells #[.int .i64 x0,.string x1,.string x2,.int .i64 x3,.int .i64 x4,.int .i64 x5,.int .i64 x6,.string x7,.string x8,.int .i64 x9,.int .i64 x10,.int .i64 x11,.int .i64 x12] 101) _ rfl) id;have hf3:Fr No wr w2:=((Fr.refl No wr).alloc _).trans0 hf2;have c0:w2.cell? ⟨wr.heap.size,0,none⟩=some (.int .i64 x0):=cellAt hkc 0 rfl;have u0:=hf3.cell0 u0;have c1:w2.cell? ⟨wr.heap.size,1,none⟩=some (.string x1):=cellAt hkc 1 rfl;have u1:=hf3.cell0 u1;have c2:w2.cell? ⟨wr.heap.size,2,none⟩=some (.string x2):=cellAt hkc 2 rfl;have u2:=hf3.cell0 u2;have c3:w2.cell? ⟨wr.heap.size,3,none⟩=some (.int .i64 x3):=cellAt hkc 3 rfl;have u3:=hf3.cell0 u3;have c4:w2.cell? ⟨wr.heap.size,4,none⟩=some (.int .i64 x4):=cellAt hkc 4 rfl;have u4:=hf3.cell0 u4
                     have c5:w2.cell? ⟨wr.heap.size,5,none⟩=some (.int .i64 x5):=cellAt hkc 5 rfl;have u5:=hf3.cell0 u5;have c6:w2.cell? ⟨wr.heap.size,6,none⟩=some (.int .i64 x6):=cellAt hkc 6 rfl;have u6:=hf3.cell0 u6;have c7:w2.cell? ⟨wr.heap.size,7,none⟩=some (.string x7):=cellAt hkc 7 rfl;have u7:=hf3.cell0 u7;have c8:w2.cell? ⟨wr.heap.size,8,none⟩=some (.string x8):=cellAt hkc 8 rfl;have u8:=hf3.cell0 u8;have c9:w2.cell? ⟨wr.heap.size,9,none⟩=some (.int .i64 x9):=cellAt hkc 9 rfl;have u9:=hf3.cell0 u9;have c10:w2.cell? ⟨wr.heap.size,10,none⟩=some (.int .i64 x10):=cellAt hkc 10 rfl;have u10:=hf3.cell0 u10;have c11:w2.cell? ⟨wr.heap.size,11,none⟩=some (.int .i64 x11):=cellAt hkc 11 rfl;have u11:=hf3.cell0 u11;have c12:w2.cell? ⟨wr.heap.size,12,none⟩=some (.int .i64 x12):=cellAt hkc 12 rfl
                     have u12:=hf3.cell0 u12;have hfz2:∀ j,w2.frozen? ⟨gb,j,none⟩=false:=fun j=>(HSL.out.fr0 hf3).free j;have lgb2:gb < w2.heap.size:=Nat.lt_of_lt_of_le lgb hf3.size;have lkc:=zac hkc;clear hkc hf2)
        go_roundg g
        case rel=>exact ⟨k+1,i+1,_,by go_num,by go_num,by omega,by omega,by omega,by omega,by rw [List.length_set];exact hM,H_ (by rw [zox _ _ _ (by omega),HTK.out,HT.out];simp),H_ (by rw [zoy _ _ _ _ (by omega)];exact HDK.out),H_ (HLK.out w2 hf3),H_ (HLF.out w2 (HF.out.trans0 hf3))⟩
        case measure=>omega
      go_wp2_with (go_at_call 100;refine (HOC.out _ ((Fr.refl No wr).alloc _)).mono ?_;rintro e w2 ⟨rfl,hf2⟩)
      go_roundg g
      case rel=>exact ⟨k,i+1,M,rfl,by go_num,by omega,by omega,by omega,by omega,hM,H_ (by rw [HTK.out,HT.out];simp),HDK,H_ (HS.out.fr0 (((Fr.refl No wr).alloc _).trans0 hf2)),H_ (HF.out.trans0 (((Fr.refl No wr).alloc _).trans0 hf2))⟩
      case measure=>omega
  have hil':¬ (i:Int) < (L.length:Int):=by omega
  have hie:i=L.length:=(by omega);have HTL:Hid (M.take k=L.filter (insB lo up)):=H_ (by rw [HT.out,hie,List.take_length]);clear HT HD HIX HV HB HBA HFF;have hkl:(k:Int)<=(L.length:Int):=(by omega);have hkc:(k:Int)<=(cap:Int):=(by omega);have hkc2:k<=cap:=(by omega);have hkc3:¬ cap=k:=(by omega);have hsl:SlF wr 101 13 evC (.slice (some ⟨gb,go,none⟩) M.length cap) M:=(by rw [hM];exact HS.out)
  obtain ⟨cur,hcur,hfit⟩:∃ cur:Array Value,wr.heap[gb]? = some (.cells cur 101 (0,0))/\go+L.length * 13<=cur.size:=by
   rcases hsl.2 with ⟨h0,_⟩ | ⟨g',o',cap',cur,hv,hg,h2,h3,h4,h5⟩
   · cases h0
   simp only [Value.slice.injEq,Option.some.injEq,Addr.mk.injEq,and_true] at hv
   obtain ⟨⟨rfl,rfl⟩,_,rfl⟩:=hv;have:L.length * 13<=cap * 13:=Nat.mul_le_mul_right _ (by omega);exact ⟨cur,hg,by omega⟩
  have hkm:go+k * 13+(L.length - k) * 13<=cur.size:=(by omega);obtain ⟨w3,hrun,hg3,hgr⟩:=zep (P:=Tryz.prog) wr 28 101 0 _ Tryz.underlying28 zero73 (by decide) gb (go+k * 13) (L.length - k) (cap - k) cur 101 hcur (by exact hkm);have hfr3:Fr (fun b=>b=gb) wr w3:=(Fr.refl _ wr).grown hgr fun j hj=>.inl (by simpa using hj.symm);have hcl:=SlF.cleared zab hsl k (by omega) cur hcur (Builtin.zeroCells zv73.cells (L.length - k)).toList (by rw [zbn,hM];rfl) (by rw [hM];exact hg3);have HCL:=H_ hcl;clear hsl hcl hg3 hgr hcur hfit hkm;go_wp2;go_ret;exact ⟨_,rfl,by rw [<-HTL.out];exact HCL.out,(HF.out.trans hfr3 fun _ _ h=>h).mono fun b _ h=>by rw [h];rfl,fun b h=>h⟩
def zft (S:St) (a b:Int):Int:=if a < 1\/b < a then 1 else if S.rev < b then 33 else if a < S.mark then 32 else 0
set_option maxHeartbeats 4000000 in
theorem zmw {TA:zar} {N:Nat} (_hT:TreeOk TA N) (w:World) (s:Nat) (S:St) (F:Nat->Prop) (hS:zak TA w s S F) (hev:S.events.length<=1099511627) (hne:1<=S.rev->0 < S.events.length) (a b:Int) :
 Calls Tryz.prog 47 #[.pointer (some ⟨s,0,none⟩),.int .i64 a,.int .i64 b] w fun e w'=>∃ v,e = .returned (.tuple #[v,.int .i64 (zft S a b)])/\SlF w' 101 13 evC v (if zft S a b=0 then S.events.filter (insB a b) else [])/\Fr No w w'/\(∀ k,v.ownBlock=some k->w.heap.size<=k):=by
 obtain ⟨t,p,ev,hp,FT,FH,A,hF⟩:=hS;have c3:=A.obj.cell 3 rfl;have c4:=A.obj.cell 4 rfl;have c5:=A.obj.cell 5 rfl;have ls:=A.obj.lt;have hes:=A.events;obtain ⟨ea,ecap,rfl,he1,he2,he3⟩:=hes.shape;have HES:=H_ hes;clear A hF hes he3;unfold zft;by_cases h1:a < 1
 · rw [if_pos (.inl h1)]
   rw [if_neg (by decide)];go_enter Tryz.func47,Tryz.ntmps47;go_wp2
   go_ret2
   exact ⟨_,rfl,SlF.nil _ _ _ _,((Fr.refl No w).alloc _).alloc _,fun k hk=>by simp [Value.ownBlock] at hk⟩
 by_cases h2:b < a
 · rw [if_pos (.inr h2)]
   rw [if_neg (by decide)];go_enter Tryz.func47,Tryz.ntmps47;go_wp2
   go_ret2
   exact ⟨_,rfl,SlF.nil _ _ _ _,((Fr.refl No w).alloc _).alloc _,fun k hk=>by simp [Value.ownBlock] at hk⟩
 rw [if_neg (by omega)]
 have hf0:Fr No w ((w.alloc (Obj.cells #[.int .i64 a] 3)).alloc (Obj.cells #[.int .i64 b] 3)):=((Fr.refl No w).alloc _).alloc _;have hba:((w.alloc (Obj.cells #[.int .i64 a] 3)).alloc (Obj.cells #[.int .i64 b] 3)).heap[w.heap.size]? = some (.cells #[.int .i64 a] 3 (0,0)):=zaj (zad _ _ _ rfl) _;have hbb:((w.alloc (Obj.cells #[.int .i64 a] 3)).alloc (Obj.cells #[.int .i64 b] 3)).heap[w.heap.size+1]? = some (.cells #[.int .i64 b] 3 (0,0)):=zad _ _ _ (by simp);by_cases h3:S.rev < b
 · rw [if_pos h3]
   rw [if_neg (by decide)];go_enter Tryz.func47,Tryz.ntmps47;go_upto_region 5 with fail;have d3:=hf0.cell0 c3;have xa:((w.alloc (Obj.cells #[.int .i64 a] 3)).alloc (Obj.cells #[.int .i64 b] 3)).cell? ⟨w.heap.size,0,none⟩=some (.int .i64 a):=(by unfold World.cell?;dsimp only;rw [hba];rfl);have xb:((w.alloc (Obj.cells #[.int .i64 a] 3)).alloc (Obj.cells #[.int .i64 b] 3)).cell? ⟨w.heap.size+1,0,none⟩=some (.int .i64 b):=(by unfold World.cell?;dsimp only;rw [hbb];rfl);have lb:=zac hbb;have la:=zac hba;have ls0:s < ((w.alloc (Obj.cells #[.int .i64 a] 3)).alloc (Obj.cells #[.int .i64 b] 3)).heap.size:=Nat.lt_of_lt_of_le ls hf0.size;generalize (w.alloc (Obj.cells #[.int .i64 a] 3)).alloc (Obj.cells #[.int .i64 b] 3)=W0 at *
   go_quiet (fail)
   have hq:=Fr.drewN No W0 nq;generalize W0.drewN nq=W1 at *;go_wp2
   go_ret2
   exact ⟨_,rfl,SlF.nil _ _ _ _,hf0.trans0 hq,fun k hk=>by simp [Value.ownBlock] at hk⟩
 rw [if_neg h3]
 by_cases h4:a < S.mark
 · rw [if_pos h4]
   rw [if_neg (by decide)];go_enter Tryz.func47,Tryz.ntmps47;go_upto_region 5 with fail;have d3:=hf0.cell0 c3;have d4:=hf0.cell0 c4;have xa:((w.alloc (Obj.cells #[.int .i64 a] 3)).alloc (Obj.cells #[.int .i64 b] 3)).cell? ⟨w.heap.size,0,none⟩=some (.int .i64 a):=(by unfold World.cell?;dsimp only;rw [hba];rfl);have xb:((w.alloc (Obj.cells #[.int .i64 a] 3)).alloc (Obj.cells #[.int .i64 b] 3)).cell? ⟨w.heap.size+1,0,none⟩=some (.int .i64 b):=(by unfold World.cell?;dsimp only;rw [hbb];rfl);have lb:=zac hbb;have la:=zac hba;have ls0:s < ((w.alloc (Obj.cells #[.int .i64 a] 3)).alloc (Obj.cells #[.int .i64 b] 3)).heap.size:=Nat.lt_of_lt_of_le ls hf0.size;generalize (w.alloc (Obj.cells #[.int .i64 a] 3)).alloc (Obj.cells #[.int .i64 b] 3)=W0 at *
   go_quiet (fail)
   have hq:=Fr.drewN No W0 nq;have e4:=hq.cell0 d4;have xa1:=hq.cell0 xa;have ls1:s < (W0.drewN nq).heap.size:=ls0;have la1:w.heap.size < (W0.drewN nq).heap.size:=la;generalize W0.drewN nq=W1 at *;clear xa xb d3 d4;go_upto_region 7 with fail
   go_quiet (fail)
   have hq2:=Fr.drewN No W1 nq;generalize W1.drewN nq=W2 at *;go_wp2
   go_ret2
   exact ⟨_,rfl,SlF.nil _ _ _ _,(hf0.trans0 hq).trans0 hq2,fun k hk=>by simp [Value.ownBlock] at hk⟩
 rw [if_neg h4]
 rw [if_pos rfl];have hmf:∀ (fn:Fn) (first cap:Array Value) (w:World),(Instr.makeFunc fn first cap).run Tryz.prog w = .ok (.func fn first cap) w:=fun _ _ _ _=>rfl;go_enter Tryz.func47,Tryz.ntmps47;go_upto_region 5 with fail;have d3:=hf0.cell0 c3;have d4:=hf0.cell0 c4;have xa:((w.alloc (Obj.cells #[.int .i64 a] 3)).alloc (Obj.cells #[.int .i64 b] 3)).cell? ⟨w.heap.size,0,none⟩=some (.int .i64 a):=(by unfold World.cell?;dsimp only;rw [hba];rfl);have xb:((w.alloc (Obj.cells #[.int .i64 a] 3)).alloc (Obj.cells #[.int .i64 b] 3)).cell? ⟨w.heap.size+1,0,none⟩=some (.int .i64 b):=(by unfold World.cell?;dsimp only;rw [hbb];rfl);have lb:=zac hbb;have la:=zac hba;have ls0:s < ((w.alloc (Obj.cells #[.int .i64 a] 3)).alloc (Obj.cells #[.int .i64 b] 3)).heap.size:=Nat.lt_of_lt_of_le ls hf0.size
 generalize (w.alloc (Obj.cells #[.int .i64 a] 3)).alloc (Obj.cells #[.int .i64 b] 3)=W0 at *
 go_quiet (fail)
 have hq:=Fr.drewN No W0 nq;have e4:=hq.cell0 d4;have xa1:=hq.cell0 xa;have xb1:=hq.cell0 xb;have ls1:s < (W0.drewN nq).heap.size:=ls0;have la1:w.heap.size < (W0.drewN nq).heap.size:=la;have hf1:=hf0.trans0 hq;generalize W0.drewN nq=W1 at *;clear xa xb d3 d4;go_upto_region 7 with fail
 go_quiet (fail)
 have hq2:=Fr.drewN No W1 nq;have e5:=(hf1.trans0 hq2).cell0 c5;have xa2:=hq2.cell0 xa1;have xb2:=hq2.cell0 xb1;have ls2:s < (W1.drewN nq).heap.size:=ls1;have hf2:=hf1.trans0 hq2;have hsz:=hf2.size;have hsE:=HES.out.fr0 hf2;generalize W1.drewN nq=W2 at *;have HSE:=H_ hsE;have HF2:=H_ hf2;have hpos:0 < S.events.length:=hne (by omega);clear xa1 xb1 e4 hsE hf1 hf2 hq hq2 hba hbb hf0
 go_wp2_with (first
  | (go_at_call 99;refine (zgh W2 _ S.events HSE.out hpos hev).mono ?_;rintro e w4 ⟨cg,co,ccap,rfl,hcl,hf4,hcg⟩)
  | (go_at_call 98
     have hlt2:w.heap.size < W2.heap.size:=World.block_lt_of_cell? _ _ xa2;have hlt3:w.heap.size+1 < W2.heap.size:=World.block_lt_of_cell? _ _ xb2;refine (zms w4 _ S.events w.heap.size (w.heap.size+1) a b (hf4.cell0 xa2) (hf4.cell0 xb2) hcl (fun e=>by simp [Value.ownBlock] at e;omega) (fun e=>by simp [Value.ownBlock] at e;omega) hev).mono ?_;rintro e w5 ⟨dv,rfl,hdv,hf5,hdo⟩;obtain ⟨da,dcap,rfl,_,_,_⟩:=hdv.shape;have hf45:Fr No W2 w5:=hf4.trans hf5 fun b hb h=>by simp [Value.ownBlock] at h;omega))
 go_ret2
 exact ⟨_,rfl,hdv,HF2.out.trans0 hf45,fun k hk=>by have:=hdo k hk;simp [Value.ownBlock] at this;omega⟩
def zbg (S:St) (rev:Int):Int:=if S.rev < rev then 33 else if rev<=S.mark then 32 else 0
set_option maxHeartbeats 4000000 in
theorem zot {TA:zar} (w:World) (s:Nat) (S:St) (F:Nat->Prop) (hS:zak TA w s S F) (rev:Int) (hE:zbg S rev≠0) :
 Calls Tryz.prog 50 #[.pointer (some ⟨s,0,none⟩),.int .i64 rev] w fun e w'=>e = .returned (.int .i64 (zbg S rev))/\Fr No w w':=by
 obtain ⟨t,p,ev,hp,FT,FH,a,hF⟩:=hS;have c3:=a.obj.cell 3 rfl;have c4:=a.obj.cell 4 rfl;have ls:=a.obj.lt;clear a hF;unfold zbg at *;have hbx:=zad w (Obj.cells #[.int .i64 rev] 3) _ rfl;have hf0:Fr No w (w.alloc (Obj.cells #[.int .i64 rev] 3)):=(Fr.refl No w).alloc _;by_cases h1:S.rev < rev
 · rw [if_pos h1]
   clear hE;go_enter Tryz.func50,Tryz.ntmps50;go_upto_region 3 with fail;generalize w.alloc (Obj.cells #[.int .i64 rev] 3)=W0 at hbx hf0 ⊢
   have b0:W0.cell? ⟨w.heap.size,0,none⟩=some (.int .i64 rev):=cellAt hbx 0 rfl;have d3:=hf0.cell0 c3;have lb:=zac hbx;have ls0:s < W0.heap.size:=Nat.lt_of_lt_of_le ls hf0.size
   go_quiet (fail)
   have hq:=Fr.drewN No W0 nq;have hf1:Fr No w (W0.drewN nq):=hf0.trans0 hq;generalize W0.drewN nq=W1 at *;go_wp2;go_ret;exact ⟨rfl,hf1⟩
 rw [if_neg h1] at hE ⊢
 by_cases h2:rev<=S.mark
 · rw [if_pos h2]
   clear hE;go_enter Tryz.func50,Tryz.ntmps50;go_upto_region 3 with fail;generalize w.alloc (Obj.cells #[.int .i64 rev] 3)=W0 at hbx hf0 ⊢
   have b0:W0.cell? ⟨w.heap.size,0,none⟩=some (.int .i64 rev):=cellAt hbx 0 rfl;have d3:=hf0.cell0 c3;have d4:=hf0.cell0 c4;have lb:=zac hbx;have ls0:s < W0.heap.size:=Nat.lt_of_lt_of_le ls hf0.size
   go_quiet (fail)
   have hq:=Fr.drewN No W0 nq;have b1:=hq.cell0 b0;have e4:=hq.cell0 d4;have lb1:w.heap.size < (W0.drewN nq).heap.size:=lb;have ls1:s < (W0.drewN nq).heap.size:=ls0;have hf1:Fr No w (W0.drewN nq):=hf0.trans0 hq;generalize W0.drewN nq=W1 at *;clear b0 d3 d4 lb ls0 hq hf0 hbx;go_upto_region 5 with fail
   go_quiet (fail)
   have hq:=Fr.drewN No W1 nq;have hf2:Fr No w (W1.drewN nq):=hf1.trans0 hq;generalize W1.drewN nq=W2 at hf2 hq ⊢
   go_wp2;go_ret;exact ⟨rfl,hf2⟩
 exact absurd (if_neg h2) hE
def kindN (n:Int):Int:=(n.tmod 8+8).tmod 8
theorem znn (n:Int):0<=kindN n/\kindN n<=7:=by
 unfold kindN;have h1:=Int.tmod_lt_of_pos n (show (0:Int) < 8 by decide);have h2:=Int.lt_tmod_of_pos n (show (0:Int) < 8 by decide);have h3:=Int.tmod_nonneg (a:=n.tmod 8+8) 8 (by omega);have h4:=Int.tmod_lt_of_pos (n.tmod 8+8) (show (0:Int) < 8 by decide);omega
theorem zrj (w:World) (q:Cal × List Opr × List ByteArray):Calls Tryz.prog 52 #[.agg (calC q).toArray] w fun e w'=>e = .returned (.int .i64 (kindN q.1.kind))/\Fr No w w':=by
 obtain ⟨⟨p1,p2,⟨g1,g2,g3,g4,g5,g6,g7⟩,p3,p4,p5⟩,ops,keys⟩:=q;unfold calC rgC;dsimp only;unfold kindN;have h1:=Int.tmod_lt_of_pos p1 (show (0:Int) < 8 by decide);have h2:=Int.lt_tmod_of_pos p1 (show (0:Int) < 8 by decide);go_enter Tryz.func52,Tryz.ntmps52;go_wp2;go_ret;exact ⟨by rw [Int.tmod_eq_emod_of_nonneg (show 0<=p1.tmod 8+8 by omega)];rfl,(Fr.refl No w).alloc _⟩
abbrev CalQ:=Cal × List Opr × List ByteArray
def doE (S:St) (q:CalQ):Int :=
 if kindN q.1.kind=4 then rangeE S q.1.rg else if kindN q.1.kind=5 then zbg S q.1.rev else if kindN q.1.kind=6 then zft S q.1.rev q.1.upto else if kindN q.1.kind=7 then 0 else applyE S q.2.1
def doT (S:St) (q:CalQ):St :=
 if kindN q.1.kind=4 then S else if kindN q.1.kind=5 then (if zbg S q.1.rev=0 then compS q.1.rev S else S) else if kindN q.1.kind=6 then S else if kindN q.1.kind=7 then dropS S q.2.2
 else if applyE S q.2.1=0 then applyS S q.2.1 else S
def doD (S:St) (D:Doc) (q:CalQ):Doc :=
 if kindN q.1.kind=4 then D else if kindN q.1.kind=5 then (if zbg S q.1.rev=0 then D.cut q.1.rev else D) else if kindN q.1.kind=6 then D else if kindN q.1.kind=7 then dropD S D q.2.2
 else if applyE S q.2.1=0 then applyD S D q.2.1 else D
theorem zbl {S:St} {ops:List Opr} (h:applyE S ops=0):checkE ops=0/\whenAll S ops=0:=by
 unfold applyE at h
 split at h
 · rename_i hc;exact absurd h hc
 rename_i hc;exact ⟨by simpa using hc,h⟩
theorem zef {S:St} {rev:Int} (h:zbg S rev=0):rev<=S.rev/\S.mark < rev:=by
 unfold zbg at h
 split at h
 · cases h
 split at h
 · cases h
 omega
theorem zdl {q:CalQ} (h:fewCal q=true):(∀ o∈q.2.1,o.rg.key.size<=3000/\o.rg.end_.size<=3000/\o.value.size<=3000)/\q.2.1.length<=30/\q.2.2.length<=30/\q.1.rg.key.size<=3000/\q.1.rg.end_.size<=3000:=by
 unfold fewCal fewKey at h;simp only [Bool.and_eq_true,decide_eq_true_eq] at h;obtain ⟨⟨⟨⟨h1,h2⟩,h3⟩,h4⟩,h5⟩:=h;unfold fewOps at h1;simp only [Bool.and_eq_true,decide_eq_true_eq,List.all_eq_true] at h1;refine ⟨fun o ho=>?_,h1.1,h2,h3,h4⟩;have:=h1.2 o ho;unfold fewOp at this;simp only [Bool.and_eq_true,decide_eq_true_eq] at this;omega
theorem Good.does {k:Nat} {S:St} {D:Doc} (h:Good k S D) (hk:k<=70) {q:CalQ} (hq:fewCal q=true):Good (k+1) (doT S q) (doD S D q):=by
 obtain ⟨f1,f2,f3,f4,f5⟩:=zdl hq;unfold doT doD;by_cases h4:kindN q.1.kind=4
 · rw [if_pos h4,if_pos h4];exact h.mono (by omega)
 rw [if_neg h4,if_neg h4]
 by_cases h5:kindN q.1.kind=5
 · rw [if_pos h5,if_pos h5]
   by_cases hc:zbg S q.1.rev=0
   · rw [if_pos hc,if_pos hc]
     obtain ⟨c1,c2⟩:=zef hc;rw [h.rev] at c1;rw [h.cpl.mark] at c2;exact (h.cut (by omega) c2 c1).mono (by omega)
   rw [if_neg hc,if_neg hc];exact h.mono (by omega)
 rw [if_neg h5,if_neg h5]
 by_cases h6:kindN q.1.kind=6
 · rw [if_pos h6,if_pos h6];exact h.mono (by omega)
 rw [if_neg h6,if_neg h6]
 by_cases h7:kindN q.1.kind=7
 · rw [if_pos h7,if_pos h7]
   exact h.drop hk q.2.2 f3
 rw [if_neg h7,if_neg h7]
 by_cases ha:applyE S q.2.1=0
 · rw [if_pos ha,if_pos ha]
   exact h.apply hk (zbl ha).1 fun o ho=>by have:=(f1 o ho).1;omega
 rw [if_neg ha,if_neg ha];exact h.mono (by omega)
theorem Good.compG {k:Nat} {S:St} {D:Doc} (h:Good k S D) (hk:k<=50000) {R:Int} (h1:S.mark < R) (h2:R<=S.rev):CompGk S R:=by
 have hm0:=h.cpl.m0;have hr:=h.rev;rw [h.cpl.mark] at h1;rw [hr] at h2;refine ⟨by omega,by rw [h.cpl.mark];exact h1,h.events_pos (by omega),zsy h.cpl.inv h.srt,h.srt,fun p hp H hH=>?_⟩;have ho:=(h.ok.hist _ _ hH).1;have hm:=h.more _ _ hH;refine ⟨(ho.comp hm (by omega) R).fits (by omega),?_⟩;obtain ⟨l,a,b⟩:=hm.fin;exact ⟨l,by omega,b⟩
theorem zos {TA:zar} (hT:TreeOk TA 1000000) {k:Nat} {S:St} {D:Doc} (h:Good k S D) (hk:k<=70) (w:World) (s:Nat) (F:Nat->Prop) (hS:zak TA w s S F) (v:Value) (keys:List ByteArray) (hv:SlR w 1 strC v keys)
 (hvF:0 < keys.length->∀ b,v.ownBlock=some b->¬ F b) (hl:keys.length<=30) :
 Calls Tryz.prog 57 #[.pointer (some ⟨s,0,none⟩),v] w fun e w'=>∃ ev,e = .returned (.tuple #[ev,.int .i64 0])/\∃ F',zak TA w' s (dropS S keys) F' ∧
  SlF w' 101 13 evC ev (keys.foldl (dropR (S.rev+1)) (S,[])).2/\Fr F w w'/\(∀ b,F' b->F b\/w.heap.size<=b)/\(∀ b,ev.ownBlock=some b->w.heap.size<=b/\¬ F' b):=by
 have hr:=h.rev;have hr1:=h.rev1;have hm0:=h.cpl.m0;refine zrk hT (n:=20000 * k+30) (by omega) w s S F hS v keys hv hvF (by omega) (by unfold top;omega) (by unfold top;omega) fun i x hx=>?_;have hil:=(List.getElem?_eq_some_iff.1 hx).1;obtain ⟨a,b⟩:=h.drops hk keys hl i (by omega);rw [hr];refine ⟨a.ok.mono (by omega),?_,b x hx⟩;have h1:=a.ok.ev;rw [a.cpl.events,(Doc.adds_parts D _).2.2,List.length_append] at h1;omega
theorem zfb {TA:zar} (hT:TreeOk TA 1000000) {k:Nat} {S:St} {D:Doc} (h:Good k S D) (hk:k<=70) (w:World) (s:Nat) (F:Nat->Prop) (hS:zak TA w s S F) (v:Value) (ops:List Opr) (hv:SlR w 10 opC v ops)
 (hvF:0 < ops.length->∀ b,v.ownBlock=some b->¬ F b) (hl:ops.length<=30) (hks:∀ o∈ops,o.rg.key.size<=3000) :
 Calls Tryz.prog 37 #[.pointer (some ⟨s,0,none⟩),v] w fun e w'=>∃ av ev,e = .returned (.tuple #[av,ev,.int .i64 (applyE S ops)])/\∃ F' Z,zak TA w' s (if applyE S ops=0 then applyS S ops else S) F'/\AnsR w' av Z ∧
  Z.map (·.1)=(if applyE S ops=0 then (runR (S.rev+1) ⟨S,[],[]⟩ ops).A else [])/\SlF w' 101 13 evC ev (if applyE S ops=0 then (runR (S.rev+1) ⟨S,[],[]⟩ ops).E else [])/\Fr F w w'/\(∀ b,F' b->F b\/w.heap.size<=b):=by
 have hr:=h.rev;have hr1:=h.rev1;have hm0:=h.cpl.m0;by_cases he:applyE S ops=0
 · obtain ⟨e1,e2⟩:=zbl he
   simp only [if_pos he];rw [he];refine (ztp hT (n:=20000 * k+20000) (by omega) w s S F hS v ops hv hvF (by omega) (fun o ho=>by have:=hks o ho;omega) (by unfold top;omega) (by unfold top;omega) e1 e2 fun i o ho=>?_).mono ?_
   · have hil:=(List.getElem?_eq_some_iff.1 ho).1
     rw [hr];exact (h.runs hk e1 (fun o ho=>by have:=hks o ho;omega) i (by omega)).2 o ho
   rintro e w' ⟨av,ev,rfl,F',Z,a,b,c,d,f,g,_⟩
   exact ⟨av,ev,rfl,F',Z,a,b,c,d,f,g⟩
 simp only [if_neg he]
 refine (zto hT w s S F hS v ops hv (by omega) (fun o ho=>by have:=hks o ho;omega) he).mono ?_;rintro e w' ⟨rfl,hf⟩;exact ⟨_,_,rfl,F,[],hS.fr0 hT hf,AnsR.nil _,rfl,SlF.nil _ _ _ _,hf.mono fun _ _ h=>h.elim,fun b h=>.inl h⟩
theorem zfm {TA:zar} (hT:TreeOk TA 1000000) (hTD:TreeDl TA) {k:Nat} {S:St} {D:Doc} (h:Good k S D) (hk:k<=70) (w:World) (s:Nat) (F:Nat->Prop) (hS:zak TA w s S F) (rev:Int) :
 Calls Tryz.prog 50 #[.pointer (some ⟨s,0,none⟩),.int .i64 rev] w fun e w'=>e = .returned (.int .i64 (zbg S rev))/\∃ F',zak TA w' s (if zbg S rev=0 then compS rev S else S) F'/\Fr F w w'/\(∀ b,F' b->F b\/w.heap.size<=b):=by
 by_cases he:zbg S rev=0
 · obtain ⟨c1,c2⟩:=zef he
   rw [if_pos he,he];exact zji hT hTD (n:=20000 * k) (by omega) w s S F hS h.ok (by have:=h.size;omega) rev (h.compG (by omega) c2 c1)
 rw [if_neg he]
 refine (zot w s S F hS rev he).mono ?_;rintro e w' ⟨rfl,hf⟩;exact ⟨rfl,F,hS.fr0 hT hf,hf.mono fun _ _ h=>h.elim,fun b h=>.inl h⟩
theorem zfa {TA:zar} (hT:TreeOk TA 1000000) {k:Nat} {S:St} {D:Doc} (h:Good k S D) (hk:k<=70) (w:World) (s:Nat) (F:Nat->Prop) (hS:zak TA w s S F) (g:Rg) (hks:g.key.size<=3000) :
 Calls Tryz.prog 46 #[.pointer (some ⟨s,0,none⟩),rgV g] w fun e w'=>∃ v,e = .returned (.tuple #[v,.int .i64 (if rangeE S g=0 then ((allL S g S.rev).length:Int) else 0),.bool (decide (rangeE S g=0) && moreB S g S.rev),.int .i64 (rangeE S g)]) ∧
  SlF w' 99 6 kvC v (if rangeE S g=0 then getL S g S.rev else [])/\Fr No w w'/\(∀ b,v.ownBlock=some b->w.heap.size<=b):=by
 by_cases he:rangeE S g=0
 · simp only [he,decide_true,Bool.true_and]
   exact zjh hT (n:=20000 * k) (by omega) w s S F hS h.ok (by have:=h.size;omega) g (by omega) he
 simp only [he,decide_false,Bool.false_and]
 refine (ztt hT w s S F hS g (by omega) he).mono ?_;rintro e w' ⟨rfl,hf⟩;exact ⟨_,rfl,SlF.nil _ _ _ _,hf,fun b hb=>by simp [Value.ownBlock] at hb⟩
set_option maxHeartbeats 8000000 in
theorem zkv {TA:zar} (hT:TreeOk TA 1000000) (hTD:TreeDl TA) {k:Nat} {S:St} {D:Doc} (h:Good k S D) (hk:k<=70) (w:World) (s:Nat) (F:Nat->Prop) (hS:zak TA w s S F) (q:CalQ) (hq:fewCal q=true)
 (ha:SlR w 10 opC q.1.ops q.2.1) (hb:SlR w 1 strC q.1.keys q.2.2) (haF:0 < q.2.1.length->∀ b,q.1.ops.ownBlock=some b->¬ F b) (hbF:0 < q.2.2.length->∀ b,q.1.keys.ownBlock=some b->¬ F b) :
 Calls Tryz.prog 27 #[.pointer (some ⟨s,0,none⟩),.agg (calC q).toArray] w fun e w'=>e = .returned (.int .i64 (doE S q))/\∃ F',zak TA w' s (doT S q) F'/\Fr F w w'/\(∀ b,F' b->F b\/w.heap.size<=b):=by
 obtain ⟨f1,f2,f3,f4,f5⟩:=zdl hq;have hkd:=fun W=>zrj W q;have hkr:=znn q.1.kind;have C30:=fun W (h1:Fr No w W)=>zfa hT h hk W s F (hS.fr0 hT h1) q.1.rg f4;have C44:=fun W (h1:Fr No w W)=>zfm hT hTD h hk W s F (hS.fr0 hT h1) q.1.rev;have C43:=fun W (h1:Fr No w W)=>zmw hT W s S F (hS.fr0 hT h1) (by have:=h.ok.ev;omega) (fun h1=>h.events_pos (by rw [<-h.rev];exact h1)) q.1.rev q.1.upto;have C42:=fun W (h1:Fr No w W)=>zos hT h hk W s F (hS.fr0 hT h1) q.1.keys q.2.2 (hb.fr0 h1) hbF f3;have C41:=fun W (h1:Fr No w W)=>zfb hT h hk W s F (hS.fr0 hT h1) q.1.ops q.2.1 (ha.fr0 h1) haF f2 fun o ho=>(f1 o ho).1;obtain ⟨oa,ocap,hos,_,_,_⟩:=ha.shape;obtain ⟨ka,kcap,hks,_,_,_⟩:=hb.shape;have hS0:=fun W (h1:Fr No w W)=>hS.fr0 hT h1;unfold doE doT;clear ha hb haF hbF hq f1 f2 f3 f4 f5 h hk hS hTD
 obtain ⟨⟨p1,p2,⟨g1,g2,g3,g4,g5,g6,g7⟩,p3,p4,p5⟩,ops,keys⟩:=q;dsimp only at *;subst hos hks;unfold calC rgC rgV at *;dsimp only at *;generalize kindN p1=kd at *;generalize rangeE S _=e30 at *;generalize zbg S _=e44 at *;generalize zft S _ _=e43 at *;generalize applyE S _=e41 at *;generalize (if e30=0 then ((allL S ⟨g1,g2,g3,g4,g5,g6,g7⟩ S.rev).length:Int) else 0)=n30 at *;generalize (decide (e30=0) && moreB S ⟨g1,g2,g3,g4,g5,g6,g7⟩ S.rev)=b30 at *;generalize (if e30=0 then getL S ⟨g1,g2,g3,g4,g5,g6,g7⟩ S.rev else [])=l30 at *;generalize (if e44=0 then compS p3 S else S)=s44 at *;generalize (if e43=0 then S.events.filter (insB p3 p4) else [])=l43 at *;generalize (if e41=0 then applyS S ops else S)=s41 at *;generalize (if e41=0 then (runR (S.rev+1) ⟨S,[],[]⟩ ops).A else [])=a41 at *
 generalize (if e41=0 then (runR (S.rev+1) ⟨S,[],[]⟩ ops).E else [])=ev41 at *;have HKD:=H_ hkd;have H30:=H_ C30;have H44:=H_ C44;have H43:=H_ C43;have H42:=H_ C42;have H41:=H_ C41;have HS0:=H_ hS0;clear hkd C30 C44 C43 C42 C41 hS0;have hf0:Fr No w (w.alloc (Obj.cells #[.int .i64 p1,.slice oa ops.length ocap,.string g1,.string g2,.int .i64 g3,.int .i64 g4,.bool g5,.bool g6,.bool g7,.int .i64 p3,.int .i64 p4,.slice ka keys.length kcap] 38)):=(Fr.refl No w).alloc _;have hbx:=zad w (Obj.cells #[.int .i64 p1,.slice oa ops.length ocap,.string g1,.string g2,.int .i64 g3,.int .i64 g4,.bool g5,.bool g6,.bool g7,.int .i64 p3,.int .i64 p4,.slice ka keys.length kcap] 38) _ rfl;by_cases h4:kd=4
 · subst h4
   rw [if_pos rfl,if_pos rfl];go_enter Tryz.func27,Tryz.ntmps27
   go_wp2_with (first
   | (go_at_call 52;refine (HKD.out _).mono ?_;rintro e w1 ⟨rfl,hf⟩
      have hf1:=hf0.trans0 hf;have hb1:=hf.heap hbx (fun h=>h);have x1:w1.cell? ⟨w.heap.size,1,none⟩=some (.slice oa ops.length ocap):=cellAt hb1 1 rfl;have x2:w1.cell? ⟨w.heap.size,2,none⟩=some (.string g1):=cellAt hb1 2 rfl;have x3:w1.cell? ⟨w.heap.size,3,none⟩=some (.string g2):=cellAt hb1 3 rfl;have x4:w1.cell? ⟨w.heap.size,4,none⟩=some (.int .i64 g3):=cellAt hb1 4 rfl;have x5:w1.cell? ⟨w.heap.size,5,none⟩=some (.int .i64 g4):=cellAt hb1 5 rfl;have x6:w1.cell? ⟨w.heap.size,6,none⟩=some (.bool g5):=cellAt hb1 6 rfl;have x7:w1.cell? ⟨w.heap.size,7,none⟩=some (.bool g6):=cellAt hb1 7 rfl;have x8:w1.cell? ⟨w.heap.size,8,none⟩=some (.bool g7):=cellAt hb1 8 rfl;have x9:w1.cell? ⟨w.heap.size,9,none⟩=some (.int .i64 p3):=cellAt hb1 9 rfl
      have x10:w1.cell? ⟨w.heap.size,10,none⟩=some (.int .i64 p4):=cellAt hb1 10 rfl;have x11:w1.cell? ⟨w.heap.size,11,none⟩=some (.slice ka keys.length kcap):=cellAt hb1 11 rfl;have lx:=zac hb1)
   | (go_at_call 46;refine (H30.out _ hf1).mono ?_;rintro e w2 ⟨v,rfl,_,hf2,_⟩))
   go_ret;have hfw:=hf1.trans0 hf2;exact ⟨rfl,F,HS0.out _ hfw,hfw.mono fun _ _ h=>h.elim,fun b h=>.inl h⟩
 have h4':(kd == 4)=false:=by simpa using h4
 rw [if_neg h4,if_neg h4];by_cases h5:kd=5
 · subst h5
   rw [if_pos rfl,if_pos rfl];go_enter Tryz.func27,Tryz.ntmps27
   go_wp2_with (first
   | (go_at_call 52;refine (HKD.out _).mono ?_;rintro e w1 ⟨rfl,hf⟩
      have hf1:=hf0.trans0 hf;have hb1:=hf.heap hbx (fun h=>h);have x1:w1.cell? ⟨w.heap.size,1,none⟩=some (.slice oa ops.length ocap):=cellAt hb1 1 rfl;have x2:w1.cell? ⟨w.heap.size,2,none⟩=some (.string g1):=cellAt hb1 2 rfl;have x3:w1.cell? ⟨w.heap.size,3,none⟩=some (.string g2):=cellAt hb1 3 rfl;have x4:w1.cell? ⟨w.heap.size,4,none⟩=some (.int .i64 g3):=cellAt hb1 4 rfl;have x5:w1.cell? ⟨w.heap.size,5,none⟩=some (.int .i64 g4):=cellAt hb1 5 rfl;have x6:w1.cell? ⟨w.heap.size,6,none⟩=some (.bool g5):=cellAt hb1 6 rfl;have x7:w1.cell? ⟨w.heap.size,7,none⟩=some (.bool g6):=cellAt hb1 7 rfl;have x8:w1.cell? ⟨w.heap.size,8,none⟩=some (.bool g7):=cellAt hb1 8 rfl;have x9:w1.cell? ⟨w.heap.size,9,none⟩=some (.int .i64 p3):=cellAt hb1 9 rfl
      have x10:w1.cell? ⟨w.heap.size,10,none⟩=some (.int .i64 p4):=cellAt hb1 10 rfl;have x11:w1.cell? ⟨w.heap.size,11,none⟩=some (.slice ka keys.length kcap):=cellAt hb1 11 rfl;have lx:=zac hb1)
   | (go_at_call 50;refine (H44.out _ hf1).mono ?_;rintro e w2 ⟨rfl,F2,hs2,hf2,hn2⟩))
   go_ret;refine ⟨rfl,F2,hs2,(hf1.mono fun _ _ h=>h.elim).trans hf2 fun _ _ h=>h,fun b hb=>?_⟩;have:=hf1.size;rcases hn2 b hb with h | h
   · exact .inl h
   exact .inr (by omega)
 have h5':(kd == 5)=false:=by simpa using h5
 rw [if_neg h5,if_neg h5];by_cases h6:kd=6
 · subst h6
   rw [if_pos rfl,if_pos rfl];go_enter Tryz.func27,Tryz.ntmps27
   go_wp2_with (first
   | (go_at_call 52;refine (HKD.out _).mono ?_;rintro e w1 ⟨rfl,hf⟩
      have hf1:=hf0.trans0 hf;have hb1:=hf.heap hbx (fun h=>h);have x1:w1.cell? ⟨w.heap.size,1,none⟩=some (.slice oa ops.length ocap):=cellAt hb1 1 rfl;have x2:w1.cell? ⟨w.heap.size,2,none⟩=some (.string g1):=cellAt hb1 2 rfl;have x3:w1.cell? ⟨w.heap.size,3,none⟩=some (.string g2):=cellAt hb1 3 rfl;have x4:w1.cell? ⟨w.heap.size,4,none⟩=some (.int .i64 g3):=cellAt hb1 4 rfl;have x5:w1.cell? ⟨w.heap.size,5,none⟩=some (.int .i64 g4):=cellAt hb1 5 rfl;have x6:w1.cell? ⟨w.heap.size,6,none⟩=some (.bool g5):=cellAt hb1 6 rfl;have x7:w1.cell? ⟨w.heap.size,7,none⟩=some (.bool g6):=cellAt hb1 7 rfl;have x8:w1.cell? ⟨w.heap.size,8,none⟩=some (.bool g7):=cellAt hb1 8 rfl;have x9:w1.cell? ⟨w.heap.size,9,none⟩=some (.int .i64 p3):=cellAt hb1 9 rfl
      have x10:w1.cell? ⟨w.heap.size,10,none⟩=some (.int .i64 p4):=cellAt hb1 10 rfl;have x11:w1.cell? ⟨w.heap.size,11,none⟩=some (.slice ka keys.length kcap):=cellAt hb1 11 rfl;have lx:=zac hb1)
   | (go_at_call 47;refine (H43.out _ hf1).mono ?_;rintro e w2 ⟨v,rfl,_,hf2,_⟩))
   go_ret;have hfw:=hf1.trans0 hf2;exact ⟨rfl,F,HS0.out _ hfw,hfw.mono fun _ _ h=>h.elim,fun b h=>.inl h⟩
 have h6':(kd == 6)=false:=by simpa using h6
 rw [if_neg h6,if_neg h6];by_cases h7:kd=7
 · subst h7
   rw [if_pos rfl,if_pos rfl];go_enter Tryz.func27,Tryz.ntmps27
   go_wp2_with (first
   | (go_at_call 52;refine (HKD.out _).mono ?_;rintro e w1 ⟨rfl,hf⟩
      have hf1:=hf0.trans0 hf;have hb1:=hf.heap hbx (fun h=>h);have x1:w1.cell? ⟨w.heap.size,1,none⟩=some (.slice oa ops.length ocap):=cellAt hb1 1 rfl;have x2:w1.cell? ⟨w.heap.size,2,none⟩=some (.string g1):=cellAt hb1 2 rfl;have x3:w1.cell? ⟨w.heap.size,3,none⟩=some (.string g2):=cellAt hb1 3 rfl;have x4:w1.cell? ⟨w.heap.size,4,none⟩=some (.int .i64 g3):=cellAt hb1 4 rfl;have x5:w1.cell? ⟨w.heap.size,5,none⟩=some (.int .i64 g4):=cellAt hb1 5 rfl;have x6:w1.cell? ⟨w.heap.size,6,none⟩=some (.bool g5):=cellAt hb1 6 rfl;have x7:w1.cell? ⟨w.heap.size,7,none⟩=some (.bool g6):=cellAt hb1 7 rfl;have x8:w1.cell? ⟨w.heap.size,8,none⟩=some (.bool g7):=cellAt hb1 8 rfl;have x9:w1.cell? ⟨w.heap.size,9,none⟩=some (.int .i64 p3):=cellAt hb1 9 rfl
      have x10:w1.cell? ⟨w.heap.size,10,none⟩=some (.int .i64 p4):=cellAt hb1 10 rfl;have x11:w1.cell? ⟨w.heap.size,11,none⟩=some (.slice ka keys.length kcap):=cellAt hb1 11 rfl;have lx:=zac hb1)
   | (go_at_call 57;refine (H42.out _ hf1).mono ?_;rintro e w2 ⟨v,rfl,F2,hs2,_,hf2,hn2,_⟩))
   go_ret;refine ⟨rfl,F2,hs2,(hf1.mono fun _ _ h=>h.elim).trans hf2 fun _ _ h=>h,fun b hb=>?_⟩;have:=hf1.size;rcases hn2 b hb with h | h
   · exact .inl h
   exact .inr (by omega)
 have h7':(kd == 7)=false:=by simpa using h7
 rw [if_neg h7,if_neg h7];go_enter Tryz.func27,Tryz.ntmps27
 go_wp2_with (first
 | (go_at_call 52;refine (HKD.out _).mono ?_;rintro e w1 ⟨rfl,hf⟩
    have hf1:=hf0.trans0 hf;have hb1:=hf.heap hbx (fun h=>h);have x1:w1.cell? ⟨w.heap.size,1,none⟩=some (.slice oa ops.length ocap):=cellAt hb1 1 rfl;have x2:w1.cell? ⟨w.heap.size,2,none⟩=some (.string g1):=cellAt hb1 2 rfl;have x3:w1.cell? ⟨w.heap.size,3,none⟩=some (.string g2):=cellAt hb1 3 rfl;have x4:w1.cell? ⟨w.heap.size,4,none⟩=some (.int .i64 g3):=cellAt hb1 4 rfl;have x5:w1.cell? ⟨w.heap.size,5,none⟩=some (.int .i64 g4):=cellAt hb1 5 rfl;have x6:w1.cell? ⟨w.heap.size,6,none⟩=some (.bool g5):=cellAt hb1 6 rfl;have x7:w1.cell? ⟨w.heap.size,7,none⟩=some (.bool g6):=cellAt hb1 7 rfl;have x8:w1.cell? ⟨w.heap.size,8,none⟩=some (.bool g7):=cellAt hb1 8 rfl;have x9:w1.cell? ⟨w.heap.size,9,none⟩=some (.int .i64 p3):=cellAt hb1 9 rfl
    have x10:w1.cell? ⟨w.heap.size,10,none⟩=some (.int .i64 p4):=cellAt hb1 10 rfl;have x11:w1.cell? ⟨w.heap.size,11,none⟩=some (.slice ka keys.length kcap):=cellAt hb1 11 rfl;have lx:=zac hb1)
 | (go_at_call 37;refine (H41.out _ hf1).mono ?_;rintro e w2 ⟨av,ev,rfl,F2,Z,hs2,_,_,_,hf2,hn2⟩))
 go_ret;refine ⟨rfl,F2,hs2,(hf1.mono fun _ _ h=>h.elim).trans hf2 fun _ _ h=>h,fun b hb=>?_⟩;have:=hf1.size;rcases hn2 b hb with h | h
 · exact .inl h
 exact .inr (by omega)
end Go.Proofs.YthljnnjpmdgkoaaGreat