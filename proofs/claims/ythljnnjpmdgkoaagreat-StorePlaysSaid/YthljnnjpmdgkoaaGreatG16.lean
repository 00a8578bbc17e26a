/- Own lemmas and contracts that the claim's proof needs, laid together. The conditions stand in each. -/
import Derived.Test.YthljnnjpmdgkoaaGreatG09
import Derived.Test.YthljnnjpmdgkoaaGreatG03
import Derived.Test.YthljnnjpmdgkoaaGreatG05
import Derived.Test.YthljnnjpmdgkoaaGreatG13
import Derived.Test.YthljnnjpmdgkoaaGreatG14
import Derived.Test.YthljnnjpmdgkoaaGreatG12
import Derived.Test.YthljnnjpmdgkoaaGreatG15
import Derived.Test.YthljnnjpmdgkoaaGreatG01
import Derived.Test.YthljnnjpmdgkoaaGreatG07
import Derived.Test.YthljnnjpmdgkoaaGreatG06
import Derived.StringKeys
import Derived.Maps.Keyed
import Derived.Deep.CutBlock
import Derived.WalkLawsBesides
namespace Go.Proofs.YthljnnjpmdgkoaaGreat
open Go Go.Proofs Go.RowKit
set_option maxRecDepth 100000
def outB (lo up:Int) (x:Ev):Bool:=decide (x.kv.mod < lo) || decide (up < x.kv.mod)
def insB (lo up:Int) (x:Ev):Bool:=!outB lo up x
theorem zmv (w:World) (x:Ev) (ra rb:Nat) (lo up:Int) (ha:w.cell? ⟨ra,0,none⟩=some (.int .i64 lo)) (hb:w.cell? ⟨rb,0,none⟩=some (.int .i64 up)) :
 Calls Tryz.prog 100 #[evV x,.pointer (some ⟨ra,0,none⟩),.pointer (some ⟨rb,0,none⟩)] w fun e w'=>e = .returned (.bool (decide (x.kv.mod < lo) || decide (up < x.kv.mod)))/\Fr No w w':=by
 obtain ⟨x0,⟨x1,x2,x3,x4,x5,x6⟩,⟨x7,x8,x9,x10,x11,x12⟩⟩:=x;unfold evV;dsimp only;have hlt:=World.block_lt_of_cell? _ _ hb;have hlt2:=World.block_lt_of_cell? _ _ ha;by_cases h1:x4 < lo
 · go_enter Tryz.func100,Tryz.ntmps100
   go_wp2;go_ret;exact ⟨by simp [],(Fr.refl No w).alloc _⟩
 go_enter Tryz.func100,Tryz.ntmps100
 go_wp2;go_ret;exact ⟨by simp;intro h;omega,(Fr.refl No w).alloc _⟩
theorem zlm {lo up:Int} {L:List Ev} {k:Nat} (h:L.findIdx (outB lo up)=k) (hk:k < L.length):(L.take (k+1)).filter (insB lo up)=L.take k:=by
 have hx:∃ x,L[k]? = some x:=⟨_,List.getElem?_eq_getElem hk⟩;obtain ⟨x,hx⟩:=hx
 have hp:outB lo up x=true:=by
  have:=(List.findIdx_eq hk).1 h;rw [(List.getElem?_eq_some_iff.1 hx).2] at this;exact this.1
 rw [List.take_add_one,hx,List.filter_append]
 have h1:(L.take k).filter (insB lo up)=L.take k:=by
  rw [List.filter_eq_self];intro y hy;obtain ⟨j,hj⟩:=List.mem_iff_getElem?.1 hy;have hjl:=(List.getElem?_eq_some_iff.1 hj).1;rw [List.length_take] at hjl;rw [List.getElem?_take_of_lt (by omega)] at hj;have:=((List.findIdx_eq hk).1 h).2 j (by omega);rw [(List.getElem?_eq_some_iff.1 hj).2] at this;unfold insB;rw [this];rfl
 rw [h1];simp [insB,hp]
theorem zot {lo up:Int} {L:List Ev} (h:L.findIdx (outB lo up)=L.length):L.filter (insB lo up)=L:=by
 rw [List.filter_eq_self];intro y hy;rw [List.findIdx_eq_length] at h;unfold insB;rw [h y hy];rfl
set_option maxHeartbeats 2000000 in
theorem zjw (w:World) (v:Value) (l:List Ev) (ra rb:Nat) (lo up:Int) (hba:w.cell? ⟨ra,0,none⟩=some (.int .i64 lo)) (hb:w.cell? ⟨rb,0,none⟩=some (.int .i64 up)) (hv:SlF w 101 13 evC v l) (hl:l.length<=1099511627) :
 Calls Tryz.prog 144 #[v,.func (.func 100) #[] #[.pointer (some ⟨ra,0,none⟩),.pointer (some ⟨rb,0,none⟩)]] w fun e w'=>e = .returned (.int .i64 (idxEv (outB lo up) l))/\Fr No w w':=by
 obtain ⟨a,cap,rfl,hc1,hc2,ha⟩:=hv.shape;have HV:=H_ hv;clear hv;have HA:=H_ ha;clear ha;have HB:=H_ hb;clear hb;have HBA:=H_ hba;clear hba;go_enter Tryz.func144,Tryz.ntmps144;go_wp2
 go_loopg [8] l.length (fun g s8 wr=>∃ i:Nat,s8 = .int .i64 i/\i+g=l.length/\Hid (∀ j,j < i->∀ p,l[j]? = some p->outB lo up p=false)/\Hid (Fr No w wr))
 case atStart=>exact ⟨0,rfl,by simp,H_ (by simp),H_ (Fr.refl No w)⟩
 case round =>
  obtain ⟨i,rfl,hi,HJ,HF⟩:=hrel
  cases gk with
  | zero =>
    have hil:¬ (i:Int) < (l.length:Int):=(by omega);go_wp2;go_ret;refine ⟨?_,HF.out⟩
    have hu:l.findIdx (outB lo up)=l.length:=by
     rw [List.findIdx_eq_length];intro x hx;obtain ⟨j,hj,rfl⟩:=List.getElem_of_mem hx;exact HJ.out j (by omega) _ (List.getElem?_eq_getElem hj)
    unfold idxEv;rw [if_pos hu]
    rfl
  | succ g =>
    obtain ⟨gb,go,rfl⟩:=HA.out (by omega);obtain ⟨p,hx⟩:∃ p,l[i]? = some p:=⟨_,List.getElem?_eq_getElem (by omega)⟩;have hvr:=HV.out.fr0 HF.out;have x0:=hvr.cell0 zab i hx rfl;have x1:=hvr.cell zab i 1 hx rfl;have x2:=hvr.cell zab i 2 hx rfl;have x3:=hvr.cell zab i 3 hx rfl;have x4:=hvr.cell zab i 4 hx rfl;have x5:=hvr.cell zab i 5 hx rfl;have x6:=hvr.cell zab i 6 hx rfl;have x7:=hvr.cell zab i 7 hx rfl;have x8:=hvr.cell zab i 8 hx rfl;have x9:=hvr.cell zab i 9 hx rfl;have x10:=hvr.cell zab i 10 hx rfl;have x11:=hvr.cell zab i 11 hx rfl;have x12:=hvr.cell zab i 12 hx rfl;have hil:(i:Int) < (l.length:Int):=(by omega);have hcl:=zmv wr p ra rb lo up (HF.out.cell0 HBA.out) (HF.out.cell0 HB.out);have hob:(decide (p.kv.mod < lo) || decide (up < p.kv.mod))=outB lo up p:=rfl;rw [hob] at hcl;unfold evV at hcl
    have Hx:=H_ hx;clear hx hvr hob;generalize hp:outB lo up p=q at *;have Hp:=H_ hp;clear hp;cases q
    · go_wp2_with (go_at_call 100;refine hcl.mono ?_;rintro e w1 ⟨rfl,hf⟩)
      go_roundg g
      case rel=>exact ⟨i+1,by go_num,by omega,H_ (fun j hj q hq=>by
       by_cases hji:j=i
       · subst hji;rw [Hx.out] at hq;cases hq;exact Hp.out
       exact HJ.out j (by omega) q hq),H_ (HF.out.trans0 hf)⟩
      case measure=>omega
    go_wp2_with (go_at_call 100;refine hcl.mono ?_;rintro e w1 ⟨rfl,hf⟩)
    go_ret;refine ⟨?_,HF.out.trans0 hf⟩
    have hu:l.findIdx (outB lo up)=i:=by
     have hil':i < l.length:=(by omega);rw [List.findIdx_eq hil'];have hgi:l[i] = p:=(List.getElem?_eq_some_iff.1 Hx.out).2;refine ⟨by rw [hgi];exact Hp.out,fun j hj=>?_⟩;exact HJ.out j hj _ (List.getElem?_eq_getElem (by omega))
    unfold idxEv;rw [hu,if_neg (by omega)]
    rfl
set_option maxHeartbeats 8000000 in
theorem znq (w:World) (v:Value) (L:List Ev) (ra rb:Nat) (lo up:Int) (hba:w.cell? ⟨ra,0,none⟩=some (.int .i64 lo)) (hb:w.cell? ⟨rb,0,none⟩=some (.int .i64 up)) (hv:SlF w 101 13 evC v L) (hna:v.ownBlock≠some ra) (hn:v.ownBlock≠some rb) (hl:L.length<=1099511627) :
 Calls Tryz.prog 98 #[v,.func (.func 100) #[] #[.pointer (some ⟨ra,0,none⟩),.pointer (some ⟨rb,0,none⟩)]] w fun e w'=>∃ v',e = .returned v'/\SlF w' 101 13 evC v' (L.filter (insB lo up))/\Fr (fun b=>v.ownBlock=some b) w w'/\(∀ b,v'.ownBlock=some b->v.ownBlock=some b):=by
 have hix:=fun W (h:Fr No w W)=>zjw W v L ra rb lo up (h.cell0 hba) (h.cell0 hb) (hv.fr0 h) hl;obtain ⟨a,cap,rfl,hc1,hc2,ha⟩:=hv.shape;have HIX:=H_ hix;clear hix;by_cases h0:L.findIdx (outB lo up)=L.length
 · have hidx:idxEv (outB lo up) L = -1:=by unfold idxEv;rw [if_pos h0]
   rw [hidx] at HIX;have hfa:=zot h0;rw [hfa];have HV:=H_ hv;clear hv hidx h0 hfa;go_enter Tryz.func98,Tryz.ntmps98;go_wp2_with (go_at_call 144;refine (HIX.out _ (Fr.refl No w)).mono ?_;rintro e w1 ⟨rfl,hf1⟩);go_ret;exact ⟨_,rfl,HV.out.fr0 hf1,hf1.mono fun _ _ h=>h.elim,fun b h=>h⟩
 have hk:L.findIdx (outB lo up) < L.length:=Nat.lt_of_le_of_ne List.findIdx_le_length h0
 have hidx:idxEv (outB lo up) L=(L.findIdx (outB lo up):Int):=(by unfold idxEv;rw [if_neg h0]);rw [hidx] at HIX;have hff:=zlm rfl hk;generalize hkk:L.findIdx (outB lo up)=k0 at *;obtain ⟨gb,go,rfl⟩:=ha (by omega);have hnr:gb≠rb:=fun e=>hn (by rw [<-e];rfl);have hnra:gb≠ra:=fun e=>hna (by rw [<-e];rfl);have HV:=H_ hv;have HB:=H_ hb;have HBA:=H_ hba;have HFF:=H_ hff;clear hv hidx h0 hff hkk ha hb hba hn hna;have hk0:((k0:Int) == -1)=false:=(by rw [beq_eq_false_iff_ne];omega);go_enter Tryz.func98,Tryz.ntmps98;go_wp2_with (go_at_call 144;refine (HIX.out _ (Fr.refl No w)).mono ?_;rintro e w1 ⟨rfl,hf1⟩)
 go_loopg [5,6] L.length (fun g s5 s6 wr=>∃ (k i:Nat) (M:List Ev),s5 = .int .i64 k/\s6 = .int .i64 i/\k < i/\i<=L.length/\i+g=L.length+k0+1/\k0 < i/\M.length=L.length/\Hid (M.take k=(L.take i).filter (insB lo up))/\Hid (M.drop i=L.drop i) ∧
  Hid (SlF wr 101 13 evC (.slice (some ⟨gb,go,none⟩) L.length cap) M)/\Hid (Fr (fun b=>b=gb) w wr))
 case atStart=>exact ⟨k0,k0+1,L,rfl,by go_num,by omega,by omega,by omega,by omega,rfl,H_ HFF.out.symm,H_ rfl,H_ (HV.out.fr0 hf1),H_ (hf1.mono fun _ _ h=>h.elim)⟩
 case round =>
  obtain ⟨k,i,M,rfl,rfl,hki,hiL,hig,hk0i,hM,HT,HD,HS,HF⟩:=hrel;by_cases hil:i < L.length
  · cases gk with
    | zero=>omega
    | succ g =>
      have hil':(i:Int) < (L.length:Int):=(by omega);have hkl':(k:Int) < (L.length:Int):=(by omega);obtain ⟨x,hx⟩:∃ x,L[i]? = some x:=⟨_,List.getElem?_eq_getElem hil⟩
      have hMx:M[i]? = some x:=by
       have:=congrArg (fun l=>l[0]?) HD.out;simp only [List.getElem?_drop,Nat.add_zero] at this;rw [this];exact hx
      have hsl:SlF wr 101 13 evC (.slice (some ⟨gb,go,none⟩) M.length cap) M:=(by rw [hM];exact HS.out);obtain ⟨y,hy⟩:∃ y,M[k]? = some y:=⟨_,List.getElem?_eq_getElem (by omega)⟩;have lgb:gb < wr.heap.size:=hsl.lt gb rfl;have hrb:=HF.out.cell HB.out (fun e=>hnr e.symm);have hra:=HF.out.cell HBA.out (fun e=>hnra e.symm);have hoc:=fun W (h:Fr No wr W)=>zmv W x ra rb lo up (h.cell0 hra) (h.cell0 hrb);have hfz:∀ j,wr.frozen? ⟨gb,j,none⟩=false:=fun j=>hsl.free j;have hob:(decide (x.kv.mod < lo) || decide (up < x.kv.mod))=outB lo up x:=rfl;rw [hob] at hoc
      have hlk:∀ (W:World),Fr No wr W->SlF (layEv W gb (go+k * 13) x) 101 13 evC (.slice (some ⟨gb,go,none⟩) L.length cap) (M.set k x):=fun (W:World) (h:Fr No wr W)=>by
       have:=zqg (hsl.fr0 h) k hy x;rw [hM] at this;exact this
      have hlf:=fun (W:World) (h:Fr (fun b=>b=gb) w W)=>zqh h gb (go+k * 13) x rfl
      have htk:(L.take (i+1)).filter (insB lo up)=(L.take i).filter (insB lo up)++(if outB lo up x then [] else [x]):=by
       rw [List.take_add_one,hx,List.filter_append]
       congr 1
       cases hq:outB lo up x <;> simp [insB,hq]
      have hdk:M.drop (i+1)=L.drop (i+1):=by
       have:=congrArg (List.drop 1) HD.out
       rwa [List.drop_drop,List.drop_drop] at this
      generalize hq:outB lo up x=q at *;have z0:=hsl.cell0 zab i hMx rfl;have u0:=hsl.cell0 zab k hy rfl;have z1:=hsl.cell zab i 1 hMx rfl;have u1:=hsl.cell zab k 1 hy rfl;have z2:=hsl.cell zab i 2 hMx rfl;have u2:=hsl.cell zab k 2 hy rfl;have z3:=hsl.cell zab i 3 hMx rfl;have u3:=hsl.cell zab k 3 hy rfl;have z4:=hsl.cell zab i 4 hMx rfl;have u4:=hsl.cell zab k 4 hy rfl;have z5:=hsl.cell zab i 5 hMx rfl;have u5:=hsl.cell zab k 5 hy rfl;have z6:=hsl.cell zab i 6 hMx rfl;have u6:=hsl.cell zab k 6 hy rfl;have z7:=hsl.cell zab i 7 hMx rfl;have u7:=hsl.cell zab k 7 hy rfl;have z8:=hsl.cell zab i 8 hMx rfl;have u8:=hsl.cell zab k 8 hy rfl;have z9:=hsl.cell zab i 9 hMx rfl;have u9:=hsl.cell zab k 9 hy rfl;have z10:=hsl.cell zab i 10 hMx rfl;have u10:=hsl.cell zab k 10 hy rfl;have z11:=hsl.cell zab i 11 hMx rfl
      have u11:=hsl.cell zab k 11 hy rfl;have z12:=hsl.cell zab i 12 hMx rfl;have u12:=hsl.cell zab k 12 hy rfl;have HLK:=H_ hlk;have HLF:=H_ hlf;have HOC:=H_ hoc;have HTK:=H_ htk;have HDK:=H_ hdk;have HSL:=H_ hsl;clear hlk hlf hoc htk hdk hsl hx hMx hq hob;obtain ⟨x0,⟨x1,x2,x3,x4,x5,x6⟩,⟨x7,x8,x9,x10,x11,x12⟩⟩:=x;unfold layEv at HLK HLF;unfold evV at HOC;dsimp only at *;cases q
      · go_wp2_with (go_at_call 100;refine (HOC.out _ ((Fr.refl No wr).alloc _)).mono ?_;rintro e w2 ⟨rfl,hf2⟩
                     have hkc:=hf2.heap (zad wr (Obj.cells #[.int .i64 x0,.string x1,.string x2,.int .i64 x3,.int .i64 x4,.int .i64 x5,.int .i64 x6,.string x7,.string x8,.int .i64 x9,.int .i64 x10,.int .i64 x11,.int .i64 x12] 101) _ rfl) id;have hf3:Fr No wr w2:=((Fr.refl No wr).alloc _).trans0 hf2;have c0:w2.cell? ⟨wr.heap.size,0,none⟩=some (.int .i64 x0):=(by simp [World.cell?,hkc]);have u0:=hf3.cell0 u0;have c1:w2.cell? ⟨wr.heap.size,1,none⟩=some (.string x1):=(by simp [World.cell?,hkc]);have u1:=hf3.cell0 u1;have c2:w2.cell? ⟨wr.heap.size,2,none⟩=some (.string x2):=(by simp [World.cell?,hkc]);have u2:=hf3.cell0 u2;have c3:w2.cell? ⟨wr.heap.size,3,none⟩=some (.int .i64 x3):=(by simp [World.cell?,hkc]);have u3:=hf3.cell0 u3
                     have c4:w2.cell? ⟨wr.heap.size,4,none⟩=some (.int .i64 x4):=(by simp [World.cell?,hkc]);have u4:=hf3.cell0 u4;have c5:w2.cell? ⟨wr.heap.size,5,none⟩=some (.int .i64 x5):=(by simp [World.cell?,hkc]);have u5:=hf3.cell0 u5;have c6:w2.cell? ⟨wr.heap.size,6,none⟩=some (.int .i64 x6):=(by simp [World.cell?,hkc]);have u6:=hf3.cell0 u6;have c7:w2.cell? ⟨wr.heap.size,7,none⟩=some (.string x7):=(by simp [World.cell?,hkc]);have u7:=hf3.cell0 u7;have c8:w2.cell? ⟨wr.heap.size,8,none⟩=some (.string x8):=(by simp [World.cell?,hkc]);have u8:=hf3.cell0 u8;have c9:w2.cell? ⟨wr.heap.size,9,none⟩=some (.int .i64 x9):=(by simp [World.cell?,hkc]);have u9:=hf3.cell0 u9;have c10:w2.cell? ⟨wr.heap.size,10,none⟩=some (.int .i64 x10):=(by simp [World.cell?,hkc]);have u10:=hf3.cell0 u10
                     have c11:w2.cell? ⟨wr.heap.size,11,none⟩=some (.int .i64 x11):=(by simp [World.cell?,hkc]);have u11:=hf3.cell0 u11;have c12:w2.cell? ⟨wr.heap.size,12,none⟩=some (.int .i64 x12):=(by simp [World.cell?,hkc]);have u12:=hf3.cell0 u12;have hfz2:∀ j,w2.frozen? ⟨gb,j,none⟩=false:=fun j=>(HSL.out.fr0 hf3).free j;have lgb2:gb < w2.heap.size:=Nat.lt_of_lt_of_le lgb hf3.size;have lkc:=zac hkc;clear hkc hf2)
        go_roundg g
        case rel=>exact ⟨k+1,i+1,_,by go_num,by go_num,by omega,by omega,by omega,by omega,by rw [List.length_set];exact hM,H_ (by rw [zpu _ _ _ (by omega),HTK.out,HT.out];simp),H_ (by rw [zpv _ _ _ _ (by omega)];exact HDK.out),H_ (HLK.out w2 hf3),H_ (HLF.out w2 (HF.out.trans0 hf3))⟩
        case measure=>omega
      go_wp2_with (go_at_call 100;refine (HOC.out _ ((Fr.refl No wr).alloc _)).mono ?_;rintro e w2 ⟨rfl,hf2⟩)
      go_roundg g
      case rel=>exact ⟨k,i+1,M,rfl,by go_num,by omega,by omega,by omega,by omega,hM,H_ (by rw [HTK.out,HT.out];simp),HDK,H_ (HS.out.fr0 (((Fr.refl No wr).alloc _).trans0 hf2)),H_ (HF.out.trans0 (((Fr.refl No wr).alloc _).trans0 hf2))⟩
      case measure=>omega
  have hil':¬ (i:Int) < (L.length:Int):=by omega
  have hie:i=L.length:=(by omega);have HTL:Hid (M.take k=L.filter (insB lo up)):=H_ (by rw [HT.out,hie,List.take_length]);clear HT HD HIX HV HB HBA HFF;have hkl:(k:Int)<=(L.length:Int):=(by omega);have hkc:(k:Int)<=(cap:Int):=(by omega);have hkc2:k<=cap:=(by omega);have hkc3:¬ cap=k:=(by omega);have hsl:SlF wr 101 13 evC (.slice (some ⟨gb,go,none⟩) M.length cap) M:=(by rw [hM];exact HS.out)
  obtain ⟨cur,hcur,hfit⟩:∃ cur:Array Value,wr.heap[gb]? = some (.cells cur 101 (0,0))/\go+L.length * 13<=cur.size:=by
   rcases hsl.2 with ⟨h0,_⟩ | ⟨g',o',cap',cur,hv,hg,h2,h3,h4,h5⟩
   · cases h0
   simp only [Value.slice.injEq,Option.some.injEq,Addr.mk.injEq,and_true] at hv
   obtain ⟨⟨rfl,rfl⟩,_,rfl⟩:=hv;have:L.length * 13<=cap * 13:=Nat.mul_le_mul_right _ (by omega);exact ⟨cur,hg,by omega⟩
  have hkm:go+k * 13+(L.length - k) * 13<=cur.size:=(by omega);obtain ⟨w3,hrun,hg3,hgr⟩:=zew (P:=Tryz.prog) wr 28 101 0 _ Tryz.underlying28 zero73 (by decide) gb (go+k * 13) (L.length - k) (cap - k) cur 101 hcur (by exact hkm);have hfr3:Fr (fun b=>b=gb) wr w3:=(Fr.refl _ wr).grown hgr fun j hj=>.inl (by simpa using hj.symm);have hcl:=SlF.cleared zab hsl k (by omega) cur hcur (Builtin.zeroCells zv73.cells (L.length - k)).toList (by rw [zbl,hM];rfl) (by rw [hM];exact hg3);have HCL:=H_ hcl;clear hsl hcl hg3 hgr hcur hfit hkm;go_wp2;go_ret;exact ⟨_,rfl,by rw [<-HTL.out];exact HCL.out,(HF.out.trans hfr3 fun _ _ h=>h).mono fun b _ h=>by rw [h];rfl,fun b h=>h⟩
def zje (S:St) (a b:Int):Int:=if a < 1\/b < a then 1 else if S.rev < b then 33 else if a < S.mark then 32 else 0
set_option maxHeartbeats 4000000 in
theorem znu {TA:zaq} {N:Nat} (_hT:TreeOk TA N) (w:World) (s:Nat) (S:St) (F:Nat->Prop) (hS:zal TA w s S F) (hev:S.events.length<=1099511627) (hne:1<=S.rev->0 < S.events.length) (a b:Int) :
 Calls Tryz.prog 47 #[.pointer (some ⟨s,0,none⟩),.int .i64 a,.int .i64 b] w fun e w'=>∃ v,e = .returned (.tuple #[v,.int .i64 (zje S a b)])/\SlF w' 101 13 evC v (if zje S a b=0 then S.events.filter (insB a b) else [])/\Fr No w w'/\(∀ k,v.ownBlock=some k->w.heap.size<=k):=by
 obtain ⟨t,p,ev,hp,FT,FH,A,hF⟩:=hS;have c3:=A.obj.cell 3 rfl;have c4:=A.obj.cell 4 rfl;have c5:=A.obj.cell 5 rfl;have ls:=A.obj.lt;have hes:=A.events;obtain ⟨ea,ecap,rfl,he1,he2,he3⟩:=hes.shape;have HES:=H_ hes;clear A hF hes he3;unfold zje;by_cases h1:a < 1
 · rw [if_pos (.inl h1)]
   rw [if_neg (by decide)];go_enter Tryz.func47,Tryz.ntmps47;go_wp2
   go_ret2
   exact ⟨_,rfl,SlF.nil _ _ _ _,((Fr.refl No w).alloc _).alloc _,fun k hk=>by simp [Value.ownBlock] at hk⟩
 by_cases h2:b < a
 · rw [if_pos (.inr h2)]
   rw [if_neg (by decide)];go_enter Tryz.func47,Tryz.ntmps47;go_wp2
   go_ret2
   exact ⟨_,rfl,SlF.nil _ _ _ _,((Fr.refl No w).alloc _).alloc _,fun k hk=>by simp [Value.ownBlock] at hk⟩
 rw [if_neg (by omega)]
 have hf0:Fr No w ((w.alloc (Obj.cells #[.int .i64 a] 3)).alloc (Obj.cells #[.int .i64 b] 3)):=((Fr.refl No w).alloc _).alloc _;have hba:((w.alloc (Obj.cells #[.int .i64 a] 3)).alloc (Obj.cells #[.int .i64 b] 3)).heap[w.heap.size]? = some (.cells #[.int .i64 a] 3 (0,0)):=zaj (zad _ _ _ rfl) _;have hbb:((w.alloc (Obj.cells #[.int .i64 a] 3)).alloc (Obj.cells #[.int .i64 b] 3)).heap[w.heap.size+1]? = some (.cells #[.int .i64 b] 3 (0,0)):=zad _ _ _ (by simp);by_cases h3:S.rev < b
 · rw [if_pos h3]
   rw [if_neg (by decide)];go_enter Tryz.func47,Tryz.ntmps47;go_upto_region 5 with fail;have d3:=hf0.cell0 c3;have xa:((w.alloc (Obj.cells #[.int .i64 a] 3)).alloc (Obj.cells #[.int .i64 b] 3)).cell? ⟨w.heap.size,0,none⟩=some (.int .i64 a):=(by unfold World.cell?;dsimp only;rw [hba];rfl);have xb:((w.alloc (Obj.cells #[.int .i64 a] 3)).alloc (Obj.cells #[.int .i64 b] 3)).cell? ⟨w.heap.size+1,0,none⟩=some (.int .i64 b):=(by unfold World.cell?;dsimp only;rw [hbb];rfl);have lb:=zac hbb;have la:=zac hba;have ls0:s < ((w.alloc (Obj.cells #[.int .i64 a] 3)).alloc (Obj.cells #[.int .i64 b] 3)).heap.size:=Nat.lt_of_lt_of_le ls hf0.size;generalize (w.alloc (Obj.cells #[.int .i64 a] 3)).alloc (Obj.cells #[.int .i64 b] 3)=W0 at *
   go_quiet (fail)
   have hq:=Fr.drewN No W0 nq;generalize W0.drewN nq=W1 at *;go_wp2
   go_ret2
   exact ⟨_,rfl,SlF.nil _ _ _ _,hf0.trans0 hq,fun k hk=>by simp [Value.ownBlock] at hk⟩
 rw [if_neg h3]
 by_cases h4:a < S.mark
 · rw [if_pos h4]
   rw [if_neg (by decide)];go_enter Tryz.func47,Tryz.ntmps47;go_upto_region 5 with fail;have d3:=hf0.cell0 c3;have d4:=hf0.cell0 c4;have xa:((w.alloc (Obj.cells #[.int .i64 a] 3)).alloc (Obj.cells #[.int .i64 b] 3)).cell? ⟨w.heap.size,0,none⟩=some (.int .i64 a):=(by unfold World.cell?;dsimp only;rw [hba];rfl);have xb:((w.alloc (Obj.cells #[.int .i64 a] 3)).alloc (Obj.cells #[.int .i64 b] 3)).cell? ⟨w.heap.size+1,0,none⟩=some (.int .i64 b):=(by unfold World.cell?;dsimp only;rw [hbb];rfl);have lb:=zac hbb;have la:=zac hba;have ls0:s < ((w.alloc (Obj.cells #[.int .i64 a] 3)).alloc (Obj.cells #[.int .i64 b] 3)).heap.size:=Nat.lt_of_lt_of_le ls hf0.size;generalize (w.alloc (Obj.cells #[.int .i64 a] 3)).alloc (Obj.cells #[.int .i64 b] 3)=W0 at *
   go_quiet (fail)
   have hq:=Fr.drewN No W0 nq;have e4:=hq.cell0 d4;have xa1:=hq.cell0 xa;have ls1:s < (W0.drewN nq).heap.size:=ls0;have la1:w.heap.size < (W0.drewN nq).heap.size:=la;generalize W0.drewN nq=W1 at *;clear xa xb d3 d4;go_upto_region 7 with fail
   go_quiet (fail)
   have hq2:=Fr.drewN No W1 nq;generalize W1.drewN nq=W2 at *;go_wp2
   go_ret2
   exact ⟨_,rfl,SlF.nil _ _ _ _,(hf0.trans0 hq).trans0 hq2,fun k hk=>by simp [Value.ownBlock] at hk⟩
 rw [if_neg h4]
 rw [if_pos rfl];have hmf:∀ (fn:Fn) (first cap:Array Value) (w:World),(Instr.makeFunc fn first cap).run Tryz.prog w = .ok (.func fn first cap) w:=fun _ _ _ _=>rfl;go_enter Tryz.func47,Tryz.ntmps47;go_upto_region 5 with fail;have d3:=hf0.cell0 c3;have d4:=hf0.cell0 c4;have xa:((w.alloc (Obj.cells #[.int .i64 a] 3)).alloc (Obj.cells #[.int .i64 b] 3)).cell? ⟨w.heap.size,0,none⟩=some (.int .i64 a):=(by unfold World.cell?;dsimp only;rw [hba];rfl);have xb:((w.alloc (Obj.cells #[.int .i64 a] 3)).alloc (Obj.cells #[.int .i64 b] 3)).cell? ⟨w.heap.size+1,0,none⟩=some (.int .i64 b):=(by unfold World.cell?;dsimp only;rw [hbb];rfl);have lb:=zac hbb;have la:=zac hba;have ls0:s < ((w.alloc (Obj.cells #[.int .i64 a] 3)).alloc (Obj.cells #[.int .i64 b] 3)).heap.size:=Nat.lt_of_lt_of_le ls hf0.size
 generalize (w.alloc (Obj.cells #[.int .i64 a] 3)).alloc (Obj.cells #[.int .i64 b] 3)=W0 at *
 go_quiet (fail)
 have hq:=Fr.drewN No W0 nq;have e4:=hq.cell0 d4;have xa1:=hq.cell0 xa;have xb1:=hq.cell0 xb;have ls1:s < (W0.drewN nq).heap.size:=ls0;have la1:w.heap.size < (W0.drewN nq).heap.size:=la;have hf1:=hf0.trans0 hq;generalize W0.drewN nq=W1 at *;clear xa xb d3 d4;go_upto_region 7 with fail
 go_quiet (fail)
 have hq2:=Fr.drewN No W1 nq;have e5:=(hf1.trans0 hq2).cell0 c5;have xa2:=hq2.cell0 xa1;have xb2:=hq2.cell0 xb1;have ls2:s < (W1.drewN nq).heap.size:=ls1;have hf2:=hf1.trans0 hq2;have hsz:=hf2.size;have hsE:=HES.out.fr0 hf2;generalize W1.drewN nq=W2 at *;have HSE:=H_ hsE;have HF2:=H_ hf2;have hpos:0 < S.events.length:=hne (by omega);clear xa1 xb1 e4 hsE hf1 hf2 hq hq2 hba hbb hf0
 go_wp2_with (first
  | (go_at_call 99;refine (zgw W2 _ S.events HSE.out hpos hev).mono ?_;rintro e w4 ⟨cg,co,ccap,rfl,hcl,hf4,hcg⟩)
  | (go_at_call 98
     have hlt2:w.heap.size < W2.heap.size:=World.block_lt_of_cell? _ _ xa2;have hlt3:w.heap.size+1 < W2.heap.size:=World.block_lt_of_cell? _ _ xb2;refine (znq w4 _ S.events w.heap.size (w.heap.size+1) a b (hf4.cell0 xa2) (hf4.cell0 xb2) hcl (fun e=>by simp [Value.ownBlock] at e;omega) (fun e=>by simp [Value.ownBlock] at e;omega) hev).mono ?_;rintro e w5 ⟨dv,rfl,hdv,hf5,hdo⟩;obtain ⟨da,dcap,rfl,_,_,_⟩:=hdv.shape;have hf45:Fr No W2 w5:=hf4.trans hf5 fun b hb h=>by simp [Value.ownBlock] at h;omega))
 go_ret2
 exact ⟨_,rfl,hdv,HF2.out.trans0 hf45,fun k hk=>by have:=hdo k hk;simp [Value.ownBlock] at this;omega⟩
def zbr (S:St) (rev:Int):Int:=if S.rev < rev then 33 else if rev<=S.mark then 32 else 0
set_option maxHeartbeats 4000000 in
theorem zpp {TA:zaq} (w:World) (s:Nat) (S:St) (F:Nat->Prop) (hS:zal TA w s S F) (rev:Int) (hE:zbr S rev≠0) :
 Calls Tryz.prog 50 #[.pointer (some ⟨s,0,none⟩),.int .i64 rev] w fun e w'=>e = .returned (.int .i64 (zbr S rev))/\Fr No w w':=by
 obtain ⟨t,p,ev,hp,FT,FH,a,hF⟩:=hS;have c3:=a.obj.cell 3 rfl;have c4:=a.obj.cell 4 rfl;have ls:=a.obj.lt;clear a hF;unfold zbr at *;have hbx:=zad w (Obj.cells #[.int .i64 rev] 3) _ rfl;have hf0:Fr No w (w.alloc (Obj.cells #[.int .i64 rev] 3)):=(Fr.refl No w).alloc _;by_cases h1:S.rev < rev
 · rw [if_pos h1]
   clear hE;go_enter Tryz.func50,Tryz.ntmps50;go_upto_region 3 with fail;generalize w.alloc (Obj.cells #[.int .i64 rev] 3)=W0 at hbx hf0 ⊢
   have b0:W0.cell? ⟨w.heap.size,0,none⟩=some (.int .i64 rev):=(by simp [World.cell?,hbx]);have d3:=hf0.cell0 c3;have lb:=zac hbx;have ls0:s < W0.heap.size:=Nat.lt_of_lt_of_le ls hf0.size
   go_quiet (fail)
   have hq:=Fr.drewN No W0 nq;have hf1:Fr No w (W0.drewN nq):=hf0.trans0 hq;generalize W0.drewN nq=W1 at *;go_wp2;go_ret;exact ⟨rfl,hf1⟩
 rw [if_neg h1] at hE ⊢
 by_cases h2:rev<=S.mark
 · rw [if_pos h2]
   clear hE;go_enter Tryz.func50,Tryz.ntmps50;go_upto_region 3 with fail;generalize w.alloc (Obj.cells #[.int .i64 rev] 3)=W0 at hbx hf0 ⊢
   have b0:W0.cell? ⟨w.heap.size,0,none⟩=some (.int .i64 rev):=(by simp [World.cell?,hbx]);have d3:=hf0.cell0 c3;have d4:=hf0.cell0 c4;have lb:=zac hbx;have ls0:s < W0.heap.size:=Nat.lt_of_lt_of_le ls hf0.size
   go_quiet (fail)
   have hq:=Fr.drewN No W0 nq;have b1:=hq.cell0 b0;have e4:=hq.cell0 d4;have lb1:w.heap.size < (W0.drewN nq).heap.size:=lb;have ls1:s < (W0.drewN nq).heap.size:=ls0;have hf1:Fr No w (W0.drewN nq):=hf0.trans0 hq;generalize W0.drewN nq=W1 at *;clear b0 d3 d4 lb ls0 hq hf0 hbx;go_upto_region 5 with fail
   go_quiet (fail)
   have hq:=Fr.drewN No W1 nq;have hf2:Fr No w (W1.drewN nq):=hf1.trans0 hq;generalize W1.drewN nq=W2 at hf2 hq ⊢
   go_wp2;go_ret;exact ⟨rfl,hf2⟩
 exact absurd (if_neg h2) hE
def kindN (n:Int):Int:=(n.tmod 8+8).tmod 8
theorem kindN_range (n:Int):0<=kindN n/\kindN n<=7:=by
 unfold kindN;have h1:=Int.tmod_lt_of_pos n (show (0:Int) < 8 by decide);have h2:=Int.lt_tmod_of_pos n (show (0:Int) < 8 by decide);have h3:=Int.tmod_nonneg (a:=n.tmod 8+8) 8 (by omega);have h4:=Int.tmod_lt_of_pos (n.tmod 8+8) (show (0:Int) < 8 by decide);omega
theorem zdx (w:World) (q:Cal × List Opr × List ByteArray):Calls Tryz.prog 52 #[.agg (calC q).toArray] w fun e w'=>e = .returned (.int .i64 (kindN q.1.kind))/\Fr No w w':=by
 obtain ⟨⟨p1,p2,⟨g1,g2,g3,g4,g5,g6,g7⟩,p3,p4,p5⟩,ops,keys⟩:=q;unfold calC rgC;dsimp only;unfold kindN;have h1:=Int.tmod_lt_of_pos p1 (show (0:Int) < 8 by decide);have h2:=Int.lt_tmod_of_pos p1 (show (0:Int) < 8 by decide);go_enter Tryz.func52,Tryz.ntmps52;go_wp2;go_ret;exact ⟨by rw [Int.tmod_eq_emod_of_nonneg (show 0<=p1.tmod 8+8 by omega)];rfl,(Fr.refl No w).alloc _⟩
abbrev CalQ:=Cal × List Opr × List ByteArray
def doT (S:St) (q:CalQ):St :=
 if kindN q.1.kind=4 then S else if kindN q.1.kind=5 then (if zbr S q.1.rev=0 then compS q.1.rev S else S) else if kindN q.1.kind=6 then S else if kindN q.1.kind=7 then dropS S q.2.2
 else if applyE S q.2.1=0 then applyS S q.2.1 else S
def doD (S:St) (D:Doc) (q:CalQ):Doc :=
 if kindN q.1.kind=4 then D else if kindN q.1.kind=5 then (if zbr S q.1.rev=0 then D.cut q.1.rev else D) else if kindN q.1.kind=6 then D else if kindN q.1.kind=7 then dropD S D q.2.2
 else if applyE S q.2.1=0 then applyD S D q.2.1 else D
theorem zcg {S:St} {ops:List Opr} (h:applyE S ops=0):checkE ops=0/\whenAll S ops=0:=by
 unfold applyE at h
 split at h
 · rename_i hc;exact absurd h hc
 rename_i hc;exact ⟨by simpa using hc,h⟩
theorem zgv {S:St} {rev:Int} (h:zbr S rev=0):rev<=S.rev/\S.mark < rev:=by
 unfold zbr at h
 split at h
 · cases h
 split at h
 · cases h
 omega
theorem zdt {q:CalQ} (h:fewCal q=true):(∀ o∈q.2.1,o.rg.key.size<=3000/\o.rg.end_.size<=3000/\o.value.size<=3000)/\q.2.1.length<=30/\q.2.2.length<=30/\q.1.rg.key.size<=3000/\q.1.rg.end_.size<=3000:=by
 unfold fewCal fewKey at h;simp only [Bool.and_eq_true,decide_eq_true_eq] at h;obtain ⟨⟨⟨⟨h1,h2⟩,h3⟩,h4⟩,h5⟩:=h;unfold fewOps at h1;simp only [Bool.and_eq_true,decide_eq_true_eq,List.all_eq_true] at h1;refine ⟨fun o ho=>?_,h1.1,h2,h3,h4⟩;have:=h1.2 o ho;unfold fewOp at this;simp only [Bool.and_eq_true,decide_eq_true_eq] at this;omega
theorem Good.does {k:Nat} {S:St} {D:Doc} (h:Good k S D) (hk:k<=70) {q:CalQ} (hq:fewCal q=true):Good (k+1) (doT S q) (doD S D q):=by
 obtain ⟨f1,f2,f3,f4,f5⟩:=zdt hq;unfold doT doD;by_cases h4:kindN q.1.kind=4
 · rw [if_pos h4,if_pos h4];exact h.mono (by omega)
 rw [if_neg h4,if_neg h4]
 by_cases h5:kindN q.1.kind=5
 · rw [if_pos h5,if_pos h5]
   by_cases hc:zbr S q.1.rev=0
   · rw [if_pos hc,if_pos hc]
     obtain ⟨c1,c2⟩:=zgv hc;rw [h.rev] at c1;rw [h.cpl.mark] at c2;exact (h.cut (by omega) c2 c1).mono (by omega)
   rw [if_neg hc,if_neg hc];exact h.mono (by omega)
 rw [if_neg h5,if_neg h5]
 by_cases h6:kindN q.1.kind=6
 · rw [if_pos h6,if_pos h6];exact h.mono (by omega)
 rw [if_neg h6,if_neg h6]
 by_cases h7:kindN q.1.kind=7
 · rw [if_pos h7,if_pos h7]
   exact h.drop hk q.2.2 f3
 rw [if_neg h7,if_neg h7]
 by_cases ha:applyE S q.2.1=0
 · rw [if_pos ha,if_pos ha]
   exact h.apply hk (zcg ha).1 fun o ho=>by have:=(f1 o ho).1;omega
 rw [if_neg ha,if_neg ha];exact h.mono (by omega)
theorem Good.compG {k:Nat} {S:St} {D:Doc} (h:Good k S D) (hk:k<=50000) {R:Int} (h1:S.mark < R) (h2:R<=S.rev):CompGk S R:=by
 have hm0:=h.cpl.m0;have hr:=h.rev;rw [h.cpl.mark] at h1;rw [hr] at h2;refine ⟨by omega,by rw [h.cpl.mark];exact h1,h.events_pos (by omega),ztl h.cpl.inv h.srt,h.srt,fun p hp H hH=>?_⟩;have ho:=(h.ok.hist _ _ hH).1;have hm:=h.more _ _ hH;refine ⟨(ho.comp hm (by omega) R).fits (by omega),?_⟩;obtain ⟨l,a,b⟩:=hm.fin;exact ⟨l,by omega,b⟩
theorem zpo {TA:zaq} (hT:TreeOk TA 1000000) {k:Nat} {S:St} {D:Doc} (h:Good k S D) (hk:k<=70) (w:World) (s:Nat) (F:Nat->Prop) (hS:zal TA w s S F) (v:Value) (keys:List ByteArray) (hv:SlR w 1 strC v keys)
 (hvF:0 < keys.length->∀ b,v.ownBlock=some b->¬ F b) (hl:keys.length<=30) :
 Calls Tryz.prog 57 #[.pointer (some ⟨s,0,none⟩),v] w fun e w'=>∃ ev,e = .returned (.tuple #[ev,.int .i64 0])/\∃ F',zal TA w' s (dropS S keys) F' ∧
  SlF w' 101 13 evC ev (keys.foldl (dropR (S.rev+1)) (S,[])).2/\Fr F w w'/\(∀ b,F' b->F b\/w.heap.size<=b)/\(∀ b,ev.ownBlock=some b->w.heap.size<=b/\¬ F' b):=by
 have hr:=h.rev;have hr1:=h.rev1;have hm0:=h.cpl.m0;refine zse hT (n:=20000 * k+30) (by omega) w s S F hS v keys hv hvF (by omega) (by unfold top;omega) (by unfold top;omega) fun i x hx=>?_;have hil:=(List.getElem?_eq_some_iff.1 hx).1;obtain ⟨a,b⟩:=h.drops hk keys hl i (by omega);rw [hr];refine ⟨a.ok.mono (by omega),?_,b x hx⟩;have h1:=a.ok.ev;rw [a.cpl.events,(Doc.adds_parts D _).2.2,List.length_append] at h1;omega
theorem zfn {TA:zaq} (hT:TreeOk TA 1000000) {k:Nat} {S:St} {D:Doc} (h:Good k S D) (hk:k<=70) (w:World) (s:Nat) (F:Nat->Prop) (hS:zal TA w s S F) (v:Value) (ops:List Opr) (hv:SlR w 10 opC v ops)
 (hvF:0 < ops.length->∀ b,v.ownBlock=some b->¬ F b) (hl:ops.length<=30) (hks:∀ o∈ops,o.rg.key.size<=3000) :
 Calls Tryz.prog 37 #[.pointer (some ⟨s,0,none⟩),v] w fun e w'=>∃ av ev,e = .returned (.tuple #[av,ev,.int .i64 (applyE S ops)])/\∃ F' Z,zal TA w' s (if applyE S ops=0 then applyS S ops else S) F'/\AnsR w' av Z ∧
  Z.map (·.1)=(if applyE S ops=0 then (runR (S.rev+1) ⟨S,[],[]⟩ ops).A else [])/\SlF w' 101 13 evC ev (if applyE S ops=0 then (runR (S.rev+1) ⟨S,[],[]⟩ ops).E else [])/\Fr F w w'/\(∀ b,F' b->F b\/w.heap.size<=b):=by
 have hr:=h.rev;have hr1:=h.rev1;have hm0:=h.cpl.m0;by_cases he:applyE S ops=0
 · obtain ⟨e1,e2⟩:=zcg he
   simp only [if_pos he];rw [he];refine (zua hT (n:=20000 * k+20000) (by omega) w s S F hS v ops hv hvF (by omega) (fun o ho=>by have:=hks o ho;omega) (by unfold top;omega) (by unfold top;omega) e1 e2 fun i o ho=>?_).mono ?_
   · have hil:=(List.getElem?_eq_some_iff.1 ho).1
     rw [hr];exact (h.runs hk e1 (fun o ho=>by have:=hks o ho;omega) i (by omega)).2 o ho
   rintro e w' ⟨av,ev,rfl,F',Z,a,b,c,d,f,g,_⟩
   exact ⟨av,ev,rfl,F',Z,a,b,c,d,f,g⟩
 simp only [if_neg he]
 refine (ztz hT w s S F hS v ops hv (by omega) (fun o ho=>by have:=hks o ho;omega) he).mono ?_;rintro e w' ⟨rfl,hf⟩;exact ⟨_,_,rfl,F,[],hS.fr0 hT hf,AnsR.nil _,rfl,SlF.nil _ _ _ _,hf.mono fun _ _ h=>h.elim,fun b h=>.inl h⟩
theorem zfz {TA:zaq} (hT:TreeOk TA 1000000) (hTD:TreeDl TA) {k:Nat} {S:St} {D:Doc} (h:Good k S D) (hk:k<=70) (w:World) (s:Nat) (F:Nat->Prop) (hS:zal TA w s S F) (rev:Int) :
 Calls Tryz.prog 50 #[.pointer (some ⟨s,0,none⟩),.int .i64 rev] w fun e w'=>e = .returned (.int .i64 (zbr S rev))/\∃ F',zal TA w' s (if zbr S rev=0 then compS rev S else S) F'/\Fr F w w'/\(∀ b,F' b->F b\/w.heap.size<=b):=by
 by_cases he:zbr S rev=0
 · obtain ⟨c1,c2⟩:=zgv he
   rw [if_pos he,he];exact zkb hT hTD (n:=20000 * k) (by omega) w s S F hS h.ok (by have:=h.size;omega) rev (h.compG (by omega) c2 c1)
 rw [if_neg he]
 refine (zpp w s S F hS rev he).mono ?_;rintro e w' ⟨rfl,hf⟩;exact ⟨rfl,F,hS.fr0 hT hf,hf.mono fun _ _ h=>h.elim,fun b h=>.inl h⟩
theorem zfm {TA:zaq} (hT:TreeOk TA 1000000) {k:Nat} {S:St} {D:Doc} (h:Good k S D) (hk:k<=70) (w:World) (s:Nat) (F:Nat->Prop) (hS:zal TA w s S F) (g:Rg) (hks:g.key.size<=3000) :
 Calls Tryz.prog 46 #[.pointer (some ⟨s,0,none⟩),rgV g] w fun e w'=>∃ v,e = .returned (.tuple #[v,.int .i64 (if rangeE S g=0 then ((allL S g S.rev).length:Int) else 0),.bool (decide (rangeE S g=0) && moreB S g S.rev),.int .i64 (rangeE S g)]) ∧
  SlF w' 99 6 kvC v (if rangeE S g=0 then getL S g S.rev else [])/\Fr No w w'/\(∀ b,v.ownBlock=some b->w.heap.size<=b):=by
 by_cases he:rangeE S g=0
 · simp only [he,decide_true,Bool.true_and]
   exact zka hT (n:=20000 * k) (by omega) w s S F hS h.ok (by have:=h.size;omega) g (by omega) he
 simp only [he,decide_false,Bool.false_and]
 refine (zuf hT w s S F hS g (by omega) he).mono ?_;rintro e w' ⟨rfl,hf⟩;exact ⟨_,rfl,SlF.nil _ _ _ _,hf,fun b hb=>by simp [Value.ownBlock] at hb⟩
def donesT (l:List CalQ) (i:Nat):St × Doc:=(l.take i).foldl (fun p q=>(doT p.1 q,doD p.1 p.2 q)) (newS,newD)
theorem zjg (l:List CalQ) {i:Nat} {q:CalQ} (h:l[i]? = some q):donesT l (i+1)=(doT (donesT l i).1 q,doD (donesT l i).1 (donesT l i).2 q):=by
 unfold donesT;rw [List.take_add_one,h,List.foldl_append]
 rfl
theorem zgs {l:List CalQ} (h:zco l=true):l.length<=30/\∀ q∈l,fewCal q=true:=by
 unfold zco at h;simpa [Bool.and_eq_true] using h
theorem zro {l:List CalQ} (h:zco l=true):∀ i≤ l.length,Good i (donesT l i).1 (donesT l i).2:=by
 obtain ⟨h1,h2⟩:=zgs h;intro i
 induction i with
 | zero=>intro _;exact Good.new
 | succ i ih =>
   intro hi;obtain ⟨q,hq⟩:∃ q,l[i]? = some q:=⟨_,List.getElem?_eq_getElem (by omega)⟩;rw [zjg l hq];exact (ih (by omega)).does (by omega) (h2 q (List.mem_of_getElem? hq))
theorem SlR.lt {α:Type} {f:α->List Value} {w:World} {sz:Nat} {v:Value} {L:List α} (h:SlR w sz f v L) (hf:∀ x,(f x).length=sz) (hsz:0 < sz) (hp:0 < L.length):∀ b,v.ownBlock=some b->b < w.heap.size:=by
 intro b hb;obtain ⟨a,cap,rfl,h1,h2,h3⟩:=h;obtain ⟨g,o,rfl,h4⟩:=h3 hp;obtain rfl:g=b:=by simpa [Value.ownBlock] using hb
 have hx:L[0]? = some L[0]:=List.getElem?_eq_getElem hp;have hl:0 < (f L[0]).length:=by rw [hf];exact hsz
 exact World.block_lt_of_cell? _ _ (h4 0 _ hx 0 _ (List.getElem?_eq_getElem hl))
theorem zch {k:Nat} {S:St} {D:Doc} (h:Good k S D):zam S S.T S.mark=D.kvs:=by
 have hm:=h.cpl.mark;have h1:=h.cpl.between h.srt ⟨#[]⟩ ⟨#[]⟩ (r:=D.mark) (Int.le_refl _);rw [zhd] at h1;rw [hm,h1]
 have h2:(D.at D.mark).filter (fun y=>rgB ⟨#[]⟩ ⟨#[]⟩ y.key)=D.at D.mark:=by
  rw [List.filter_eq_self];intro y _;unfold rgB;rw [znf];simp [Lib.toList_data]
 rw [h2]
 unfold Doc.at;have:(D.events.filter fun e=>decide (D.mark < e.kv.mod) && decide (e.kv.mod<=D.mark)) = []:=List.filter_eq_nil_iff.2 fun e _=>by simp <;> omega
 rw [this]
 rfl
theorem zqi (a:ByteArray):keq a a=true:=zat.2 rfl
theorem zji (l:List Kv) (x:Ev):(doneL l x).length<=l.length+1:=by
 induction l with
 | nil=>unfold doneL;split <;> simp
 | cons k l ih =>
   unfold doneL
   split
   · simp only [List.length_cons];omega
   simp only [List.length_append,List.length_cons]
   split <;> split <;> simp <;> omega
set_option maxHeartbeats 4000000 in
theorem zhm (w:World) (v:Value) (L:List Kv) (hv:SlR w 6 kvC v L) (hl:L.length<=1099511627) (key:ByteArray) :
 Calls Tryz.prog 72 #[v,.string key] w fun e w'=>e = .returned (kvV ((hasL L key).getD kv0))/\Fr No w w':=by
 obtain ⟨va,vcap,rfl,h1,h2,h3⟩:=hv.shape;have HV:=H_ hv;have HA:=H_ h3;have hb1:=zad w (Obj.cells #[.string ByteArray.empty,.string ByteArray.empty,.int .i64 0,.int .i64 0,.int .i64 0,.int .i64 0] 99) _ rfl;have HB1:=H_ hb1;have HK0:Hid (kvV kv0 = .agg #[.string ByteArray.empty,.string ByteArray.empty,.int .i64 0,.int .i64 0,.int .i64 0,.int .i64 0]):=H_ rfl;clear hv h3 hb1;go_enter Tryz.func72,Tryz.ntmps72;go_wp2
 go_loopg [5] L.length (fun g s5 wr=>∃ i:Nat,s5 = .int .i64 i/\i+g=L.length/\Hid (hasL L key=hasL (L.drop i) key)/\Hid (Fr No w wr)/\Hid (wr.heap[w.heap.size]? = some (.cells #[.string ByteArray.empty,.string ByteArray.empty,.int .i64 0,.int .i64 0,.int .i64 0,.int .i64 0] 99 (0,0))))
 case atStart=>exact ⟨0,rfl,by simp,H_ rfl,H_ ((Fr.refl No w).alloc _),HB1⟩
 case round =>
  obtain ⟨i,rfl,hi,HH,HF,HB⟩:=hrel;have lb:=zac HB.out;have bf:∀ j,wr.frozen? ⟨w.heap.size,j,none⟩=false:=fun j=>by simp [World.frozen?,HB.out]
  have b0:wr.cell? ⟨w.heap.size,0,none⟩=some (.string ByteArray.empty):=(by simp [World.cell?,HB.out]);have b1:wr.cell? ⟨w.heap.size,1,none⟩=some (.string ByteArray.empty):=(by simp [World.cell?,HB.out]);have b2:wr.cell? ⟨w.heap.size,2,none⟩=some (.int .i64 0):=(by simp [World.cell?,HB.out]);have b3:wr.cell? ⟨w.heap.size,3,none⟩=some (.int .i64 0):=(by simp [World.cell?,HB.out]);have b4:wr.cell? ⟨w.heap.size,4,none⟩=some (.int .i64 0):=(by simp [World.cell?,HB.out]);have b5:wr.cell? ⟨w.heap.size,5,none⟩=some (.int .i64 0):=(by simp [World.cell?,HB.out])
  have hst:∀ (y:Kv),Fr No w ((((((wr.setCell ⟨w.heap.size,0,none⟩ (.string y.key)).setCell ⟨w.heap.size,1,none⟩ (.string y.value)).setCell ⟨w.heap.size,2,none⟩ (.int .i64 y.create)).setCell ⟨w.heap.size,3,none⟩ (.int .i64 y.mod)).setCell ⟨w.heap.size,4,none⟩ (.int .i64 y.version)).setCell ⟨w.heap.size,5,none⟩ (.int .i64 y.lease)):=fun y =>
   (((((HF.out.setCell (p:=⟨w.heap.size,0,none⟩) (.inr (Nat.le_refl _)) _).setCell (p:=⟨w.heap.size,1,none⟩) (.inr (Nat.le_refl _)) _).setCell (p:=⟨w.heap.size,2,none⟩) (.inr (Nat.le_refl _)) _).setCell (p:=⟨w.heap.size,3,none⟩) (.inr (Nat.le_refl _)) _).setCell (p:=⟨w.heap.size,4,none⟩) (.inr (Nat.le_refl _)) _).setCell (p:=⟨w.heap.size,5,none⟩) (.inr (Nat.le_refl _)) _
  have hbl:∀ (y:Kv),((((((wr.setCell ⟨w.heap.size,0,none⟩ (.string y.key)).setCell ⟨w.heap.size,1,none⟩ (.string y.value)).setCell ⟨w.heap.size,2,none⟩ (.int .i64 y.create)).setCell ⟨w.heap.size,3,none⟩ (.int .i64 y.mod)).setCell ⟨w.heap.size,4,none⟩ (.int .i64 y.version)).setCell ⟨w.heap.size,5,none⟩ (.int .i64 y.lease)).heap[w.heap.size]? = some (.cells #[.string y.key,.string y.value,.int .i64 y.create,.int .i64 y.mod,.int .i64 y.version,.int .i64 y.lease] 99 (0,0)):=fun y=>by
   have z1:=zaa HB.out 0 (.string y.key);have z2:=zaa z1 1 (.string y.value);have z3:=zaa z2 2 (.int .i64 y.create);have z4:=zaa z3 3 (.int .i64 y.mod);have z5:=zaa z4 4 (.int .i64 y.version);have z6:=zaa z5 5 (.int .i64 y.lease);simpa using z6
  have HST:=H_ hst;have HBL:=H_ hbl;clear hst hbl
  cases gk with
  | zero =>
    have hil:¬ (i:Int) < (L.length:Int):=(by omega);have hn:(hasL L key).getD kv0=kv0:=(by rw [HH.out,List.drop_of_length_le (by omega)];rfl);have HN:=H_ hn;clear hn;go_wp2;rw [HN.out];exact bodyPost_ret (results_cell_row rfl _ _ w.heap.size 99 _ (0,0) _ rfl (HBL.out kv0) Tryz.underlying99 rfl (by kernel_rfl)) rfl ⟨rfl,HST.out kv0⟩
  | succ g =>
    have hil:(i:Int) < (L.length:Int):=(by omega);obtain ⟨x,hx⟩:∃ x,L[i]? = some x:=⟨_,List.getElem?_eq_getElem (by omega)⟩;obtain ⟨ga,oa,rfl⟩:=HA.out (by omega)
    have hd:L.drop i=x :: L.drop (i+1):=by
     obtain ⟨i1,i2⟩:=List.getElem?_eq_some_iff.1 hx;rw [<-i2];exact List.drop_eq_getElem_cons i1
    have hh:=HH.out;rw [hd] at hh;unfold hasL at hh;rw [List.find?_cons] at hh;have hua:=HV.out.fr0 HF.out;have f0:=hua.cell0 zae i hx rfl;have f1:=hua.cell zae i 1 hx rfl;have f2:=hua.cell zae i 2 hx rfl;have f3:=hua.cell zae i 3 hx rfl;have f4:=hua.cell zae i 4 hx rfl;have f5:=hua.cell zae i 5 hx rfl;have lf:=World.block_lt_of_cell? _ _ f0
    cases hk:keq x.key key with
    | true =>
      rw [hk] at hh;dsimp only at hh;have hn:(hasL L key).getD kv0=x:=(by unfold hasL;rw [hh];rfl);have HN:=H_ hn;have hk':(x.key.toList == key.toList)=true:=hk;clear hn hh hx hua hd hk HH;obtain ⟨x1,x2,x3,x4,x5,x6⟩:=x;dsimp only at f0 f1 f2 f3 f4 f5 hk';go_wp2;rw [HN.out];exact bodyPost_ret (results_cell_row rfl _ _ w.heap.size 99 _ (0,0) _ rfl (HBL.out ⟨x1,x2,x3,x4,x5,x6⟩) Tryz.underlying99 rfl (by kernel_rfl)) rfl ⟨rfl,HST.out ⟨x1,x2,x3,x4,x5,x6⟩⟩
    | false =>
      rw [hk] at hh;dsimp only at hh;have HN:Hid (hasL L key=hasL (L.drop (i+1)) key):=H_ (by unfold hasL;exact hh);have hk':(x.key.toList == key.toList)=false:=hk;clear hh hx hua hd hk HH b0 b1 b2 b3 b4 b5 bf f1 f2 f3 f4 f5;generalize x.key=xk at *;go_wp2;go_roundg g
      case rel=>exact ⟨i+1,by go_num,by omega,HN,HF,HB⟩
      case measure=>omega
end Go.Proofs.YthljnnjpmdgkoaaGreat