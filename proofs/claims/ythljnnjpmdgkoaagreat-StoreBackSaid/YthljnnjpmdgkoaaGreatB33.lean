/- Own lemmas and contracts that the claim's proof needs, laid together. The conditions stand in each. -/
import Derived.Test.YthljnnjpmdgkoaaGreatB26
import Derived.Test.YthljnnjpmdgkoaaGreatB27
import Derived.Test.YthljnnjpmdgkoaaGreatB15
import Derived.Test.YthljnnjpmdgkoaaGreatB07
import Derived.Test.YthljnnjpmdgkoaaGreatB19
import Derived.Test.YthljnnjpmdgkoaaGreatB24
import Derived.Deep.RegionHeld3
import Derived.Deep.DeepCutAuto
import Derived.BigRegion
namespace Go.Proofs.YthljnnjpmdgkoaaGreat
open Go Go.Proofs Go.RowKit
set_option maxRecDepth 100000
def bCs:ByteArray:=⟨#[99]⟩
def b3s:ByteArray:=⟨#[51]⟩
def opsAs:List Opr:=[putO bA b1,putO bB b2]
def SAs:St:=applyS newS opsAs
def SBs:St:=applyS SAs [putO bA b3s]
def gDescs:Rg:=⟨bA,bCs,0,1,false,false,true⟩
def gOlds:Rg:=⟨bA,ByteArray.empty,1,0,false,false,false⟩
theorem ap_As:applyE newS opsAs=0:=by kernel_rfl
theorem ap_Bs:applyE SAs [putO bA b3s] = 0:=by kernel_rfl
theorem zpv:∃ D,Good 1 SAs D:=⟨_,Good.new.apply (by omega) (zbl ap_As).1 (by decide)⟩
theorem zkt:∃ D,Good 2 SBs D:=by
 obtain ⟨D,h⟩:=zpv;exact ⟨_,h.apply (by omega) (zbl ap_Bs).1 (by decide)⟩
theorem zwj:SBs.rev=2:=by kernel_rfl
theorem runs_A:((runR (SAs.rev+1) ⟨SAs,[],[]⟩ [putO bA b3s]).A).map (fun a=>a.count) = [1]:=by kernel_rfl
theorem runs_E:((runR (SAs.rev+1) ⟨SAs,[],[]⟩ [putO bA b3s]).E).map (fun x=>x.prev.value) = [b1]:=by kernel_rfl
theorem zvr:rangeE SBs gDescs=0:=by kernel_rfl
theorem zvq:rangeE SBs gOlds=0:=by kernel_rfl
theorem rngs_1:(getL SBs gDescs SBs.rev).map (·.value) = [b2]:=by kernel_rfl
theorem zvs:(allL SBs gDescs SBs.rev).length=2:=by kernel_rfl
theorem zvt:moreB SBs gDescs SBs.rev=true:=by kernel_rfl
theorem rngs_2:(getL SBs gOlds SBs.rev).map (·.value) = [b1]:=by kernel_rfl
theorem zwd:zbg SBs 2=0:=by kernel_rfl
theorem zlp (w:World) (k v:ByteArray):Calls Tryz.prog 49 #[.string k,.string v] w fun e w'=>e = .returned (opV (putO k v))/\Fr No w w':=by
 go_enter Tryz.func49,Tryz.ntmps49;go_wp2;exact bodyPost_ret (results_cell_row rfl _ _ w.heap.size 94 _ (0,0) _ rfl (zad _ _ _ rfl) Tryz.underlying94 rfl (by kernel_rfl)) rfl ⟨rfl,(Fr.refl No w).alloc _⟩
theorem zua {W:World} {b:Nat} {o1 o2:Opr} {t:TypeId} (h:W.heap[b]? = some (.cells (opC o1++opC o2).toArray t (0,0))):SlR W 10 opC (.slice (some ⟨b,0,none⟩) 2 2) [o1,o2]:=by
 refine ⟨_,2,rfl,by simp,by decide,fun _=>⟨b,0,rfl,fun i x hx j u hu=>?_⟩⟩;have hj:j < 10:=(List.getElem?_eq_some_iff.1 hu).1;unfold World.cell?;simp only [h,Option.isSome_none,Bool.false_eq_true,if_false,List.getElem?_toArray]
 match i,hx with
 | 0,hx =>
   obtain rfl:o1=x:=by simpa using hx
   simp only [Nat.zero_mul,Nat.zero_add];rw [List.getElem?_append_left (by exact hj)];exact hu
 | 1,hx =>
   obtain rfl:o2=x:=by simpa using hx
   simp only [Nat.one_mul,Nat.zero_add];rw [List.getElem?_append_right (by rw [zaf];omega),zaf,Nat.add_sub_cancel_left];exact hu
 | i+2,hx=>simp at hx
theorem zub {W:World} {b:Nat} {o1:Opr} {t:TypeId} (h:W.heap[b]? = some (.cells (opC o1).toArray t (0,0))):SlR W 10 opC (.slice (some ⟨b,0,none⟩) 1 1) [o1]:=by
 refine ⟨_,1,rfl,by simp,by decide,fun _=>⟨b,0,rfl,fun i x hx j u hu=>?_⟩⟩;have hi:i=0:=by have:=(List.getElem?_eq_some_iff.1 hx).1;simp at this;omega
 subst hi;obtain rfl:o1=x:=by simpa using hx
 unfold World.cell?;simp only [h,Nat.zero_mul,Nat.zero_add,Option.isSome_none,Bool.false_eq_true,if_false];simpa using hu
theorem zvm {TA:zar} (hT:TreeOk TA 1000000) (W:World) (s p:Nat) (F0:Nat->Prop) (hS:zak TA W s st0 F0) (hp:W.heap[p]? = some (.cells (opC (putO bA b1)++opC (putO bB b2)).toArray 94 (0,0))) (np:¬ F0 p) :
 Calls Tryz.prog 37 #[.pointer (some ⟨s,0,none⟩),.slice (some ⟨p,0,none⟩) 2 2] W fun e w'=>∃ av ev F1,e = .returned (.tuple #[av,ev,.int .i64 0])/\zak TA w' s SAs F1/\Fr F0 W w'/\(∀ b,F1 b->F0 b\/W.heap.size<=b):=by
 have h:=zfb hT Good.new (by omega) W s F0 hS _ opsAs (zua hp) (fun _ b hb=>by simp [Value.ownBlock] at hb;rw [<-hb];exact np) (by decide) (by decide);rw [ap_As] at h;simp only [if_true] at h;refine h.mono ?_;rintro e w' ⟨av,ev,rfl,F1,Z,h1,h2,h3,h4,h5,h6⟩;exact ⟨av,ev,F1,rfl,h1,h5,h6⟩
theorem zvl {TA:zar} (hT:TreeOk TA 1000000) (W:World) (s p:Nat) (F0:Nat->Prop) (hS:zak TA W s SAs F0) (hp:W.heap[p]? = some (.cells (opC (putO bA b3s)).toArray 94 (0,0))) (np:¬ F0 p) :
 Calls Tryz.prog 37 #[.pointer (some ⟨s,0,none⟩),.slice (some ⟨p,0,none⟩) 1 1] W fun e w'=>∃ g o cap g' o' cap' F1,e = .returned (.tuple #[.slice (some ⟨g,o,none⟩) 1 cap,.slice (some ⟨g',o',none⟩) 1 cap',.int .i64 0])/\zak TA w' s SBs F1 ∧
  w'.cell? ⟨g,o+2,none⟩=some (.int .i64 1)/\w'.cell? ⟨g',o'+8,none⟩=some (.string b1)/\Fr F0 W w'/\(∀ b,F1 b->F0 b\/W.heap.size<=b):=by
 obtain ⟨D,hG⟩:=zpv;have h:=zfb hT hG (by omega) W s F0 hS _ [putO bA b3s] (zub hp) (fun _ b hb=>by simp [Value.ownBlock] at hb;rw [<-hb];exact np) (by decide) (by decide);rw [ap_Bs] at h;simp only [if_true] at h;refine h.mono ?_;rintro e w' ⟨av,ev,rfl,F1,Z,h1,h2,h3,h4,h5,h6⟩
 have hz:Z.map (fun q=>q.1.count) = [1]:=by
  have e1:=congrArg (List.map fun a:Ans=>a.count) h3;rw [runs_A,List.map_map] at e1;exact e1
 obtain ⟨z,rfl⟩:=List.length_eq_one_iff.1 (show Z.length=1 by have:=congrArg List.length hz;simpa using this);simp only [List.map_cons,List.map_nil,List.cons.injEq,and_true] at hz;obtain ⟨a,cap,rfl,h9,h10,h11⟩:=h2.sl.shape;obtain ⟨g,o,rfl⟩:=h11 (by simp);have hc:=h2.sl.cell zop 0 2 rfl rfl;rw [hz] at hc;have hE:=runs_E;generalize (runR (SAs.rev+1) ⟨SAs,[],[]⟩ [putO bA b3s]).E=E at h4 hE;obtain ⟨x,rfl⟩:=List.length_eq_one_iff.1 (show E.length=1 by have:=congrArg List.length hE;simpa using this);simp only [List.map_cons,List.map_nil,List.cons.injEq,and_true] at hE;obtain ⟨a',cap',rfl,_,_,h12⟩:=h4.shape;obtain ⟨g',o',rfl⟩:=h12 (by simp);have hd:=h4.cell zab 0 8 rfl rfl;rw [hE] at hd;exact ⟨g,o,cap,g',o',cap',F1,rfl,h1,by simpa using hc,by simpa using hd,h5,h6⟩
theorem zuf {TA:zar} (hT:TreeOk TA 1000000) (W:World) (s:Nat) (F:Nat->Prop) (hS:zak TA W s SBs F) :
 Calls Tryz.prog 46 #[.pointer (some ⟨s,0,none⟩),rgV gDescs] W fun e w'=>∃ g o cap,e = .returned (.tuple #[.slice (some ⟨g,o,none⟩) 1 cap,.int .i64 2,.bool true,.int .i64 0])/\w'.cell? ⟨g,o+1,none⟩=some (.string b2)/\Fr No W w':=by
 obtain ⟨D,hG⟩:=zkt;have h:=zfa hT hG (by omega) W s F hS gDescs (by decide);rw [zvr] at h;simp only [if_true,decide_true,Bool.true_and] at h;refine h.mono ?_;rintro e w' ⟨v,rfl,hv,hf,hvn⟩;rw [zvs,zvt];have hL:=rngs_1;generalize getL SBs gDescs SBs.rev=L at hv hL;obtain ⟨x,rfl⟩:=List.length_eq_one_iff.1 (show L.length=1 by have:=congrArg List.length hL;simpa using this);simp only [List.map_cons,List.map_nil,List.cons.injEq,and_true] at hL;obtain ⟨a,cap,rfl,_,_,h1⟩:=hv.shape;obtain ⟨g,o,rfl⟩:=h1 (by simp);have hc:=hv.cell zai 0 1 rfl rfl;rw [hL] at hc;exact ⟨g,o,cap,rfl,by simpa using hc,hf⟩
theorem zue {TA:zar} (hT:TreeOk TA 1000000) (W:World) (s:Nat) (F:Nat->Prop) (hS:zak TA W s SBs F) :
 Calls Tryz.prog 46 #[.pointer (some ⟨s,0,none⟩),rgV gOlds] W fun e w'=>∃ g o cap m mo,e = .returned (.tuple #[.slice (some ⟨g,o,none⟩) 1 cap,.int .i64 m,.bool mo,.int .i64 0])/\w'.cell? ⟨g,o+1,none⟩=some (.string b1)/\Fr No W w':=by
 obtain ⟨D,hG⟩:=zkt;have h:=zfa hT hG (by omega) W s F hS gOlds (by decide);rw [zvq] at h;simp only [if_true,decide_true,Bool.true_and] at h;refine h.mono ?_;rintro e w' ⟨v,rfl,hv,hf,hvn⟩;have hL:=rngs_2;generalize getL SBs gOlds SBs.rev=L at hv hL;obtain ⟨x,rfl⟩:=List.length_eq_one_iff.1 (show L.length=1 by have:=congrArg List.length hL;simpa using this);simp only [List.map_cons,List.map_nil,List.cons.injEq,and_true] at hL;obtain ⟨a,cap,rfl,_,_,h1⟩:=hv.shape;obtain ⟨g,o,rfl⟩:=h1 (by simp);have hc:=hv.cell zai 0 1 rfl rfl;rw [hL] at hc;exact ⟨g,o,cap,_,_,rfl,by simpa using hc,hf⟩
set_option maxHeartbeats 8000000 in
theorem zex {TA:zar} (hT:TreeOk TA 1000000) (hTD:TreeDl TA) (w:World):Calls Tryz.prog 16 #[] w fun e w'=>e = .returned (.bool true)/\Fr No w w':=by
 have hr1:=fun W s F hS=>zuf hT W s F hS;have hr2:=fun W s F hS=>zue hT W s F hS;unfold rgV gDescs bA bCs at hr1;unfold rgV gOlds bA at hr2;unfold b2 at hr1;unfold b1 at hr2;dsimp only at hr1 hr2;have HR1:=H_ hr1;have HR2:=H_ hr2;clear hr1 hr2;go_enter Tryz.func16,Tryz.ntmps16
 go_upto_region 4 with (first
  | (go_at_call 17;refine (zdd hT _).mono ?_;rintro e w1 ⟨s,rfl,F0,hs1,hf1,hn1⟩;have hacc:=Fr.refl No w1)
  | (go_at_call 49;refine (zlp _ _ _).mono ?_;rintro e w2 ⟨rfl,hf2⟩;replace hacc:=hacc.trans0 hf2;unfold opV putO rg0;dsimp only)
  | (go_at_call 37
     refine (zvm hT _ s _ F0 (hs1.fr0 hT (hacc.alloc _)) (zad _ _ _ rfl) (fun h=>by have:=hs1.lt hT _ h;have:=hacc.size;omega)).mono ?_;rintro e w3 ⟨av,ev,F1,rfl,hs3,hf3,hn3⟩;have hw3:Fr No w w3:=((hf1.trans0 hacc).alloc _).trans hf3 fun b hb h=>by have:=hn1 b h;omega
     have hF1:∀ b,F1 b->w.heap.size<=b:=fun b hb=>by
      rcases hn3 b hb with h | h
      · exact hn1 b h
      have h1:=(hf1.trans0 hacc).size
      simp at h;omega
     clear hs1 hf1 hn1 hf2 hf3 hn3 hacc;have hacc:=Fr.refl No w3)
  | (go_at_call 37
     refine (zvl hT _ s _ F1 (hs3.fr0 hT (hacc.alloc _)) (zad _ _ _ rfl) (fun h=>by have:=hs3.lt hT _ h;have:=hacc.size;omega)).mono ?_;rintro e w4 ⟨g,o,cap,g',o',cap',F2,rfl,hs4,hc4,hd4,hf4,hn4⟩;have hw4:Fr No w w4:=((hw3.trans0 hacc).alloc _).trans hf4 fun b hb h=>by have:=hF1 b h;omega
     have hF2:∀ b,F2 b->w.heap.size<=b:=fun b hb=>by
      rcases hn4 b hb with h | h
      · exact hF1 b h
      have h1:=(hw3.trans0 hacc).size
      simp at h;omega
     clear hs3 hf4 hn4 hacc hw3 hF1))
 go_upto_region 5 with (go_at_call 46;refine (HR1.out w4 s F2 hs4).mono ?_;rintro e w5 ⟨g1,o1,cap1,rfl,hc5,hf5⟩);go_upto_region 6 with (go_at_call 46;refine (HR2.out w5 s F2 (hs4.fr0 hT hf5)).mono ?_;rintro e w6 ⟨g2,o2,cap2,m2,mo2,rfl,hc6,hf6⟩);have hs6:=hs4.fr0 hT (hf5.trans0 hf6);have x1:=(hf5.trans0 hf6).cell0 hc4;have x2:=(hf5.trans0 hf6).cell0 hd4;have x3:=hf6.cell0 hc5;have hw6:Fr No w w6:=(hw4.trans0 hf5).trans0 hf6;have l1:=World.block_lt_of_cell? _ _ x1;have l2:=World.block_lt_of_cell? _ _ x2;have l3:=World.block_lt_of_cell? _ _ x3;have l4:=World.block_lt_of_cell? _ _ hc6;obtain ⟨D,hG⟩:=zkt;have hcm:=zfm hT hTD hG (by omega) w6 s F2 hs6 2;rw [zwd] at hcm;have HS6:=H_ hs6;have HCM:=H_ hcm;have HF2:=H_ hF2;have HW6:=H_ hw6;clear hs4 hc4 hd4 hc5 hf5 hf6 hw4 hs6 hcm hF2 hw6;unfold b1 at x2
 go_wp2_with (first
  | (go_at_call 19;refine (zjg w6 s SBs F2 HS6.out).mono ?_;rintro e w9 ⟨rfl,rfl⟩;rw [zwj])
  | (go_at_call 50;refine HCM.out.mono ?_;rintro e w10 ⟨rfl,F10,_,hf10,_⟩))
 go_ret;exact ⟨rfl,HW6.out.trans hf10 fun b hb h=>by have:=HF2.out b h;omega⟩
theorem zvb (x:Ev):∀ u∈evC x,u.oneCell'=true:=fun u hu=>zth (L:=[x]) (by simpa using hu)
theorem zru {X:World} {b:Nat} {a0 a1 a2 a3:Value} (hk:X.heap[b]? = some (.cells #[a0,a1,a2,a3] 42 (0,0))) (r m kv ev:Value) :
 ∃ Z,((((X.setCell ⟨b,0,none⟩ r).setCell ⟨b,1,none⟩ m).setCell ⟨b,2,none⟩ kv).setCell ⟨b,3,none⟩ ev)=Z/\Z.heap[b]? = some (.cells #[r,m,kv,ev] 42 (0,0))/\Fr (fun x=>x=b) X Z:=by
 have z1:=zaa hk 0 r;have z2:=zaa z1 1 m;have z3:=zaa z2 2 kv;have z4:=zaa z3 3 ev;refine ⟨_,rfl,by rw [z4];simp,((((Fr.refl (fun x=>x=b) X).setAt 0 r).setAt 1 m).setAt 2 kv).setAt 3 ev⟩
def stateV (r m:Int) (kv ev:Value):Value:=.agg #[.int .i64 r,.int .i64 m,kv,ev]
set_option maxHeartbeats 8000000 in
theorem zoq {TA:zar} {N:Nat} (hT:TreeOk TA N) {n:Nat} (hn:n<=1099511627) (w:World) (s:Nat) (S:St) (F:Nat->Prop) (hS:zak TA w s S F) (hok:StOk n S) (hN:S.T.length<=1099511627) :
 Calls Tryz.prog 23 #[.pointer (some ⟨s,0,none⟩)] w fun e w'=>∃ kv ev,e = .returned (stateV S.rev S.mark kv ev)/\SlF w' 99 6 kvC kv (zan S S.T S.mark)/\SlF w' 101 13 evC ev S.events/\Fr No w w'/\(∀ b,kv.ownBlock=some b->w.heap.size<=b)/\(∀ b,ev.ownBlock=some b->w.heap.size<=b):=by
 have hhad:=fun W hW at_ H hH=>zik hT hn W s S F hW hok at_ S.mark H hH;have hSA:=H_ hS;obtain ⟨t,p,ev,hp,FT,FH,a,hF⟩:=hS;have c0:=a.obj.cell 0 rfl;have c3:=a.obj.cell 3 rfl;have c4:=a.obj.cell 4 rfl;have c5:=a.obj.cell 5 rfl;have ls:=a.obj.lt;have hes:=a.events;have hevl:=hok.ev;have hlen:=fun W (h:Fr No w W)=>hT.len (w:=W) (t:=t) (T:=S.T) (F:=FT) (hT.fr a.tree h fun _ _ s=>s);have hrng:=fun W (h:Fr No w W)=>hT.range (w:=W) (t:=t) (T:=S.T) (F:=FT) ⟨#[]⟩ ⟨#[]⟩ (hT.fr a.tree h fun _ _ s=>s);simp only [zgp] at hrng;have HLEN:=H_ hlen;have HRNG:=H_ hrng;have HH:=H_ hhad;have HOk:=H_ hok.id;have HES:=H_ hes;clear a hF hes hlen hrng hhad;go_enter Tryz.func23,Tryz.ntmps23;go_upto_region 3 with fail
 have hf0:Fr No w (w.alloc (Obj.cells #[.int .i64 0,.int .i64 0,.slice none 0 0,.slice none 0 0] 42)):=(Fr.refl No w).alloc _;have hb0:=zad w (Obj.cells #[.int .i64 0,.int .i64 0,.slice none 0 0,.slice none 0 0] 42) _ rfl;generalize w.alloc (Obj.cells #[.int .i64 0,.int .i64 0,.slice none 0 0,.slice none 0 0] 42)=W0 at *;have d3:=hf0.cell0 c3;have d4:=hf0.cell0 c4;have ls0:s < W0.heap.size:=Nat.lt_of_lt_of_le ls hf0.size
 go_region
 go_upto_region 4 with fail;have hb1:((W0.alloc (Obj.cells #[.int .i64 S.rev,.int .i64 S.mark,.slice none 0 0,.slice none 0 0] 42)).drew).heap[W0.heap.size]? = some (.cells #[.int .i64 S.rev,.int .i64 S.mark,.slice none 0 0,.slice none 0 0] 42 (0,0)):=zad _ _ _ rfl;have hb01:((W0.alloc (Obj.cells #[.int .i64 S.rev,.int .i64 S.mark,.slice none 0 0,.slice none 0 0] 42)).drew).heap[w.heap.size]? = some (.cells #[.int .i64 0,.int .i64 0,.slice none 0 0,.slice none 0 0] 42 (0,0)):=zaj hb0 _;have hf1:Fr No w ((W0.alloc (Obj.cells #[.int .i64 S.rev,.int .i64 S.mark,.slice none 0 0,.slice none 0 0] 42)).drew):=(hf0.alloc _).drew;have lw0:=zac hb0;clear d3 d4 hf0 hb0;generalize (W0.alloc (Obj.cells #[.int .i64 S.rev,.int .i64 S.mark,.slice none 0 0,.slice none 0 0] 42)).drew=W1 at *;have d0:=hf1.cell0 c0
 have ls1:s < W1.heap.size:=Nat.lt_of_lt_of_le ls hf1.size
 go_region_held3 (fun W=>W.cell? ⟨s,0,none⟩=some (.pointer (some ⟨t,0,none⟩)))
  (first | assumption | exact hf7.cell0 d0)
  (first
    | (go_at_call 61;refine (HLEN.out _ (hf1.trans0 (by (repeat (first | with_reducible exact Fr.refl _ _ | with_reducible refine Fr.drew ?_));done))).mono ?_;rintro e w' ⟨rfl,rfl⟩)
    | (go_at_call 60;refine (HRNG.out _ (hf1.trans0 (by (repeat (first | with_reducible exact Fr.refl _ _ | with_reducible refine Fr.drew ?_));done))).mono ?_;rintro e w7 ⟨pv,rfl,hpv,hf7,hpn⟩;obtain ⟨pa,pcap,rfl,hp1,hp2,hp3⟩:=hpv.shape))
 have hf17:Fr No W1 w7:=(by first | exact hf7 | exact (Fr.refl No W1).drew.trans0 hf7);have hb7:=hf17.heap hb1 id;have hb07:=hf17.heap hb01 id;have hf07:Fr No w w7:=hf1.trans0 hf17;have hs17:=hf17.size;have l1:=zac hb1;have hpn7:∀ b,(Value.slice pa S.T.length pcap).ownBlock=some b->W1.heap.size<=b:=fun b hb=>by have:=hpn b hb;have h':W1.heap.size<=b:=this;omega
 have HB7:=H_ hb7;have HB07:=H_ hb07;have HF7:=H_ hf07;have HPV:=H_ hpv;have HPN:=H_ hpn7;have HP3:=H_ hp3;have hST:∃ St1:Nat,W0.heap.size=St1/\w.heap.size < St1/\St1 < w7.heap.size:=⟨_,rfl,lw0,by omega⟩;obtain ⟨sb,hsb,hsb1,hsb2⟩:=hST;rw [hsb] at HB7;have hsb3:sb < W1.heap.size:=by omega
 clear hb7 hb07 hf07 hpv hpn7 hp3 hb1 hb01 hpn hf7 hf17 d0;obtain ⟨i0,hi0,hz0,hz1,hz2⟩:=info_parts info57;have hcap:S.T.length<=1099511627:=hN;have HOK2:=H_ hok;rw [hsb];go_wp2
 go_loopg [31] S.T.length (fun g s31 wr=>∃ (i:Nat) (o:Value),s31 = .int .i64 i/\i+g=S.T.length/\Hid (wr.heap[sb]? = some (.cells #[.int .i64 S.rev,.int .i64 S.mark,o,.slice none 0 0] 42 (0,0)))/\Hid (SlF wr 99 6 kvC o (zan S (S.T.take i) S.mark))/\Hid (Fr (fun b=>b=sb) w7 wr)/\Hid (∀ b,o.ownBlock=some b->w7.heap.size<=b))
 case atStart=>exact ⟨0,_,rfl,by simp,HB7,H_ (SlF.nil _ _ _ _),H_ (Fr.refl _ _),H_ (by simp [Value.ownBlock])⟩
 case round =>
  obtain ⟨i,o,rfl,hi,HBR,HO,HFR,HOn⟩:=hrel;have lsb:=zac HBR.out;have hfw:Fr No w wr:=HF7.out.trans HFR.out fun b hb e=>by have e':b=sb:=e;omega
  have HFW:=H_ hfw;have r0:=hfw.cell0 c0;have r4:=hfw.cell0 c4;have r5:=hfw.cell0 c5;have lsr:s < wr.heap.size:=Nat.lt_of_lt_of_le ls hfw.size;have b2:=cellAt HBR.out 2 rfl;have b3:=cellAt HBR.out 3 rfl;have bfz:∀ j,wr.frozen? ⟨sb,j,none⟩=false:=fun j=>by unfold World.frozen?;dsimp only;rw [HBR.out];simp
  obtain ⟨oa,ocap,rfl,ho1,ho2,ho3⟩:=HO.out.shape;clear ho3 hfw
  cases gk with
  | zero =>
    have hil:¬ (i:Int) < (S.T.length:Int):=(by omega);go_upto_region 11 with fail;have hti:S.T.take i=S.T:=List.take_of_length_le (by omega);rw [hti] at HO HOn ho1 b2 HBR;obtain ⟨j0,hj0,hy0,hy1,hy2⟩:=info_parts info73;have hnl:=hok.ev;have hwd:=HFW.out.drew;have hsE:=HES.out.fr0 hwd;obtain ⟨ea,ecap,rfl,he1,he2,he3⟩:=hsE.shape;have HSE:=H_ hsE;have HOo:=H_ (show (Value.slice oa (zan S S.T S.mark).length ocap).ownBlock≠some sb from fun h=>by have:=HOn.out sb h;omega);clear hsE he3 hwd
    go_region_law (refine zbh rfl _ _ 28 rfl 101 j0 _ 13 136 Tryz.underlying28 hj0 hy0 hy1 hy2 rfl (by decide) zab zvb (.slice none 0 0) (.slice ea S.events.length ecap) [] S.events rfl rfl (SlF.nil _ _ _ _) HSE.out (by unfold maxLen;simp;try omega) (by simp;try omega) ?_;intro v4 w4 hs4 hf4 hb4;obtain ⟨va,vcap,rfl,_,_,_⟩:=hs4.shape;have hq4:Fr No wr.drew w4:=hf4.mono (fun b _ h=>by simp [Value.ownBlock] at h);have hb4':=hq4.heap (show wr.drew.heap[sb]? = _ from HBR.out) id;have v3:w4.cell? ⟨sb,3,none⟩=some (.slice none 0 0):=(by simp [World.cell?,hb4']);have v3f:w4.frozen? ⟨sb,3,none⟩=false:=(by simp [World.frozen?,hb4']);have l4:=zac hb4';have HS4:=H_ hs4;have HQ4:=H_ hq4;have HB4:=H_ hb4';have HBN:=H_ hb4;clear hs4 hf4 hb4 hq4 hb4')
    all_goals
     have hset:=zaa HB4.out 3 (.slice va S.events.length vcap);have hfs:Fr (fun b=>b=sb) w4 (w4.setCell ⟨sb,3,none⟩ (.slice va S.events.length vcap)):=(Fr.refl _ w4).setAt 3 _;have hb0r:=HFR.out.heap HB07.out (fun e=>by have e':w.heap.size=sb:=e;omega);have hb04:=HQ4.out.heap (show wr.drew.heap[w.heap.size]? = _ from hb0r) (fun h=>h);have hb05:=hfs.heap hb04 (fun e=>by have e':w.heap.size=sb:=e;omega)
     have hev5:=HS4.out.fr hfs fun b hb e=>by
      have e':b=sb:=e;have h1:=HBN.out b hb;rcases h1 with h1 | h1
      · simp [Value.ownBlock] at h1
      have h2:wr.heap.size<=b:=h1
      omega
     have hkv5:=((HO.out.fr0 (Fr.refl No wr).drew).fr0 HQ4.out).fr hfs fun b hb e=>by
      have e':b=sb:=e;exact HOo.out (by rw [<-e'];exact hb)
     have hq5:Fr No w (w4.setCell ⟨sb,3,none⟩ (.slice va S.events.length vcap)):=(HFW.out.drew.trans0 HQ4.out).trans hfs fun b hb e=>by
      have e':b=sb:=e;omega
     generalize w4.setCell ⟨sb,3,none⟩ (.slice va S.events.length vcap)=W5 at *;have hst:∃ row,W5.heap[sb]? = some (.cells row 42 (0,0))/\row = #[.int .i64 S.rev,.int .i64 S.mark,.slice oa (zan S S.T S.mark).length ocap,.slice va S.events.length vcap]:=⟨_,hset,by simp⟩;obtain ⟨row,hset,rfl⟩:=hst;obtain ⟨s0,s1,s2,s3⟩:=cells4 hset;obtain ⟨t0,t1,t2,t3⟩:=cells4 hb05;have tf:∀ i,W5.frozen? ⟨w.heap.size,i,none⟩=false:=fun i=>by simp [World.frozen?,hb05]
     have lt5:=zac hb05;have lb5:=zac hset;obtain ⟨Z,hZ,hz6,hzf⟩:=zru hb05 (.int .i64 S.rev) (.int .i64 S.mark) (.slice oa (zan S S.T S.mark).length ocap) (.slice va S.events.length vcap);have HKV5:=H_ hkv5;have HEV5:=H_ hev5;have HQ5:=H_ hq5;have HZ:=H_ hZ;have HZ6:=H_ hz6;have HZF:=H_ hzf;clear hset hfs hb0r hb04 hb05 hev5 hkv5 hq5 hZ hz6 hzf v3 v3f l4;go_wp2;rw [HZ.out];have hsz:=HFW.out.size;refine bodyPost_ret (results_cell_row rfl _ _ w.heap.size 42 _ (0,0) _ rfl HZ6.out Tryz.underlying42 rfl (by kernel_rfl)) rfl ⟨.slice oa (zan S S.T S.mark).length ocap,.slice va S.events.length vcap,rfl,?_,?_,?_,fun b hb=>?_,fun b hb=>?_⟩
     · refine HKV5.out.fr HZF.out fun b hb e=>?_
       have e':b=w.heap.size:=e;have h1:=HOn.out b hb;omega
     · refine (by simpa using HEV5.out:SlF W5 101 13 evC (.slice va S.events.length vcap) S.events).fr HZF.out fun b hb e=>?_
       have e':b=w.heap.size:=e;rcases HBN.out b hb with h1 | h1
       · simp [Value.ownBlock] at h1
       have h2:wr.heap.size<=b:=h1
       omega
     · exact HQ5.out.trans HZF.out fun b hb e=>by
        have e':b=w.heap.size:=e;omega
     · have h1:=HOn.out b hb
       omega
     rcases HBN.out b hb with h1 | h1
     · simp [Value.ownBlock] at h1
     have h2:wr.heap.size<=b:=h1
     omega
  | succ g =>
    have hil:(i:Int) < (S.T.length:Int):=(by omega);obtain ⟨gb,go,rfl⟩:=HP3.out (by omega);obtain ⟨q,hq⟩:∃ q,S.T[i]? = some q:=⟨_,List.getElem?_eq_getElem (by omega)⟩;have hslr:=HPV.out.fr HFR.out (fun b hb e=>by have e':b=sb:=e;have:=HPN.out b hb;omega);have x0:=hslr.cell0 zae i hq rfl;have x1:=hslr.cell zae i 1 hq rfl;obtain ⟨H,hH⟩:=HOk.out q (List.mem_of_getElem? hq);have hone:oneL S S.mark q=if (hadH H S.mark).2 then some (hadH H S.mark).1 else none:=(by unfold oneL;rw [hH])
    have hstep:zan S (S.T.take (i+1)) S.mark=zan S (S.T.take i) S.mark++(oneL S S.mark q).toList:=by
     unfold zan;rw [List.take_add_one,hq,List.filterMap_append];cases h:oneL S S.mark q <;> simp [h]
    have HST:=H_ hstep;have HON:=H_ hone;have HPH:=H_ hH;have HQ:=H_ hq;clear hstep hone hH hq hslr;rcases hr:hadH H S.mark with ⟨⟨r1,r2,r3,r4',r5',r6⟩,rb⟩
    rw [hr] at HON;have HR:=H_ hr;clear hr;have hob:(zan S (S.T.take i) S.mark).length<=S.T.length:=Nat.le_trans (List.length_filterMap_le _ _) (by simp;omega);go_upto_region 7 with fail;have hk7:=zad wr (Obj.cells #[.string q.1,.int .i64 q.2] 122) _ rfl;have hfa:Fr No wr (wr.alloc (Obj.cells #[.string q.1,.int .i64 q.2] 122)):=(Fr.refl No wr).alloc _;generalize wr.alloc (Obj.cells #[.string q.1,.int .i64 q.2] 122)=W2 at *;have k1:=cellAt hk7 1 rfl;have k4:=hfa.cell0 r4;have lk:=zac hk7;have lsk:s < W2.heap.size:=Nat.lt_of_lt_of_le lsr hfa.size;have HFA:=H_ hfa;clear hfa hk7;have hfZ:Fr No W2 (W2.alloc (Obj.cells #[.string ⟨#[]⟩,.string ⟨#[]⟩,.int .i64 0,.int .i64 0,.int .i64 0,.int .i64 0] 99)):=(Fr.refl No W2).alloc _
    have hzA:(W2.alloc (Obj.cells #[.string ⟨#[]⟩,.string ⟨#[]⟩,.int .i64 0,.int .i64 0,.int .i64 0,.int .i64 0] 99)).heap[W2.heap.size]? = some (.cells #[.string ⟨#[]⟩,.string ⟨#[]⟩,.int .i64 0,.int .i64 0,.int .i64 0,.int .i64 0] 99 (0,0)):=zad _ _ _ rfl;have kZ4:=hfZ.cell0 k4;have kZ1:=hfZ.cell0 k1;have b1:W2.cell? ⟨s,4,none⟩=some (.int .i64 S.mark)/\W2.cell? ⟨wr.heap.size,1,none⟩=some (.int .i64 q.2):=⟨k4,k1⟩;have b2:W2.drew.cell? ⟨s,4,none⟩=some (.int .i64 S.mark)/\W2.drew.cell? ⟨wr.heap.size,1,none⟩=some (.int .i64 q.2):=⟨k4,k1⟩;have b3:=And.intro kZ4 kZ1
    have b4:(W2.alloc (Obj.cells #[.string ⟨#[]⟩,.string ⟨#[]⟩,.int .i64 0,.int .i64 0,.int .i64 0,.int .i64 0] 99)).drew.cell? ⟨s,4,none⟩=some (.int .i64 S.mark)/\(W2.alloc (Obj.cells #[.string ⟨#[]⟩,.string ⟨#[]⟩,.int .i64 0,.int .i64 0,.int .i64 0,.int .i64 0] 99)).drew.cell? ⟨wr.heap.size,1,none⟩=some (.int .i64 q.2):=⟨kZ4,kZ1⟩;have h1:=hSA.out.fr0 hT (HFW.out.trans0 HFA.out);have h2:=h1.fr0 hT (Fr.refl No W2).drew;have h3:=h1.fr0 hT hfZ;have h4:=h3.fr0 hT (Fr.refl No _).drew;have C1:=H_ (HH.out _ h1 q.2 H HPH.out);have C2:=H_ (HH.out _ h2 q.2 H HPH.out);have C3:=H_ (HH.out _ h3 q.2 H HPH.out);have C4:=H_ (HH.out _ h4 q.2 H HPH.out);have HZA:=H_ hzA;have HFZ:=H_ hfZ;clear h1 h2 h3 h4 hzA hfZ
    go_cut [6,7] (fun s6 s7 wx=>∃ b:Nat,s6 = .pointer (some ⟨b,0,none⟩)/\s7 = .bool rb/\Hid (wx.heap[b]? = some (.cells #[.string r1,.string r2,.int .i64 r3,.int .i64 r4',.int .i64 r5',.int .i64 r6] 99 (0,0)))/\Hid (Fr No W2 wx))
    case first =>
     go_region_held3 (fun W=>W.cell? ⟨s,4,none⟩=some (.int .i64 S.mark)/\W.cell? ⟨wr.heap.size,1,none⟩=some (.int .i64 q.2))
      (first | with_reducible exact b1 | with_reducible exact b2 | with_reducible exact b3 | with_reducible exact b4 | with_reducible exact kw | with_reducible exact kv | with_reducible exact ku | with_reducible exact kt | with_reducible exact kwd | with_reducible exact kvd | with_reducible exact kud | with_reducible exact ktd)
      (first
        | (go_at_call 62;first | refine C1.out.mono ?_ | refine C2.out.mono ?_
           rintro e w3 ⟨rfl,hf3⟩;rw [HR.out];unfold zce kvV;have kw:w3.cell? ⟨s,4,none⟩=some (.int .i64 S.mark)/\w3.cell? ⟨wr.heap.size,1,none⟩=some (.int .i64 q.2):=⟨hf3.cell0 k4,hf3.cell0 k1⟩;have hfv:Fr No w3 (w3.alloc (Obj.cells #[.string ⟨#[]⟩,.string ⟨#[]⟩,.int .i64 0,.int .i64 0,.int .i64 0,.int .i64 0] 99)):=(Fr.refl No w3).alloc _;have kv:=And.intro (hfv.cell0 kw.1) (hfv.cell0 kw.2);have hqd:Fr No w3 w3.drew:=(Fr.refl No w3).drew;have kwd:=And.intro (hqd.cell0 kw.1) (hqd.cell0 kw.2);have kvd:=And.intro (hfv.drew.cell0 kw.1) (hfv.drew.cell0 kw.2);have hfu:Fr No w3 (w3.alloc (Obj.cells #[.string r1,.string r2,.int .i64 r3,.int .i64 r4',.int .i64 r5',.int .i64 r6] 99)):=(Fr.refl No w3).alloc _;have ku:=And.intro (hfu.cell0 kw.1) (hfu.cell0 kw.2);have kud:=And.intro (hfu.drew.cell0 kw.1) (hfu.drew.cell0 kw.2)
           have HQ3:Hid (Fr No W2 w3):=by first | exact H_ hf3 | exact H_ ((Fr.refl No W2).drew.trans0 hf3))
        | (go_at_call 62;first | refine C3.out.mono ?_ | refine C4.out.mono ?_
           rintro e w3 ⟨rfl,hf3⟩;rw [HR.out];unfold zce kvV;have kw:w3.cell? ⟨s,4,none⟩=some (.int .i64 S.mark)/\w3.cell? ⟨wr.heap.size,1,none⟩=some (.int .i64 q.2):=⟨hf3.cell0 kZ4,hf3.cell0 kZ1⟩;have hz3:w3.heap[W2.heap.size]? = some (.cells #[.string ⟨#[]⟩,.string ⟨#[]⟩,.int .i64 0,.int .i64 0,.int .i64 0,.int .i64 0] 99 (0,0)):=hf3.heap HZA.out (fun h=>h);obtain ⟨z0,z1,z2,z3,z4,z5⟩:=cells6 hz3;have zf:∀ i,w3.frozen? ⟨W2.heap.size,i,none⟩=false:=fun i=>by unfold World.frozen?;dsimp only;rw [hz3];simp
           have lz3:=zac hz3;have hfs:Fr (fun b=>b=W2.heap.size) w3 ((((((w3.setCell ⟨W2.heap.size,0,none⟩ (.string r1)).setCell ⟨W2.heap.size,1,none⟩ (.string r2)).setCell ⟨W2.heap.size,2,none⟩ (.int .i64 r3)).setCell ⟨W2.heap.size,3,none⟩ (.int .i64 r4')).setCell ⟨W2.heap.size,4,none⟩ (.int .i64 r5')).setCell ⟨W2.heap.size,5,none⟩ (.int .i64 r6)):=((((((Fr.refl _ w3).setAt 0 _).setAt 1 _).setAt 2 _).setAt 3 _).setAt 4 _).setAt 5 _;have kt:=And.intro (hfs.cell kw.1 (fun e=>by have e':s=W2.heap.size:=e;omega)) (hfs.cell kw.2 (fun e=>by have e':wr.heap.size=W2.heap.size:=e;omega));have hqd:Fr No w3 w3.drew:=(Fr.refl No w3).drew;have kwd:=And.intro (hqd.cell0 kw.1) (hqd.cell0 kw.2)
           have ktd:=And.intro (hfs.drew.cell kw.1 (fun e=>by have e':s=W2.heap.size:=e;omega)) (hfs.drew.cell kw.2 (fun e=>by have e':wr.heap.size=W2.heap.size:=e;omega));have HQ3:Hid (Fr No W2 w3):=(by first | exact H_ (HFZ.out.trans0 hf3) | exact H_ (HFZ.out.drew.trans0 hf3));have HZ3:=H_ hz3;clear hz3))
     · go_wp2
       go_meet
       case rel=>exact ⟨_,rfl,rfl,H_ (zad _ _ _ rfl),H_ (HQ3.out.alloc _)⟩
     obtain ⟨Z,hZ,hz6,hzf⟩:=zic (w:=W2) HZ3.out ⟨r1,r2,r3,r4',r5',r6⟩
     dsimp only at hZ hz6;rw [hZ];go_wp2;go_meet
     case rel=>exact ⟨_,rfl,rfl,H_ hz6,H_ (hzf HQ3.out (Nat.le_refl _))⟩
    case rest =>
     obtain ⟨b,rfl,rfl,HBK,HX⟩:=hcut;have hfc:Fr No wr wc:=HFA.out.trans0 HX.out;have HFC:=H_ hfc;have hbc:=hfc.heap HBR.out id;have lbk:=zac HBK.out;have lsc:=zac hbc;have e2:=cellAt hbc 2 rfl;have efz:∀ j,wc.frozen? ⟨sb,j,none⟩=false:=fun j=>by unfold World.frozen?;dsimp only;rw [hbc];simp
     obtain ⟨y0,y1,y2,y3,y4,y5⟩:=cells6 HBK.out;have HBC:=H_ hbc;have HSO:=H_ (HO.out.fr0 hfc);clear hfc hbc x0 x1 k4 k1 kZ4 kZ1 b1 b4 lk lsk r0 r4 r5 b2 b3 bfz;cases rb
     · have HE:Hid (zan S (S.T.take (i+1)) S.mark=zan S (S.T.take i) S.mark):=H_ (by rw [HST.out,HON.out];simp)
       go_wp2;go_roundg g
       case rel=>exact ⟨i+1,_,by go_num,by omega,HBC,H_ (by rw [HE.out];exact HSO.out),H_ (HFR.out.trans0 HFC.out),HOn⟩
       case measure=>omega
     have HE:Hid (zan S (S.T.take (i+1)) S.mark=zan S (S.T.take i) S.mark++[⟨r1,r2,r3,r4',r5',r6⟩]):=H_ (by rw [HST.out,HON.out];simp)
     have hnew:=zay wc (kvC ⟨r1,r2,r3,r4',r5',r6⟩) 99 (0,0);have hob2:(Value.slice oa (zan S (S.T.take i) S.mark).length ocap).ownBlock≠some sb:=fun h=>by have:=HOn.out sb h;omega
     have HOB:=H_ hob2;clear hob2;go_wp2_with (at_builtin;refine zas rfl _ _ 27 rfl 99 i0 _ 6 64 Tryz.underlying27 hi0 hz0 hz1 hz2 rfl (by decide) _ (zan S (S.T.take i) S.mark) rfl (HSO.out.alloc _) wc.heap.size 1 (⟨r1,r2,r3,r4',r5',r6⟩:Kv) rfl hnew rfl ?c1 ?c2 ?c3 ?_)
     case c1=>intro u hu;simp [kvC] at hu;rcases hu with rfl | rfl | rfl | rfl | rfl | rfl <;> rfl
     case c2=>unfold maxLen;omega
     case c3=>omega
     intro g1 o' cap w4 hs4 hg4 hb4 hlt4;have hf4:Fr (fun k=>(Value.slice oa (zan S (S.T.take i) S.mark).length ocap).ownBlock=some k) wc w4:=((Fr.refl _ wc).alloc _).grown hg4 fun k hk=>.inl hk;have hb4':=hf4.heap HBC.out HOB.out;have v2:=cellAt hb4' 2 rfl;have v2f:∀ j,w4.frozen? ⟨sb,j,none⟩=false:=fun j=>by unfold World.frozen?;dsimp only;rw [hb4'];simp
     have l4:=zac hb4'
     have hg1:w7.heap.size<=g1:=by
      rcases hb4 with e | e
      · exact HOn.out _ e
      have h1:=HFR.out.size
      have h2:=HFC.out.size
      try simp at e
      omega
     have HS4:=H_ hs4;have HF4:=H_ hf4;have HB4:=H_ hb4';clear hs4 hg4 hb4 hnew hf4 hb4';go_wp2;go_roundg g
     case rel =>
      have hset:=zaa HB4.out 2 (.slice (some ⟨g1,o',none⟩) ((zan S (S.T.take i) S.mark).length+1) cap);have hfs:Fr (fun b=>b=sb) w4 (w4.setCell ⟨sb,2,none⟩ (.slice (some ⟨g1,o',none⟩) ((zan S (S.T.take i) S.mark).length+1) cap)):=(Fr.refl _ w4).setAt 2 _
      have hsl4:=HS4.out.fr hfs fun b hb e=>by
       have e':b=sb:=e;obtain rfl:g1=b:=by simpa [Value.ownBlock] using hb
       omega
      refine ⟨i+1,.slice (some ⟨g1,o',none⟩) ((zan S (S.T.take i) S.mark).length+1) cap,by go_num,by omega,H_ (by rw [hset];simp),H_ (by rw [HE.out];simpa using hsl4),H_ (((HFR.out.trans0 HFC.out).trans HF4.out fun b hb h=>?_).trans hfs fun b hb e=>e),H_ fun b hb=>?_⟩
      · have:=HOn.out b h;omega
      obtain rfl:g1=b:=by simpa [Value.ownBlock] using hb
      exact hg1
     case measure=>omega
end Go.Proofs.YthljnnjpmdgkoaaGreat