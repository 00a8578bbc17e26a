/- Own lemmas and contracts that the claim's proof needs, laid together. The conditions stand in each. -/
import Derived.Test.YthljnnjpmdgkoaaN05
import Derived.Test.YthljnnjpmdgkoaaN06
import Derived.Test.YthljnnjpmdgkoaaN00
import Derived.StillTailTactics
import Derived.Deep.RegionLaw
namespace Go.Proofs.Ythljnnjpmdgkoaa
open Go Go.Proofs Go.RowKit
set_option maxRecDepth 100000
theorem Sl.inner {w:World} {e:TypeId} {sz:Nat} {g o n cap:Nat} {xs:List Value} (h:Sl w e sz (.slice (some ⟨g,o,none⟩) n cap) n xs):∃ cur,w.heap[g]? = some (.cells cur e (0,0))/\n<=cap/\cap<=maxLen/\o+cap * sz<=cur.size/\(cur.toList.drop o).take (n * sz)=xs:=by
 rcases h.2 with ⟨h0,_⟩ | ⟨g',o',cap',cur,hv,hg,h1,h2,h3,h4⟩
 · cases h0
 cases hv
 exact ⟨cur,hg,h1,h2,h3,h4⟩
theorem SlF.inner {α:Type} {f:α->List Value} {w:World} {e sz g o cap:Nat} {L:List α} (h:SlF w e sz f (.slice (some ⟨g,o,none⟩) L.length cap) L):∃ cur,w.heap[g]? = some (.cells cur e (0,0))/\L.length<=cap/\cap<=maxLen/\o+cap * sz<=cur.size/\(cur.toList.drop o).take (L.length * sz)=L.flatMap f:=Sl.inner h
theorem SlF.cells {α:Type} {f:α->List Value} {w:World} {e sz g o cap:Nat} {L:List α} (_hf:∀ x,(f x).length=sz) (h:SlF w e sz f (.slice (some ⟨g,o,none⟩) L.length cap) L) (j:Nat) (u:Value) (hu:(L.flatMap f)[j]? = some u):w.cell? ((⟨g,o,none⟩:Addr).add j)=some u:=by
 have hadd:(⟨g,o,none⟩:Addr).add j=⟨g,o+j,none⟩:=by unfold Addr.add;split <;> simp_all
 rw [hadd];exact Sl.cell h j hu
theorem SlF.drop {α:Type} {f:α->List Value} {w:World} {e sz g o cap:Nat} {L:List α} (hf:∀ x,(f x).length=sz) (h:SlF w e sz f (.slice (some ⟨g,o,none⟩) L.length cap) L) (k:Nat) (hk:k<=L.length) :
 SlF w e sz f (.slice (some ⟨g,o+k * sz,none⟩) (L.length - k) (cap - k)) (L.drop k):=by
 obtain ⟨cur,hc,h1,h2,h3,h4⟩:=h.inner;have hm:k * sz+(cap - k) * sz=cap * sz:=by rw [<-Nat.add_mul];congr 1;omega
 refine ⟨zal hf _,.inr ⟨g,o+k * sz,cap - k,cur,by rw [List.length_drop],hc,by rw [List.length_drop];omega,by omega,by omega,?_⟩⟩
 have h5:(L.drop k).flatMap f=(L.flatMap f).drop (k * sz):=by
  have h6:=congrArg (fun l=>List.flatMap f l) (List.take_append_drop k L);simp only [List.flatMap_append] at h6;have h7:((L.take k).flatMap f).length=k * sz:=(by rw [zal hf];congr 1;simp;omega)
  conv=>rhs;rw [<-h6]
  rw [<-h7,List.drop_left]
 rw [h5,<-h4,List.drop_take,List.drop_drop,List.length_drop,Nat.sub_mul]
theorem zqm:∀ (L:List (ByteArray × Int)),∀ u∈L.flatMap pairC,u.oneCell'=true:=by
 intro L u hu;obtain ⟨y,_,hy⟩:=List.mem_flatMap.1 hu;simp [pairC] at hy;rcases hy with rfl | rfl <;> rfl
theorem znk:∀ (L:List Nat),∀ u∈L.flatMap nat1,u.oneCell'=true:=by
 intro L u hu;obtain ⟨y,_,hy⟩:=List.mem_flatMap.1 hu;simp [nat1] at hy;subst hy;rfl
def zes (L:List (ByteArray × Int)):Prop:=(L.flatMap pairC).length=L.length * 2
def zfs (L:List Nat):Prop:=(L.flatMap nat1).length=L.length * 1
set_option maxHeartbeats 1000000 in
theorem zjl (w:World) (v:Value) (L:List (ByteArray × Int)) (hv:SlF w 127 2 pairC v L) (hl:L.length<=1000) :
 Calls Try.prog 152 #[v] w fun e w'=>∃ g,e = .returned (.slice (some ⟨g,0,none⟩) L.length L.length)/\SlF w' 127 2 pairC (.slice (some ⟨g,0,none⟩) L.length L.length) L/\Fr No w w'/\w.heap.size<=g:=by
 obtain ⟨i0,hi0,hz0,hz1,hz2⟩:=info_parts info127;have hl0:zes L:=zal zaf L;obtain ⟨a,cap,rfl,hc1,hc2,ha⟩:=hv.shape
 have hmk:∀ W,(Instr.makeSlice 124 (.int .i64 (L.length:Int)) (.int .i64 (L.length:Int))).run Try.prog W = .ok (.slice (some ⟨W.heap.size,0,none⟩) L.length L.length) (W.alloc (.cells (madeCells (Value.cells (.agg #[.string ByteArray.empty,.int .i64 0])) (L.length * 2)) 127)):=by
  intro W;have:=run_make (P:=Try.prog) W 124 127 i0 _ Try.underlying124 hi0 hz0 .i64 .i64 L.length L.length (by omega) (by omega) (by rw [hz2];omega) (by omega);rw [hz1] at this;simpa using this
 have HV:=H_ hv;have HA:=H_ ha;have HL:=H_ hl0;clear hv ha hl0;have hn:(L.flatMap pairC).length=Nat.min L.length L.length * i0.size:=by rw [hz1,zal zaf,show Nat.min L.length L.length=L.length from Nat.min_self _]
 have hpos:0 < (L.flatMap pairC).length->(some (⟨w.heap.size,0,none⟩:Addr)=some ⟨w.heap.size,0,none⟩/\∃ ad,a=some ad/\∀ j u,(L.flatMap pairC)[j]? = some u->(w.alloc (.cells (madeCells (Value.cells (.agg #[.string ByteArray.empty,.int .i64 0])) (L.length * 2)) 127)).cell? (ad.add j)=some u):=by
  intro hp;rw [zal zaf] at hp;obtain ⟨g0,o0,rfl⟩:=HA.out (by omega);exact ⟨rfl,_,rfl,fun j u hu=>SlF.cells zaf (HV.out.alloc _) j u hu⟩
 have hfit:0+(L.flatMap pairC).length<=(madeCells (Value.cells (.agg #[.string ByteArray.empty,.int .i64 0])) (L.length * 2)).size:=by rw [zal zaf,size_madeCells];omega
 have HN:=H_ hn;have HP:=H_ hpos;have HFT:=H_ hfit;clear hn hpos hfit;go_enter Try.func152,Try.ntmps152;go_wp2_with (refine zca rfl _ _ 124 124 127 i0 rfl Try.underlying124 hi0 _ _ L.length L.length L.length cap w.heap.size 0 (madeCells (Value.cells (.agg #[.string ByteArray.empty,.int .i64 0])) (L.length * 2)) 127 (L.flatMap pairC) rfl rfl (zac _ _ _ rfl) HN.out HP.out HFT.out (zqm L) ?_);intro w2 hw2 hg2;have hf:Fr No w (w.alloc (Obj.cells (madeCells (Value.cells (.agg #[.string ByteArray.empty,.int .i64 0])) (L.length * 2)) 127)):=(Fr.refl No w).alloc _;have hmin:Nat.min L.length L.length=L.length:=Nat.min_self _;go_wp2;go_ret;refine ⟨w.heap.size,rfl,⟨zal zaf L,.inr ⟨w.heap.size,0,L.length,_,rfl,hw2,Nat.le_refl _,by unfold maxLen;omega,?_,?_⟩⟩,?_,Nat.le_refl _⟩
 · have:=HL.out;unfold zes at this
   simp [this]
 · have:=HL.out;unfold zes at this
   have hm:(madeCells (Value.cells (.agg #[.string ByteArray.empty,.int .i64 0])) (L.length * 2)).toList.length=L.length * 2:=(by rw [Array.length_toList,size_madeCells] <;> omega);simp only [List.drop_zero];rw [List.take_left' this]
 refine ⟨hg2.os.trans hf.os,hg2.tape.trans hf.tape,hg2.output.trans hf.output,Nat.le_trans hf.size hg2.size,fun k hk _=>(hg2.block k (Nat.lt_of_lt_of_le hk hf.size) fun e=>?_).trans (hf.block k hk id)⟩
 cases e
 omega
set_option maxHeartbeats 1000000 in
theorem zkr (w:World) (v:Value) (L:List (Nat)) (hv:SlF w 3 1 nat1 v L) (hl:L.length<=1000) :
 Calls Try.prog 153 #[v] w fun e w'=>∃ g,e = .returned (.slice (some ⟨g,0,none⟩) L.length L.length)/\SlF w' 3 1 nat1 (.slice (some ⟨g,0,none⟩) L.length L.length) L/\Fr No w w'/\w.heap.size<=g:=by
 obtain ⟨i0,hi0,hz0,hz1,hz2⟩:=info_parts info3;have hl0:zfs L:=zal zak L;obtain ⟨a,cap,rfl,hc1,hc2,ha⟩:=hv.shape
 have hmk:∀ W,(Instr.makeSlice 149 (.int .i64 (L.length:Int)) (.int .i64 (L.length:Int))).run Try.prog W = .ok (.slice (some ⟨W.heap.size,0,none⟩) L.length L.length) (W.alloc (.cells (madeCells (Value.cells (.int .i64 0)) (L.length)) 3)):=by
  intro W;have:=run_make (P:=Try.prog) W 149 3 i0 _ Try.underlying149 hi0 hz0 .i64 .i64 L.length L.length (by omega) (by omega) (by rw [hz2];omega) (by omega);rw [hz1] at this;simpa using this
 have HV:=H_ hv;have HA:=H_ ha;have HL:=H_ hl0;clear hv ha hl0;have hn:(L.flatMap nat1).length=Nat.min L.length L.length * i0.size:=by rw [hz1,zal zak,show Nat.min L.length L.length=L.length from Nat.min_self _]
 have hpos:0 < (L.flatMap nat1).length->(some (⟨w.heap.size,0,none⟩:Addr)=some ⟨w.heap.size,0,none⟩/\∃ ad,a=some ad/\∀ j u,(L.flatMap nat1)[j]? = some u->(w.alloc (.cells (madeCells (Value.cells (.int .i64 0)) (L.length)) 3)).cell? (ad.add j)=some u):=by
  intro hp;rw [zal zak] at hp;obtain ⟨g0,o0,rfl⟩:=HA.out (by omega);exact ⟨rfl,_,rfl,fun j u hu=>SlF.cells zak (HV.out.alloc _) j u hu⟩
 have hfit:0+(L.flatMap nat1).length<=(madeCells (Value.cells (.int .i64 0)) (L.length)).size:=by rw [zal zak,size_madeCells];omega
 have HN:=H_ hn;have HP:=H_ hpos;have HFT:=H_ hfit;clear hn hpos hfit;go_enter Try.func153,Try.ntmps153;go_wp2_with (refine zca rfl _ _ 149 149 3 i0 rfl Try.underlying149 hi0 _ _ L.length L.length L.length cap w.heap.size 0 (madeCells (Value.cells (.int .i64 0)) (L.length)) 3 (L.flatMap nat1) rfl rfl (zac _ _ _ rfl) HN.out HP.out HFT.out (znk L) ?_);intro w2 hw2 hg2;have hf:Fr No w (w.alloc (Obj.cells (madeCells (Value.cells (.int .i64 0)) (L.length)) 3)):=(Fr.refl No w).alloc _;have hmin:Nat.min L.length L.length=L.length:=Nat.min_self _;go_wp2;go_ret;refine ⟨w.heap.size,rfl,⟨zal zak L,.inr ⟨w.heap.size,0,L.length,_,rfl,hw2,Nat.le_refl _,by unfold maxLen;omega,?_,?_⟩⟩,?_,Nat.le_refl _⟩
 · have:=HL.out;unfold zfs at this
   simp [this]
 · have:=HL.out;unfold zfs at this
   have hm:(madeCells (Value.cells (.int .i64 0)) (L.length)).toList.length=L.length * 1:=(by rw [Array.length_toList,size_madeCells] <;> omega);simp only [List.drop_zero];rw [List.take_left' this]
 refine ⟨hg2.os.trans hf.os,hg2.tape.trans hf.tape,hg2.output.trans hf.output,Nat.le_trans hf.size hg2.size,fun k hk _=>(hg2.block k (Nat.lt_of_lt_of_le hk hf.size) fun e=>?_).trans (hf.block k hk id)⟩
 cases e
 omega
set_option maxHeartbeats 1000000 in
theorem zko (w:World) (v:Value) (L:List Nat) (i:Nat) (x:Nat) (hv:SlF w 3 1 nat1 v L) (hi:i<=L.length) (hl:L.length<=1000) :
 Calls Try.prog 149 #[v,.int .i64 i,.int .i64 x] w fun e w'=>∃ g o cap,e = .returned (.slice (some ⟨g,o,none⟩) (L.length+1) cap) ∧
  SlF w' 3 1 nat1 (.slice (some ⟨g,o,none⟩) (L.length+1) cap) (L.take i++x :: L.drop i)/\Fr (fun b=>v.ownBlock=some b) w w'/\(v.ownBlock=some g\/w.heap.size<=g):=by
 obtain ⟨i0,hi0,hz0,hz1,hz2⟩:=info_parts info3;have hnew:=zas w [.int .i64 (x:Int)] 3 (0,0);have HV:=H_ hv;clear hv;have hil:(0:Int)<=(i:Int):=by omega
 go_enter Try.func149,Try.ntmps149;go_wp2_with (at_builtin;refine zap rfl _ _ 149 rfl 3 i0 _ 1 8 Try.underlying149 hi0 hz0 hz1 hz2 rfl (by decide) v L rfl (HV.out.alloc _) w.heap.size 1 x rfl (by simpa [nat1] using hnew) rfl (by intro u hu;simp [nat1] at hu;subst hu;rfl) (by unfold maxLen;omega) (by omega) ?_);intro g o cap w1 hs1 hg1 hb1 hlt1;have hgl:=HV.out.lt;have hF1:Fr (fun b=>v.ownBlock=some b) w w1:=(((Fr.refl _ w).alloc _).grown hg1 fun k hk=>.inl hk)
 have hgnew:v.ownBlock=some g\/w.heap.size<=g:=by
  rcases hb1 with e | e
  · exact .inl e
  right;omega
 have hL1:(L++[x]).length=L.length+1:=by simp
 obtain ⟨cur,hcur,hncap,_,hfit0,_⟩:=SlF.inner (L:=L++[x]) (by rw [hL1];exact hs1);rw [hL1] at hncap
 have hcs:((((L++[x]).drop i).take (L.length - i)).flatMap nat1).length=(L.length - i) * 1:=by
  rw [zal zak];congr 1;simp;omega
 have hn:((((L++[x]).drop i).take (L.length - i)).flatMap nat1).length=Nat.min (L.length+1 - i) (L.length - i) * i0.size:=by
  rw [hcs,hz1,show Nat.min (L.length+1 - i) (L.length - i)=L.length - i from Nat.min_eq_right (by omega)]
 have hfit:o+(i+1)+((((L++[x]).drop i).take (L.length - i)).flatMap nat1).length<=cur.size:=by rw [hcs];omega
 have hpos:0 < ((((L++[x]).drop i).take (L.length - i)).flatMap nat1).length->((if cap=i+1 then some (⟨g,o,none⟩:Addr) else some ⟨g,o+(i+1),none⟩)=some ⟨g,o+(i+1),none⟩/\∃ ad,(if cap=i then some (⟨g,o,none⟩:Addr) else some ⟨g,o+i,none⟩)=some ad ∧
  ∀ j u,((((L++[x]).drop i).take (L.length - i)).flatMap nat1)[j]? = some u->w1.drew.cell? (ad.add j)=some u):=by
  intro hp;rw [hcs] at hp;rw [if_neg (by omega),if_neg (by omega)];refine ⟨rfl,_,rfl,fun j u hu=>?_⟩;have hj:=(List.getElem?_eq_some_iff.1 hu).1;rw [hcs] at hj;have h1:=(SlF.drop (L:=L++[x]) zak (by rw [hL1];exact hs1) i (by rw [hL1];omega)).drew;have h2:SlF w1.drew 3 1 nat1 (.slice (some ⟨g,o+i * 1,none⟩) ((L++[x]).drop i).length (cap - i)) ((L++[x]).drop i):=(by rw [List.length_drop];exact h1)
  have hu2:(((L++[x]).drop i).flatMap nat1)[j]? = some u:=by
   have h6:=zdy zak ((L++[x]).drop i) (L.length - i);rw [<-h6,List.getElem?_take,if_pos (by omega)] at hu;exact hu
  have h3:=SlF.cells zak h2 j u hu2;simpa using h3
 have hcw:w1.drew.heap[g]? = some (.cells cur 3 (0,0)):=hcur;have H1:=H_ hs1;have HG1:=H_ hg1;have HL:=H_ hL1;have HN:=H_ hn;have HP:=H_ hpos;have HFT:=H_ hfit;have HCS:=H_ hcs;have HCW:=H_ hcw;clear hs1 hg1 hL1 hnew hn hpos hfit hcs hcw hcur hfit0;have hi1:(i:Int)+1<=(L.length:Int)+1:=by omega
 have hi5:(0:Int)<=(i:Int)+1:=by omega
 have hi2:(i:Int)<=(L.length:Int)+1:=by omega
 have hi3:i+1<=L.length+1:=by omega
 have hi4:i<=L.length+1:=by omega
 go_wp2_with fail;refine wp_region_still_tail 7 (by kernel_rfl) (by kernel_rfl) ?_;simp only [List.take_succ_cons,List.take_zero,List.drop_succ_cons,List.drop_zero];change wpStill _ _ w1.drew _ _ _
 repeat (refine wpStill_step (fun K hK=>?_);go_simp;(try go_bits);refine hK _ ?_;clear hK K)
 refine wpStill_nil ?_;change wpList _ _ _ _ _ w1.drew;refine zca rfl _ _ 149 149 3 i0 rfl Try.underlying149 hi0 _ _ _ _ _ _ g (o+(i+1)) cur 3 ((((L++[x]).drop i).take (L.length - i)).flatMap nat1) rfl rfl HCW.out HN.out HP.out HFT.out (znk _) ?_;intro w2 hw2 hgr2;generalize (if cap=i+1 then some (⟨g,o,none⟩:Addr) else some ⟨g,o+(i+1),none⟩)=A1;generalize (if cap=i then some (⟨g,o,none⟩:Addr) else some ⟨g,o+i,none⟩)=A2;have hs2:=SlF.copied (w:=w1.drew) (w':=w2) (L:=L++[x]) zak (by have:=H1.out;rw [HL.out];exact this) i (i+1) (L.length - i) (by simp;omega) (by simp;omega) cur HCW.out (by rw [HCS.out] at hw2;simpa using hw2);have HE:=H_ (zlc L x i hi);generalize hL2:((L++[x]).take (i+1)++((L++[x]).drop i).take (L.length - i)++(L++[x]).drop (i+1+(L.length - i)))=L2 at hs2 HE
 have hL2l:L2.length=L.length+1:=by rw [<-hL2];simp;omega
 obtain ⟨y,hy⟩:∃ y,L2[i]? = some y:=⟨_,List.getElem?_eq_getElem (by omega)⟩;have hs2':SlF w2 3 1 nat1 (.slice (some ⟨g,o,none⟩) L2.length cap) L2:=by rw [hL2l];rwa [HL.out] at hs2
 have d0:=hs2'.cell1 zak i hy rfl;have f0:=hs2'.free (o+i);have H2:=H_ hs2';have HY:=H_ hy;have HL2:=H_ hL2l;have HG2:=H_ hgr2;have hi6:(i:Int) < (L.length:Int)+1:=by omega
 have hi7:i < L.length+1:=by omega
 clear hs2 hs2' hy hL2 hL2l hgr2 hw2;go_wp2;go_ret;refine ⟨g,o,cap,rfl,?_,?_,hgnew⟩
 · have e1:=SlF.set zak H2.out i 0 (by omega) y x (.int .i64 x) HY.out rfl
   rw [HE.out,HL2.out] at e1;simpa using e1
 have hF2:Fr (fun b=>v.ownBlock=some b) w w2:=hF1.drew.grown HG2.out fun k hk=>by cases hk;exact hgnew
 exact hF2.setCell (p:=⟨g,o+i,none⟩) hgnew _
theorem info198:(Try.prog.info? 198).map (fun i=>(i.zero,i.size,i.bytes))=some (some (.agg #[.slice none 0 0,.slice none 0 0]),2,48):=by kernel_rfl
def nz0:Nz:=⟨nd0,.slice none 0 0,.slice none 0 0⟩
theorem takeZ {Z:List Nz}:ndsZ (Z++[nz0])=ndsZ Z++[nd0]:=by unfold ndsZ;simp [nz0]
set_option maxHeartbeats 1000000 in
theorem zpv (w:World) (t:Nat) (A:Arr) (fl:List Nat) (root:Nat) (many:Int) (F:Nat->Prop) (h:TreeZ w t A fl root many F) (hA:A.length<=1099511627) (hl:fl.length<=1099511627) (hne:fl≠[]) :
 Calls Try.prog 142 #[.pointer (some ⟨t,0,none⟩)] w fun e w'=>e = .returned (.int .i64 (takeI A fl:Int))/\∃ F',TreeZ w' t (takeA A fl) fl.dropLast root many F'/\Fr F w w'/\∀ b,F' b->F b\/w.heap.size<=b:=by
 obtain ⟨nv,fv,Z,h,rfl,hF⟩:=h;have c1:=h.obj.cell 1 rfl;have f1:=h.obj.free 1;have hpos:0 < fl.length:=List.length_pos_iff.2 hne;obtain ⟨a,cap,rfl,hc1,hc2,ha⟩:=h.free.shape;obtain ⟨fb,fo,rfl⟩:=ha hpos
 have hx:fl[fl.length - 1]? = some (fl.getLast hne):=by
  rw [List.getLast_eq_getElem];exact List.getElem?_eq_getElem _
 have d0:=h.free.cell1 zak (fl.length - 1) hx rfl;have htI:takeI (ndsZ Z) fl=fl.getLast hne:=by unfold takeI;rw [List.getLast?_eq_some_getLast hne];rfl
 have htA:takeA (ndsZ Z) fl=ndsZ Z:=by unfold takeA;rw [if_neg hne]
 have hs:=h.free.take zak (fl.length - 1) (by omega);rw [<-List.dropLast_eq_take] at hs;have hln:fl.dropLast.length=fl.length - 1:=by simp
 have HS:Hid (SlF w 3 1 nat1 (.slice (some ⟨fb,fo,none⟩) (fl.length - 1) cap) fl.dropLast):=H_ hs;have H:=H_ h;have HI:=H_ htI;have HTA:=H_ htA;have HFF:=H_ hF;generalize fl.getLast hne=x at *;have hz0:(0:Int) < (fl.length:Int):=by omega
 have hj1:(0:Int)<=(fl.length:Int) - 1:=by omega
 have hj2:(fl.length:Int) - 1<=(cap:Int):=by omega
 have hj3:((fl.length:Int) - 1).toNat=fl.length - 1:=by omega
 have hj4:(fl.length:Int) - 1 < (fl.length:Int):=by omega
 have hj5:(fl.length:Int)<=1099511627:=by omega
 clear h hs htI htA hF hx ha hln;generalize hN:fl.length=n at *;go_enter Try.func142,Try.ntmps142;go_wp2;go_ret;have hset:=H.out.setFree (w1:=w) (fl':=fl.dropLast) (fv':=.slice (some ⟨fb,fo,none⟩) (n - 1) cap) (Fr.refl _ w) HS.out (fun b e=>.inl e);obtain ⟨q1,q2,q3⟩:=hset;refine ⟨by rw [HI.out];rfl,_,⟨_,_,Z,q1,HTA.out.symm,fun b=>Iff.rfl⟩,q2.mono fun b _ e=>(HFF.out b).2 ?_,fun b hb=>?_⟩
 · rcases e with e | e
   · exact .inl e
   exact .inr (.inr (.inl e))
 rcases q3 b hb with e | e
 · exact .inl ((HFF.out b).2 e)
 exact .inr e
set_option maxHeartbeats 1000000 in
theorem zpw (w:World) (t:Nat) (A:Arr) (root:Nat) (many:Int) (F:Nat->Prop) (h:TreeZ w t A [] root many F) (hA:A.length<=1099511627) :
 Calls Try.prog 142 #[.pointer (some ⟨t,0,none⟩)] w fun e w'=>e = .returned (.int .i64 (takeI A []:Int))/\∃ F',TreeZ w' t (takeA A []) [] root many F'/\Fr F w w'/\∀ b,F' b->F b\/w.heap.size<=b:=by
 obtain ⟨nv,fv,Z,h,rfl,hF⟩:=h;rw [zaz] at hA;have c0:=h.obj.cell 0 rfl;have c1:=h.obj.cell 1 rfl;have f0:=h.obj.free 0;obtain ⟨i0,hi0,hz0,hz1,hz2⟩:=info_parts info198;obtain ⟨a,cap,rfl,hc1,hc2,ha⟩:=h.free.shape;have hnew:=zas w [.slice none 0 0,.slice none 0 0] 198 (0,0);have H:=H_ h;have HFF:=H_ hF;have HN:=H_ h.nodes;have hlt:=h.obj.lt;have hnt:¬ nv.ownBlock=some t:=h.a1.1;clear h hF ha;go_enter Try.func142,Try.ntmps142;go_wp2_with (at_builtin;refine zap rfl _ _ 175 rfl 198 i0 _ 2 48 Try.underlying175 hi0 hz0 hz1 hz2 rfl (by decide) nv Z rfl (HN.out.alloc _) w.heap.size 1 nz0 rfl (by simpa [nzC,nz0] using hnew) rfl (by intro u hu;simp [nzC,nz0] at hu;subst hu;rfl) (by unfold maxLen;omega) (by omega) ?_);intro g o cap' w1 hs1 hg1 hb1 hlt1
 have hF1:Fr (fun b=>nv.ownBlock=some b) w w1:=(((Fr.refl _ w).alloc _).grown hg1 fun k hk=>.inl hk);have e0:=hF1.cell c0 hnt;have e1:=hF1.cell c1 hnt;have g0:=hF1.free c0 f0 hnt;have HS1:=H_ hs1;have HB1:=H_ hb1;have HF1:=H_ hF1;clear hs1 hg1 hb1 hF1 c0 c1 f0 hnew;have hj:(0:Int)<=(Z.length:Int):=by omega
 go_wp2;go_ret;have hL:(Z++[nz0]).length=Z.length+1:=by simp
 have hset:=H.out.snoc (w1:=w1) (nv':=.slice (some ⟨g,o,none⟩) (Z.length+1) cap') HF1.out HS1.out fun b e=>by
  obtain rfl:g=b:=by simpa [Value.ownBlock] using e
  rcases HB1.out with e | e
  · exact .inl e
  right;omega
 obtain ⟨q1,q2,q3⟩:=hset;refine ⟨?_,_,⟨_,_,_,q1,by unfold takeA;rw [if_pos rfl];exact takeZ,fun b=>Iff.rfl⟩,q2.mono fun b _ e=>(HFF.out b).2 ?_,fun b hb=>?_⟩
 · unfold takeI
   rw [List.getLast?_nil,zaz]
   rfl
 · rcases e with e | e
   · exact .inl e
   exact .inr (.inl e)
 rcases q3 b hb with e | e
 · exact .inl ((HFF.out b).2 e)
 exact .inr e
theorem ziv (w:World) (t:Nat) (A:Arr) (fl:List Nat) (root:Nat) (many:Int) (F:Nat->Prop) (h:TreeZ w t A fl root many F) (hA:A.length<=1099511627) (hl:fl.length<=1099511627) :
 Calls Try.prog 142 #[.pointer (some ⟨t,0,none⟩)] w fun e w'=>e = .returned (.int .i64 (takeI A fl:Int))/\∃ F',TreeZ w' t (takeA A fl) fl.dropLast root many F'/\Fr F w w'/\∀ b,F' b->F b\/w.heap.size<=b:=by
 by_cases hne:fl = []
 · subst hne;exact zpw w t A root many F h hA
 exact zpv w t A fl root many F h hA hl hne
open Go Go.RowKit
theorem zbj {α:Type} {f:α->List Value} {P:Program} {w:World} {ops:Array Oper} {o:Oper} {a:Act} {K:Act->World->Prop} {Q:Exit->Act->World->Prop} {E:Prop} (hgd:o.guard=none) (s x:Operand) (t:TypeId)
 (ho:o.op = .call { callee:=.builtin .append,args:=#[s,x],argTypes:=#[t,t] })
 (e:TypeId) (i:TypeInfo) (z:Value) (sz bytes:Nat) (ht:P.underlying t=some (.slice e)) (hi:P.info? e=some i) (hz:i.zero=some z) (hsize:i.size=sz) (hby:i.bytes=bytes) (hzs:z.cells.size=sz) (hsz:0 < sz)
 (v:Value) (L:List α) (hs:a.eval s=v) (hown:SlF w e sz f v L)
 (b c:Nat) (y:α) (hx:a.eval x = .slice (some ⟨b,0,none⟩) 1 c) (hnews:∀ j u,(f y)[j]? = some u->w.cell? ((⟨b,0,none⟩:Addr).add j)=some u) (hl:(f y).length=sz) (h1:∀ u∈f y,u.oneCell'=true)
 (h63:L.length+1<=maxLen) (hbytes:(L.length+1) * bytes<=140737488355328)
 (h:∀ g o' cap w',SlF w' e sz f (.slice (some ⟨g,o',none⟩) (L.length+1) cap) (L++[y])->w.grownBy w' v.ownBlock->(v.ownBlock=some g\/g=w.heap.size)->g < w'.heap.size →
   K (a.put o.dst (.slice (some ⟨g,o',none⟩) (L.length+1) cap)) w') :
 if Region.wanted o (yielded ops a.tmps)=true then Oper.wp P o a w K Q else E:=by
 have hw:Region.wanted o (yielded ops a.tmps)=true:=by simp [Region.wanted,hgd]
 rw [if_pos hw];subst hsize;subst hby;obtain ⟨g,o',cap,w',hr,h2,h3,h4,h5⟩:=zcg (P:=P) w t o.type e i z ht hi hz hzs hsz v L.length (L.flatMap f) hown ⟨b,0,none⟩ 1 c (f y) (by omega) (by omega) hnews h1 h63 hbytes;unfold Oper.wp execOp;simp only [ho,resolve,invoke,builtin,Sem.run_bind,Sem.run_pure,Result.andThen_ok,List.map_toArray,List.map_cons,List.map_nil,hs,hx,hr];refine h g o' cap w' ?_ h3 h4 h5;unfold SlF;simpa using h2
end Go.Proofs.Ythljnnjpmdgkoaa