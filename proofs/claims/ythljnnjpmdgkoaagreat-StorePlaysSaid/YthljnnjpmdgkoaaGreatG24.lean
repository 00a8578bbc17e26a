/- Own lemmas and contracts that the claim's proof needs, laid together. The conditions stand in each. -/
import Derived.Test.YthljnnjpmdgkoaaGreatG23
import Derived.Test.YthljnnjpmdgkoaaGreatG02
import Derived.Test.YthljnnjpmdgkoaaGreatG05
import Derived.Test.YthljnnjpmdgkoaaGreatG20
import Derived.StillTailTactics
import Derived.Deep.RegionLaw
namespace Go.Proofs.YthljnnjpmdgkoaaGreat
open Go Go.Proofs Go.RowKit
set_option maxRecDepth 100000
theorem Sl.inner {w:World} {e:TypeId} {sz:Nat} {g o n cap:Nat} {xs:List Value} (h:Sl w e sz (.slice (some ⟨g,o,none⟩) n cap) n xs):∃ cur,w.heap[g]? = some (.cells cur e (0,0))/\n<=cap/\cap<=maxLen/\o+cap * sz<=cur.size/\(cur.toList.drop o).take (n * sz)=xs:=by
 rcases h.2 with ⟨h0,_⟩ | ⟨g',o',cap',cur,hv,hg,h1,h2,h3,h4⟩
 · cases h0
 cases hv
 exact ⟨cur,hg,h1,h2,h3,h4⟩
theorem SlF.inner {α:Type} {f:α->List Value} {w:World} {e sz g o cap:Nat} {L:List α} (h:SlF w e sz f (.slice (some ⟨g,o,none⟩) L.length cap) L):∃ cur,w.heap[g]? = some (.cells cur e (0,0))/\L.length<=cap/\cap<=maxLen/\o+cap * sz<=cur.size/\(cur.toList.drop o).take (L.length * sz)=L.flatMap f:=Sl.inner h
theorem SlF.cells {α:Type} {f:α->List Value} {w:World} {e sz g o cap:Nat} {L:List α} (_hf:∀ x,(f x).length=sz) (h:SlF w e sz f (.slice (some ⟨g,o,none⟩) L.length cap) L) (j:Nat) (u:Value) (hu:(L.flatMap f)[j]? = some u):w.cell? ((⟨g,o,none⟩:Addr).add j)=some u:=by
 have hadd:(⟨g,o,none⟩:Addr).add j=⟨g,o+j,none⟩:=by unfold Addr.add;split <;> simp_all
 rw [hadd];exact Sl.cell h j hu
theorem SlF.drop {α:Type} {f:α->List Value} {w:World} {e sz g o cap:Nat} {L:List α} (hf:∀ x,(f x).length=sz) (h:SlF w e sz f (.slice (some ⟨g,o,none⟩) L.length cap) L) (k:Nat) (hk:k<=L.length) :
 SlF w e sz f (.slice (some ⟨g,o+k * sz,none⟩) (L.length - k) (cap - k)) (L.drop k):=by
 obtain ⟨cur,hc,h1,h2,h3,h4⟩:=h.inner;have hm:k * sz+(cap - k) * sz=cap * sz:=by rw [<-Nat.add_mul];congr 1;omega
 refine ⟨zan hf _,.inr ⟨g,o+k * sz,cap - k,cur,by rw [List.length_drop],hc,by rw [List.length_drop];omega,by omega,by omega,?_⟩⟩
 have h5:(L.drop k).flatMap f=(L.flatMap f).drop (k * sz):=by
  have h6:=congrArg (fun l=>List.flatMap f l) (List.take_append_drop k L);simp only [List.flatMap_append] at h6;have h7:((L.take k).flatMap f).length=k * sz:=(by rw [zan hf];congr 1;simp;omega)
  conv=>rhs;rw [<-h6]
  rw [<-h7,List.drop_left]
 rw [h5,<-h4,List.drop_take,List.drop_drop,List.length_drop,Nat.sub_mul]
theorem zmx:∀ (L:List (ByteArray × Int)),∀ u∈L.flatMap pairC,u.oneCell'=true:=by
 intro L u hu;obtain ⟨y,_,hy⟩:=List.mem_flatMap.1 hu;simp [pairC] at hy;rcases hy with rfl | rfl <;> rfl
theorem zld:∀ (L:List Nat),∀ u∈L.flatMap nat1,u.oneCell'=true:=by
 intro L u hu;obtain ⟨y,_,hy⟩:=List.mem_flatMap.1 hu;simp [nat1] at hy;subst hy;rfl
def zgg (L:List (ByteArray × Int)):Prop:=(L.flatMap pairC).length=L.length * 2
def zhi (L:List Nat):Prop:=(L.flatMap nat1).length=L.length * 1
set_option maxHeartbeats 1000000 in
theorem zlc (w:World) (v:Value) (L:List (ByteArray × Int)) (hv:SlF w 122 2 pairC v L) (hl:L.length<=1000) :
 Calls Tryz.prog 175 #[v] w fun e w'=>∃ g,e = .returned (.slice (some ⟨g,0,none⟩) L.length L.length)/\SlF w' 122 2 pairC (.slice (some ⟨g,0,none⟩) L.length L.length) L/\Fr No w w'/\w.heap.size<=g:=by
 obtain ⟨i0,hi0,hz0,hz1,hz2⟩:=info_parts info127;have hl0:zgg L:=zan zag L;obtain ⟨a,cap,rfl,hc1,hc2,ha⟩:=hv.shape
 have hmk:∀ W,(Instr.makeSlice 119 (.int .i64 (L.length:Int)) (.int .i64 (L.length:Int))).run Tryz.prog W = .ok (.slice (some ⟨W.heap.size,0,none⟩) L.length L.length) (W.alloc (.cells (madeCells (Value.cells (.agg #[.string ByteArray.empty,.int .i64 0])) (L.length * 2)) 122)):=by
  intro W;have:=run_make (P:=Tryz.prog) W 119 122 i0 _ Tryz.underlying119 hi0 hz0 .i64 .i64 L.length L.length (by omega) (by omega) (by rw [hz2];omega) (by omega);rw [hz1] at this;simpa using this
 have HV:=H_ hv;have HA:=H_ ha;have HL:=H_ hl0;clear hv ha hl0;have hn:(L.flatMap pairC).length=Nat.min L.length L.length * i0.size:=by rw [hz1,zan zag,show Nat.min L.length L.length=L.length from Nat.min_self _]
 have hpos:0 < (L.flatMap pairC).length->(some (⟨w.heap.size,0,none⟩:Addr)=some ⟨w.heap.size,0,none⟩/\∃ ad,a=some ad/\∀ j u,(L.flatMap pairC)[j]? = some u->(w.alloc (.cells (madeCells (Value.cells (.agg #[.string ByteArray.empty,.int .i64 0])) (L.length * 2)) 122)).cell? (ad.add j)=some u):=by
  intro hp;rw [zan zag] at hp;obtain ⟨g0,o0,rfl⟩:=HA.out (by omega);exact ⟨rfl,_,rfl,fun j u hu=>SlF.cells zag (HV.out.alloc _) j u hu⟩
 have hfit:0+(L.flatMap pairC).length<=(madeCells (Value.cells (.agg #[.string ByteArray.empty,.int .i64 0])) (L.length * 2)).size:=by rw [zan zag,size_madeCells];omega
 have HN:=H_ hn;have HP:=H_ hpos;have HFT:=H_ hfit;clear hn hpos hfit;go_enter Tryz.func175,Tryz.ntmps175;go_wp2_with (refine zbn rfl _ _ 119 119 122 i0 rfl Tryz.underlying119 hi0 _ _ L.length L.length L.length cap w.heap.size 0 (madeCells (Value.cells (.agg #[.string ByteArray.empty,.int .i64 0])) (L.length * 2)) 122 (L.flatMap pairC) rfl rfl (zad _ _ _ rfl) HN.out HP.out HFT.out (zmx L) ?_);intro w2 hw2 hg2;have hf:Fr No w (w.alloc (Obj.cells (madeCells (Value.cells (.agg #[.string ByteArray.empty,.int .i64 0])) (L.length * 2)) 122)):=(Fr.refl No w).alloc _;have hmin:Nat.min L.length L.length=L.length:=Nat.min_self _;go_wp2;go_ret;refine ⟨w.heap.size,rfl,⟨zan zag L,.inr ⟨w.heap.size,0,L.length,_,rfl,hw2,Nat.le_refl _,by unfold maxLen;omega,?_,?_⟩⟩,?_,Nat.le_refl _⟩
 · have:=HL.out;unfold zgg at this
   simp [this]
 · have:=HL.out;unfold zgg at this
   have hm:(madeCells (Value.cells (.agg #[.string ByteArray.empty,.int .i64 0])) (L.length * 2)).toList.length=L.length * 2:=(by rw [Array.length_toList,size_madeCells] <;> omega);simp only [List.drop_zero];rw [List.take_left' this]
 refine ⟨hg2.os.trans hf.os,hg2.tape.trans hf.tape,hg2.output.trans hf.output,Nat.le_trans hf.size hg2.size,fun k hk _=>(hg2.block k (Nat.lt_of_lt_of_le hk hf.size) fun e=>?_).trans (hf.block k hk id)⟩
 cases e
 omega
set_option maxHeartbeats 1000000 in
theorem zmu (w:World) (v:Value) (L:List (Nat)) (hv:SlF w 3 1 nat1 v L) (hl:L.length<=1000) :
 Calls Tryz.prog 176 #[v] w fun e w'=>∃ g,e = .returned (.slice (some ⟨g,0,none⟩) L.length L.length)/\SlF w' 3 1 nat1 (.slice (some ⟨g,0,none⟩) L.length L.length) L/\Fr No w w'/\w.heap.size<=g:=by
 obtain ⟨i0,hi0,hz0,hz1,hz2⟩:=info_parts info3;have hl0:zhi L:=zan zah L;obtain ⟨a,cap,rfl,hc1,hc2,ha⟩:=hv.shape
 have hmk:∀ W,(Instr.makeSlice 76 (.int .i64 (L.length:Int)) (.int .i64 (L.length:Int))).run Tryz.prog W = .ok (.slice (some ⟨W.heap.size,0,none⟩) L.length L.length) (W.alloc (.cells (madeCells (Value.cells (.int .i64 0)) (L.length)) 3)):=by
  intro W;have:=run_make (P:=Tryz.prog) W 76 3 i0 _ Tryz.underlying76 hi0 hz0 .i64 .i64 L.length L.length (by omega) (by omega) (by rw [hz2];omega) (by omega);rw [hz1] at this;simpa using this
 have HV:=H_ hv;have HA:=H_ ha;have HL:=H_ hl0;clear hv ha hl0;have hn:(L.flatMap nat1).length=Nat.min L.length L.length * i0.size:=by rw [hz1,zan zah,show Nat.min L.length L.length=L.length from Nat.min_self _]
 have hpos:0 < (L.flatMap nat1).length->(some (⟨w.heap.size,0,none⟩:Addr)=some ⟨w.heap.size,0,none⟩/\∃ ad,a=some ad/\∀ j u,(L.flatMap nat1)[j]? = some u->(w.alloc (.cells (madeCells (Value.cells (.int .i64 0)) (L.length)) 3)).cell? (ad.add j)=some u):=by
  intro hp;rw [zan zah] at hp;obtain ⟨g0,o0,rfl⟩:=HA.out (by omega);exact ⟨rfl,_,rfl,fun j u hu=>SlF.cells zah (HV.out.alloc _) j u hu⟩
 have hfit:0+(L.flatMap nat1).length<=(madeCells (Value.cells (.int .i64 0)) (L.length)).size:=by rw [zan zah,size_madeCells];omega
 have HN:=H_ hn;have HP:=H_ hpos;have HFT:=H_ hfit;clear hn hpos hfit;go_enter Tryz.func176,Tryz.ntmps176;go_wp2_with (refine zbn rfl _ _ 76 76 3 i0 rfl Tryz.underlying76 hi0 _ _ L.length L.length L.length cap w.heap.size 0 (madeCells (Value.cells (.int .i64 0)) (L.length)) 3 (L.flatMap nat1) rfl rfl (zad _ _ _ rfl) HN.out HP.out HFT.out (zld L) ?_);intro w2 hw2 hg2;have hf:Fr No w (w.alloc (Obj.cells (madeCells (Value.cells (.int .i64 0)) (L.length)) 3)):=(Fr.refl No w).alloc _;have hmin:Nat.min L.length L.length=L.length:=Nat.min_self _;go_wp2;go_ret;refine ⟨w.heap.size,rfl,⟨zan zah L,.inr ⟨w.heap.size,0,L.length,_,rfl,hw2,Nat.le_refl _,by unfold maxLen;omega,?_,?_⟩⟩,?_,Nat.le_refl _⟩
 · have:=HL.out;unfold zhi at this
   simp [this]
 · have:=HL.out;unfold zhi at this
   have hm:(madeCells (Value.cells (.int .i64 0)) (L.length)).toList.length=L.length * 1:=(by rw [Array.length_toList,size_madeCells] <;> omega);simp only [List.drop_zero];rw [List.take_left' this]
 refine ⟨hg2.os.trans hf.os,hg2.tape.trans hf.tape,hg2.output.trans hf.output,Nat.le_trans hf.size hg2.size,fun k hk _=>(hg2.block k (Nat.lt_of_lt_of_le hk hf.size) fun e=>?_).trans (hf.block k hk id)⟩
 cases e
 omega
theorem cut_eq {α:Type} (L:List α) (i:Nat) (hi:i < L.length):(L.take i++(L.drop (i+1)).take (L.length - (i+1))++L.drop (i+(L.length - (i+1)))).take (L.length - 1)=L.take i++L.drop (i+1):=by
 rw [List.take_of_length_le (l:=L.drop (i+1)) (by simp),List.take_append_of_le_length (by simp;omega),List.take_of_length_le (by simp;omega)]
set_option maxHeartbeats 1000000 in
theorem zen (w:World) (v:Value) (L:List (ByteArray × Int)) (i:Nat) (hv:SlF w 122 2 pairC v L) (hi:i < L.length) (hl:L.length<=1000) :
 Calls Tryz.prog 170 #[v,.int .i64 i] w fun e w'=>∃ g o cap,e = .returned (.slice (some ⟨g,o,none⟩) (L.length - 1) cap)/\SlF w' 122 2 pairC (.slice (some ⟨g,o,none⟩) (L.length - 1) cap) (L.take i++L.drop (i+1)) ∧
  Fr (fun b=>v.ownBlock=some b) w w'/\v.ownBlock=some g:=by
 obtain ⟨i0,hi0,hz0,hz1,hz2⟩:=info_parts info127;obtain ⟨a,cap,rfl,hc1,hc2,ha⟩:=hv.shape;obtain ⟨g,o,rfl⟩:=ha (by omega);obtain ⟨cur,hcur,_,_,hfit0,_⟩:=hv.inner
 have hcs:(((L.drop (i+1)).take (L.length - (i+1))).flatMap pairC).length=(L.length - (i+1)) * 2:=by
  rw [zan zag];congr 1;simp
 have hn:(((L.drop (i+1)).take (L.length - (i+1))).flatMap pairC).length=Nat.min (L.length - (i+1)) (L.length - i) * i0.size:=by
  rw [hcs,hz1,show Nat.min (L.length - (i+1)) (L.length - i)=L.length - (i+1) from Nat.min_eq_left (by omega)]
 have hmul:(i+1) * 2+(L.length - (i+1)) * 2=L.length * 2:=by rw [<-Nat.add_mul];congr 1;omega
 have hmul2:i * 2+1 * 2=(i+1) * 2:=by rw [<-Nat.add_mul]
 have hmc:L.length * 2<=cap * 2:=Nat.mul_le_mul_right _ hc1;have hfit:o+i * 2+(((L.drop (i+1)).take (L.length - (i+1))).flatMap pairC).length<=cur.size:=by rw [hcs];omega
 have hpos:0 < (((L.drop (i+1)).take (L.length - (i+1))).flatMap pairC).length->((if cap=i then some (⟨g,o,none⟩:Addr) else some ⟨g,o+i * 2,none⟩)=some ⟨g,o+i * 2,none⟩/\∃ ad,(if cap=i+1 then some (⟨g,o,none⟩:Addr) else some ⟨g,o+(i+1) * 2,none⟩)=some ad ∧
  ∀ j u,(((L.drop (i+1)).take (L.length - (i+1))).flatMap pairC)[j]? = some u->w.drew.cell? (ad.add j)=some u):=by
  intro hp;rw [hcs] at hp
  have hil:i+1 < L.length:=by
   rcases Nat.lt_or_ge (i+1) L.length with h | h
   · exact h
   rw [show L.length - (i+1)=0 by omega] at hp;simp at hp
  rw [if_neg (by omega),if_neg (by omega)];refine ⟨by simp,_,rfl,fun j u hu=>?_⟩;rw [List.take_of_length_le (by simp)] at hu;have h1:=(hv.drop zag (i+1) (by omega)).drew;have h2:SlF w.drew 122 2 pairC (.slice (some ⟨g,o+(i+1) * 2,none⟩) (L.drop (i+1)).length (cap - (i+1))) (L.drop (i+1)):=(by rw [List.length_drop];exact h1);have h3:=SlF.cells zag h2 j u hu;simpa using h3
 have hcw:w.drew.heap[g]? = some (.cells cur 122 (0,0)):=hcur;have HN:=H_ hn;have HP:=H_ hpos;have HFT:=H_ hfit;have HV:=H_ hv;have HCS:=H_ hcs;have HCW:=H_ hcw;clear hn hpos hfit hv hcs hcw ha hmul hmul2 hmc hcur hfit0;have hi1:(i:Int)+1<=(L.length:Int):=by omega
 have hi2:(i:Int)<=(L.length:Int):=by omega
 have hi3:i+1<=L.length:=by omega
 have hi4:i<=L.length:=by omega
 have hi5:(0:Int)<=(i:Int)+1:=by omega
 have hi6:(0:Int)<=(i:Int):=by omega
 go_enter Tryz.func170,Tryz.ntmps170;go_wp2_with fail;refine wp_region_still_tail 7 (by kernel_rfl) (by kernel_rfl) ?_;simp only [List.take_succ_cons,List.take_zero,List.drop_succ_cons,List.drop_zero];change wpStill _ _ w.drew _ _ _
 repeat (refine wpStill_step (fun K hK=>?_);go_simp;(try go_bits);refine hK _ ?_;clear hK K)
 refine wpStill_nil ?_;change wpList _ _ _ _ _ w.drew;refine zbn rfl _ _ 119 119 122 i0 rfl Tryz.underlying119 hi0 _ _ _ _ _ _ g (o+i * 2) cur 122 (((L.drop (i+1)).take (L.length - (i+1))).flatMap pairC) rfl rfl HCW.out HN.out HP.out HFT.out (zmx _) ?_;intro w2 hw2 hg2;generalize (if cap=i then some (⟨g,o,none⟩:Addr) else some ⟨g,o+i * 2,none⟩)=A1;generalize (if cap=i+1 then some (⟨g,o,none⟩:Addr) else some ⟨g,o+(i+1) * 2,none⟩)=A2;have hs2:=SlF.copied (w:=w.drew) (w':=w2) (L:=L) zag HV.out.drew (i+1) i (L.length - (i+1)) (by omega) (by omega) cur HCW.out (by rw [HCS.out] at hw2;exact hw2);have HS2:=H_ hs2;have HG2:=H_ hg2;clear hs2 hw2 hg2;have hj1:(0:Int)<=(L.length:Int) - 1:=by omega
 have hj2:(L.length:Int) - 1<=(cap:Int):=by omega
 have hj3:((L.length:Int) - 1).toNat=L.length - 1:=by omega
 go_wp2;go_ret;refine ⟨g,o,cap,rfl,?_,((Fr.refl _ w).drew).grown HG2.out fun k hk=>.inl (by cases hk;rfl),rfl⟩;have h4:=HS2.out;have hl2:(L.take i++(L.drop (i+1)).take (L.length - (i+1))++L.drop (i+(L.length - (i+1)))).length=L.length:=by simp;omega
 have h5:=SlF.take zag (by rw [hl2];exact h4) (L.length - 1) (by rw [hl2];omega);rw [cut_eq L i hi] at h5;exact h5
set_option maxHeartbeats 1000000 in
theorem zhs (w:World) (v:Value) (L:List (Nat)) (i:Nat) (hv:SlF w 3 1 nat1 v L) (hi:i < L.length) (hl:L.length<=1000) :
 Calls Tryz.prog 182 #[v,.int .i64 i] w fun e w'=>∃ g o cap,e = .returned (.slice (some ⟨g,o,none⟩) (L.length - 1) cap)/\SlF w' 3 1 nat1 (.slice (some ⟨g,o,none⟩) (L.length - 1) cap) (L.take i++L.drop (i+1)) ∧
  Fr (fun b=>v.ownBlock=some b) w w'/\v.ownBlock=some g:=by
 obtain ⟨i0,hi0,hz0,hz1,hz2⟩:=info_parts info3;obtain ⟨a,cap,rfl,hc1,hc2,ha⟩:=hv.shape;obtain ⟨g,o,rfl⟩:=ha (by omega);obtain ⟨cur,hcur,_,_,hfit0,_⟩:=hv.inner
 have hcs:(((L.drop (i+1)).take (L.length - (i+1))).flatMap nat1).length=(L.length - (i+1)) * 1:=by
  rw [zan zah];congr 1;simp
 have hn:(((L.drop (i+1)).take (L.length - (i+1))).flatMap nat1).length=Nat.min (L.length - (i+1)) (L.length - i) * i0.size:=by
  rw [hcs,hz1,show Nat.min (L.length - (i+1)) (L.length - i)=L.length - (i+1) from Nat.min_eq_left (by omega)]
 have hmul:(i+1) * 1+(L.length - (i+1)) * 1=L.length * 1:=by rw [<-Nat.add_mul];congr 1;omega
 have hmul2:i * 1+1 * 1=(i+1) * 1:=by rw [<-Nat.add_mul]
 have hmc:L.length * 1<=cap * 1:=Nat.mul_le_mul_right _ hc1;have hfit:o+i * 1+(((L.drop (i+1)).take (L.length - (i+1))).flatMap nat1).length<=cur.size:=by rw [hcs];omega
 have hpos:0 < (((L.drop (i+1)).take (L.length - (i+1))).flatMap nat1).length->((if cap=i then some (⟨g,o,none⟩:Addr) else some ⟨g,o+i,none⟩)=some ⟨g,o+i * 1,none⟩/\∃ ad,(if cap=i+1 then some (⟨g,o,none⟩:Addr) else some ⟨g,o+(i+1),none⟩)=some ad ∧
  ∀ j u,(((L.drop (i+1)).take (L.length - (i+1))).flatMap nat1)[j]? = some u->w.drew.cell? (ad.add j)=some u):=by
  intro hp;rw [hcs] at hp
  have hil:i+1 < L.length:=by
   rcases Nat.lt_or_ge (i+1) L.length with h | h
   · exact h
   rw [show L.length - (i+1)=0 by omega] at hp;simp at hp
  rw [if_neg (by omega),if_neg (by omega)];refine ⟨by simp,_,rfl,fun j u hu=>?_⟩;rw [List.take_of_length_le (by simp)] at hu;have h1:=(hv.drop zah (i+1) (by omega)).drew;have h2:SlF w.drew 3 1 nat1 (.slice (some ⟨g,o+(i+1) * 1,none⟩) (L.drop (i+1)).length (cap - (i+1))) (L.drop (i+1)):=(by rw [List.length_drop];exact h1);have h3:=SlF.cells zah h2 j u hu;simpa using h3
 have hcw:w.drew.heap[g]? = some (.cells cur 3 (0,0)):=hcur;have HN:=H_ hn;have HP:=H_ hpos;have HFT:=H_ hfit;have HV:=H_ hv;have HCS:=H_ hcs;have HCW:=H_ hcw;clear hn hpos hfit hv hcs hcw ha hmul hmul2 hmc hcur hfit0;have hi1:(i:Int)+1<=(L.length:Int):=by omega
 have hi2:(i:Int)<=(L.length:Int):=by omega
 have hi3:i+1<=L.length:=by omega
 have hi4:i<=L.length:=by omega
 have hi5:(0:Int)<=(i:Int)+1:=by omega
 have hi6:(0:Int)<=(i:Int):=by omega
 go_enter Tryz.func182,Tryz.ntmps182;go_wp2_with fail;refine wp_region_still_tail 7 (by kernel_rfl) (by kernel_rfl) ?_;simp only [List.take_succ_cons,List.take_zero,List.drop_succ_cons,List.drop_zero];change wpStill _ _ w.drew _ _ _
 repeat (refine wpStill_step (fun K hK=>?_);go_simp;(try go_bits);refine hK _ ?_;clear hK K)
 refine wpStill_nil ?_;change wpList _ _ _ _ _ w.drew;refine zbn rfl _ _ 76 76 3 i0 rfl Tryz.underlying76 hi0 _ _ _ _ _ _ g (o+i * 1) cur 3 (((L.drop (i+1)).take (L.length - (i+1))).flatMap nat1) rfl rfl HCW.out HN.out HP.out HFT.out (zld _) ?_;intro w2 hw2 hg2;generalize (if cap=i then some (⟨g,o,none⟩:Addr) else some ⟨g,o+i,none⟩)=A1;generalize (if cap=i+1 then some (⟨g,o,none⟩:Addr) else some ⟨g,o+(i+1),none⟩)=A2;have hs2:=SlF.copied (w:=w.drew) (w':=w2) (L:=L) zah HV.out.drew (i+1) i (L.length - (i+1)) (by omega) (by omega) cur HCW.out (by rw [HCS.out] at hw2;exact hw2);have HS2:=H_ hs2;have HG2:=H_ hg2;clear hs2 hw2 hg2;have hj1:(0:Int)<=(L.length:Int) - 1:=by omega
 have hj2:(L.length:Int) - 1<=(cap:Int):=by omega
 have hj3:((L.length:Int) - 1).toNat=L.length - 1:=by omega
 go_wp2;go_ret;refine ⟨g,o,cap,rfl,?_,((Fr.refl _ w).drew).grown HG2.out fun k hk=>.inl (by cases hk;rfl),rfl⟩;have h4:=HS2.out;have hl2:(L.take i++(L.drop (i+1)).take (L.length - (i+1))++L.drop (i+(L.length - (i+1)))).length=L.length:=by simp;omega
 have h5:=SlF.take zah (by rw [hl2];exact h4) (L.length - 1) (by rw [hl2];omega);rw [cut_eq L i hi] at h5;exact h5
set_option maxHeartbeats 1000000 in
theorem zhn (w:World) (v:Value) (L:List Nat) (i:Nat) (x:Nat) (hv:SlF w 3 1 nat1 v L) (hi:i<=L.length) (hl:L.length<=1000) :
 Calls Tryz.prog 177 #[v,.int .i64 i,.int .i64 x] w fun e w'=>∃ g o cap,e = .returned (.slice (some ⟨g,o,none⟩) (L.length+1) cap) ∧
  SlF w' 3 1 nat1 (.slice (some ⟨g,o,none⟩) (L.length+1) cap) (L.take i++x :: L.drop i)/\Fr (fun b=>v.ownBlock=some b) w w'/\(v.ownBlock=some g\/w.heap.size<=g):=by
 obtain ⟨i0,hi0,hz0,hz1,hz2⟩:=info_parts info3;have hnew:=zar w [.int .i64 (x:Int)] 3 (0,0);have HV:=H_ hv;clear hv;have hil:(0:Int)<=(i:Int):=by omega
 go_enter Tryz.func177,Tryz.ntmps177;go_wp2_with (at_builtin;refine zao rfl _ _ 76 rfl 3 i0 _ 1 8 Tryz.underlying76 hi0 hz0 hz1 hz2 rfl (by decide) v L rfl (HV.out.alloc _) w.heap.size 1 x rfl (by simpa [nat1] using hnew) rfl (by intro u hu;simp [nat1] at hu;subst hu;rfl) (by unfold maxLen;omega) (by omega) ?_);intro g o cap w1 hs1 hg1 hb1 hlt1;have hgl:=HV.out.lt;have hF1:Fr (fun b=>v.ownBlock=some b) w w1:=(((Fr.refl _ w).alloc _).grown hg1 fun k hk=>.inl hk)
 have hgnew:v.ownBlock=some g\/w.heap.size<=g:=by
  rcases hb1 with e | e
  · exact .inl e
  right;omega
 have hL1:(L++[x]).length=L.length+1:=by simp
 obtain ⟨cur,hcur,hncap,_,hfit0,_⟩:=SlF.inner (L:=L++[x]) (by rw [hL1];exact hs1);rw [hL1] at hncap
 have hcs:((((L++[x]).drop i).take (L.length - i)).flatMap nat1).length=(L.length - i) * 1:=by
  rw [zan zah];congr 1;simp;omega
 have hn:((((L++[x]).drop i).take (L.length - i)).flatMap nat1).length=Nat.min (L.length+1 - i) (L.length - i) * i0.size:=by
  rw [hcs,hz1,show Nat.min (L.length+1 - i) (L.length - i)=L.length - i from Nat.min_eq_right (by omega)]
 have hfit:o+(i+1)+((((L++[x]).drop i).take (L.length - i)).flatMap nat1).length<=cur.size:=by rw [hcs];omega
 have hpos:0 < ((((L++[x]).drop i).take (L.length - i)).flatMap nat1).length->((if cap=i+1 then some (⟨g,o,none⟩:Addr) else some ⟨g,o+(i+1),none⟩)=some ⟨g,o+(i+1),none⟩/\∃ ad,(if cap=i then some (⟨g,o,none⟩:Addr) else some ⟨g,o+i,none⟩)=some ad ∧
  ∀ j u,((((L++[x]).drop i).take (L.length - i)).flatMap nat1)[j]? = some u->w1.drew.cell? (ad.add j)=some u):=by
  intro hp;rw [hcs] at hp;rw [if_neg (by omega),if_neg (by omega)];refine ⟨rfl,_,rfl,fun j u hu=>?_⟩;have hj:=(List.getElem?_eq_some_iff.1 hu).1;rw [hcs] at hj;have h1:=(SlF.drop (L:=L++[x]) zah (by rw [hL1];exact hs1) i (by rw [hL1];omega)).drew;have h2:SlF w1.drew 3 1 nat1 (.slice (some ⟨g,o+i * 1,none⟩) ((L++[x]).drop i).length (cap - i)) ((L++[x]).drop i):=(by rw [List.length_drop];exact h1)
  have hu2:(((L++[x]).drop i).flatMap nat1)[j]? = some u:=by
   have h6:=zds zah ((L++[x]).drop i) (L.length - i);rw [<-h6,List.getElem?_take,if_pos (by omega)] at hu;exact hu
  have h3:=SlF.cells zah h2 j u hu2;simpa using h3
 have hcw:w1.drew.heap[g]? = some (.cells cur 3 (0,0)):=hcur;have H1:=H_ hs1;have HG1:=H_ hg1;have HL:=H_ hL1;have HN:=H_ hn;have HP:=H_ hpos;have HFT:=H_ hfit;have HCS:=H_ hcs;have HCW:=H_ hcw;clear hs1 hg1 hL1 hnew hn hpos hfit hcs hcw hcur hfit0;have hi1:(i:Int)+1<=(L.length:Int)+1:=by omega
 have hi5:(0:Int)<=(i:Int)+1:=by omega
 have hi2:(i:Int)<=(L.length:Int)+1:=by omega
 have hi3:i+1<=L.length+1:=by omega
 have hi4:i<=L.length+1:=by omega
 go_wp2_with fail;refine wp_region_still_tail 7 (by kernel_rfl) (by kernel_rfl) ?_;simp only [List.take_succ_cons,List.take_zero,List.drop_succ_cons,List.drop_zero];change wpStill _ _ w1.drew _ _ _
 repeat (refine wpStill_step (fun K hK=>?_);go_simp;(try go_bits);refine hK _ ?_;clear hK K)
 refine wpStill_nil ?_;change wpList _ _ _ _ _ w1.drew;refine zbn rfl _ _ 76 76 3 i0 rfl Tryz.underlying76 hi0 _ _ _ _ _ _ g (o+(i+1)) cur 3 ((((L++[x]).drop i).take (L.length - i)).flatMap nat1) rfl rfl HCW.out HN.out HP.out HFT.out (zld _) ?_;intro w2 hw2 hgr2;generalize (if cap=i+1 then some (⟨g,o,none⟩:Addr) else some ⟨g,o+(i+1),none⟩)=A1;generalize (if cap=i then some (⟨g,o,none⟩:Addr) else some ⟨g,o+i,none⟩)=A2;have hs2:=SlF.copied (w:=w1.drew) (w':=w2) (L:=L++[x]) zah (by have:=H1.out;rw [HL.out];exact this) i (i+1) (L.length - i) (by simp;omega) (by simp;omega) cur HCW.out (by rw [HCS.out] at hw2;simpa using hw2);have HE:=H_ (zng L x i hi);generalize hL2:((L++[x]).take (i+1)++((L++[x]).drop i).take (L.length - i)++(L++[x]).drop (i+1+(L.length - i)))=L2 at hs2 HE
 have hL2l:L2.length=L.length+1:=by rw [<-hL2];simp;omega
 obtain ⟨y,hy⟩:∃ y,L2[i]? = some y:=⟨_,List.getElem?_eq_getElem (by omega)⟩;have hs2':SlF w2 3 1 nat1 (.slice (some ⟨g,o,none⟩) L2.length cap) L2:=by rw [hL2l];rwa [HL.out] at hs2
 have d0:=hs2'.cell1 zah i hy rfl;have f0:=hs2'.free (o+i);have H2:=H_ hs2';have HY:=H_ hy;have HL2:=H_ hL2l;have HG2:=H_ hgr2;have hi6:(i:Int) < (L.length:Int)+1:=by omega
 have hi7:i < L.length+1:=by omega
 clear hs2 hs2' hy hL2 hL2l hgr2 hw2;go_wp2;go_ret;refine ⟨g,o,cap,rfl,?_,?_,hgnew⟩
 · have e1:=SlF.set zah H2.out i 0 (by omega) y x (.int .i64 x) HY.out rfl
   rw [HE.out,HL2.out] at e1;simpa using e1
 have hF2:Fr (fun b=>v.ownBlock=some b) w w2:=hF1.drew.grown HG2.out fun k hk=>by cases hk;exact hgnew
 exact hF2.setCell (p:=⟨g,o+i,none⟩) hgnew _
open Go Go.RowKit
theorem zex {P:Program} (w:World) (t ty e:TypeId) (i:TypeInfo) (ht:P.underlying t=some (.slice e)) (hi:P.info? e=some i) (a sp:Option Addr) (n cap c:Nat) (hn:n<=cap) :
 (Builtin.append_ #[t,t] ty #[.slice a n cap,.slice sp 0 c]).run P w = .ok (.slice a n cap) w:=by
 cases a <;> cases sp <;> simp [Builtin.append_,run_underlying ht,sizeOf,typeInfo,hi,Builtin.lenOf,hn,Builtin.firstCells,loadCells,loadCellsFrom,storeCells]
theorem zjs {α:Type} {f:α->List Value} {P:Program} (w:World) (t ty e:TypeId) (i:TypeInfo) (z:Value) (ht:P.underlying t=some (.slice e)) (hi:P.info? e=some i) (hz:i.zero=some z) (hzs:z.cells.size=i.size) (hsz:0 < i.size)
 (hf:∀ x,(f x).length=i.size) (h1:∀ x,∀ u∈f x,u.oneCell'=true) (v x:Value) (L M:List α) (hv:SlF w e i.size f v L) (hx:SlF w e i.size f x M) (h63:L.length+M.length<=maxLen) (hbytes:(L.length+M.length) * i.bytes<=140737488355328) :
 ∃ v' w',(Builtin.append_ #[t,t] ty #[v,x]).run P w = .ok v' w'/\SlF w' e i.size f v' (L++M)/\Fr (fun b=>v.ownBlock=some b) w w'/\(∀ b,v'.ownBlock=some b->v.ownBlock=some b\/w.heap.size<=b):=by
 rcases Nat.eq_zero_or_pos M.length with h0 | hp
 · obtain rfl:=List.eq_nil_of_length_eq_zero h0
   obtain ⟨a,cap,rfl,hc,_⟩:=hv.shape;obtain ⟨sp,c,rfl,_⟩:=hx.shape;exact ⟨_,w,zex w t ty e i ht hi a sp _ cap c hc,by rw [List.append_nil];exact hv,Fr.refl _ w,fun b hb=>.inl hb⟩
 obtain ⟨sp,c,rfl,hc1,hc2,hsp⟩:=hx.shape
 obtain ⟨g0,o0,rfl⟩:=hsp hp
 obtain ⟨g,o,cap,w',hr,h2,h3,h4,h5⟩:=zci (P:=P) w t ty e i z ht hi hz hzs hsz v L.length (L.flatMap f) hv ⟨g0,o0,none⟩ M.length c (M.flatMap f) (zan hf M) hp
  (fun j u hu=>SlF.cells hf hx j u hu) (fun u hu=>by obtain ⟨y,_,hy⟩:=List.mem_flatMap.1 hu;exact h1 y u hy) h63 hbytes
 refine ⟨_,w',hr,?_,(Fr.refl _ w).grown h3 fun k hk=>.inl hk,fun b hb=>?_⟩
 · unfold SlF
   rw [List.length_append,List.flatMap_append];exact h2
 obtain rfl:g=b:=by simpa [Value.ownBlock] using hb
 rcases h4 with e | e
 · exact .inl e
 right;omega
theorem zbe {α:Type} {f:α->List Value} {P:Program} {w:World} {ops:Array Oper} {o:Oper} {a:Act} {K:Act->World->Prop} {Q:Exit->Act->World->Prop} {E:Prop} (hgd:o.guard=none) (s x:Operand) (t:TypeId)
 (ho:o.op = .call { callee:=.builtin .append,args:=#[s,x],argTypes:=#[t,t] })
 (e:TypeId) (i:TypeInfo) (z:Value) (sz bytes:Nat) (ht:P.underlying t=some (.slice e)) (hi:P.info? e=some i) (hz:i.zero=some z) (hsize:i.size=sz) (hby:i.bytes=bytes) (hzs:z.cells.size=sz) (hsz:0 < sz)
 (hf:∀ x,(f x).length=sz) (h1:∀ x,∀ u∈f x,u.oneCell'=true) (v xv:Value) (L M:List α) (hs:a.eval s=v) (hx:a.eval x=xv) (hv:SlF w e sz f v L) (hxv:SlF w e sz f xv M)
 (h63:L.length+M.length<=maxLen) (hbytes:(L.length+M.length) * bytes<=140737488355328)
 (h:∀ v' w',SlF w' e sz f v' (L++M)->Fr (fun b=>v.ownBlock=some b) w w'->(∀ b,v'.ownBlock=some b->v.ownBlock=some b\/w.heap.size<=b)->K (a.put o.dst v') w') :
 if Region.wanted o (yielded ops a.tmps)=true then Oper.wp P o a w K Q else E:=by
 have hw:Region.wanted o (yielded ops a.tmps)=true:=by simp [Region.wanted,hgd]
 rw [if_pos hw];subst hsize;subst hby;obtain ⟨v',w',hr,h2,h3,h4⟩:=zjs (P:=P) (f:=f) w t o.type e i z ht hi hz hzs hsz hf h1 v xv L M hv hxv h63 hbytes;unfold Oper.wp execOp;simp only [ho,resolve,invoke,builtin,Sem.run_bind,Sem.run_pure,Result.andThen_ok,List.map_toArray,List.map_cons,List.map_nil,hs,hx,hr];exact h v' w' h2 h3 h4
theorem SlR.flat {α:Type} {f:α->List Value} {w:World} {sz g o cap:Nat} {L:List α} (hf:∀ x,(f x).length=sz) (hsz:0 < sz) (h:SlR w sz f (.slice (some ⟨g,o,none⟩) L.length cap) L) (j:Nat) (u:Value) (hu:(L.flatMap f)[j]? = some u) :
 w.cell? ((⟨g,o,none⟩:Addr).add j)=some u:=by
 have hj:j / sz * sz+j % sz=j:=Nat.div_add_mod' j sz;have hm:=Nat.mod_lt j hsz;rw [<-hj,zlk hf L _ _ hm] at hu;obtain ⟨x,hx,hu2⟩:=Option.bind_eq_some_iff.1 hu;have h2:=h.cell hf (j / sz) (j % sz) hx hu2;have hadd:(⟨g,o,none⟩:Addr).add j=⟨g,o+j,none⟩:=by unfold Addr.add;split <;> simp_all
 rw [hadd,show o+j=o+j / sz * sz+j % sz by omega];exact h2
theorem zey {α:Type} {f:α->List Value} {P:Program} (w:World) (t ty e:TypeId) (i:TypeInfo) (z:Value) (ht:P.underlying t=some (.slice e)) (hi:P.info? e=some i) (hz:i.zero=some z) (hzs:z.cells.size=i.size) (hsz:0 < i.size)
 (hf:∀ x,(f x).length=i.size) (h1:∀ x,∀ u∈f x,u.oneCell'=true) (v x:Value) (L M:List α) (hv:SlF w e i.size f v L) (hx:SlR w i.size f x M) (h63:L.length+M.length<=maxLen) (hbytes:(L.length+M.length) * i.bytes<=140737488355328) :
 ∃ v' w',(Builtin.append_ #[t,t] ty #[v,x]).run P w = .ok v' w'/\SlF w' e i.size f v' (L++M)/\Fr (fun b=>v.ownBlock=some b) w w'/\(∀ b,v'.ownBlock=some b->v.ownBlock=some b\/w.heap.size<=b):=by
 rcases Nat.eq_zero_or_pos M.length with h0 | hp
 · obtain rfl:=List.eq_nil_of_length_eq_zero h0
   obtain ⟨a,cap,rfl,hc,_⟩:=hv.shape;obtain ⟨sp,c,rfl,_⟩:=hx.shape;exact ⟨_,w,zex w t ty e i ht hi a sp _ cap c hc,by rw [List.append_nil];exact hv,Fr.refl _ w,fun b hb=>.inl hb⟩
 obtain ⟨sp,c,rfl,hc1,hc2,hsp⟩:=hx.shape
 obtain ⟨g0,o0,rfl⟩:=hsp hp
 obtain ⟨g,o,cap,w',hr,h2,h3,h4,h5⟩:=zci (P:=P) w t ty e i z ht hi hz hzs hsz v L.length (L.flatMap f) hv ⟨g0,o0,none⟩ M.length c (M.flatMap f) (zan hf M) hp
  (fun j u hu=>SlR.flat hf hsz hx j u hu) (fun u hu=>by obtain ⟨y,_,hy⟩:=List.mem_flatMap.1 hu;exact h1 y u hy) h63 hbytes
 refine ⟨_,w',hr,?_,(Fr.refl _ w).grown h3 fun k hk=>.inl hk,fun b hb=>?_⟩
 · unfold SlF
   rw [List.length_append,List.flatMap_append];exact h2
 obtain rfl:g=b:=by simpa [Value.ownBlock] using hb
 rcases h4 with e | e
 · exact .inl e
 right;omega
theorem zhu {α:Type} {f:α->List Value} {P:Program} {w:World} {ops:Array Oper} {o:Oper} {a:Act} {K:Act->World->Prop} {Q:Exit->Act->World->Prop} {E:Prop} (hgd:o.guard=none) (s x:Operand) (t:TypeId)
 (ho:o.op = .call { callee:=.builtin .append,args:=#[s,x],argTypes:=#[t,t] })
 (e:TypeId) (i:TypeInfo) (z:Value) (sz bytes:Nat) (ht:P.underlying t=some (.slice e)) (hi:P.info? e=some i) (hz:i.zero=some z) (hsize:i.size=sz) (hby:i.bytes=bytes) (hzs:z.cells.size=sz) (hsz:0 < sz)
 (hf:∀ x,(f x).length=sz) (h1:∀ x,∀ u∈f x,u.oneCell'=true) (v xv:Value) (L M:List α) (hs:a.eval s=v) (hx:a.eval x=xv) (hv:SlF w e sz f v L) (hxv:SlR w sz f xv M)
 (h63:L.length+M.length<=maxLen) (hbytes:(L.length+M.length) * bytes<=140737488355328)
 (h:∀ v' w',SlF w' e sz f v' (L++M)->Fr (fun b=>v.ownBlock=some b) w w'->(∀ b,v'.ownBlock=some b->v.ownBlock=some b\/w.heap.size<=b)->K (a.put o.dst v') w') :
 if Region.wanted o (yielded ops a.tmps)=true then Oper.wp P o a w K Q else E:=by
 have hw:Region.wanted o (yielded ops a.tmps)=true:=by simp [Region.wanted,hgd]
 rw [if_pos hw];subst hsize;subst hby;obtain ⟨v',w',hr,h2,h3,h4⟩:=zey (P:=P) (f:=f) w t o.type e i z ht hi hz hzs hsz hf h1 v xv L M hv hxv h63 hbytes;unfold Oper.wp execOp;simp only [ho,resolve,invoke,builtin,Sem.run_bind,Sem.run_pure,Result.andThen_ok,List.map_toArray,List.map_cons,List.map_nil,hs,hx,hr];exact h v' w' h2 h3 h4
theorem znw {α:Type} {f:α->List Value} {P:Program} {w:World} {ops:Array Oper} {rest:List Oper} {o:Oper} {a:Act} {Q:Exit->Act->World->Prop} (hgd:o.guard=none) (s x:Operand) (t:TypeId)
 (ho:o.op = .call { callee:=.builtin .append,args:=#[s,x],argTypes:=#[t,t] })
 (e:TypeId) (i:TypeInfo) (z:Value) (sz bytes:Nat) (ht:P.underlying t=some (.slice e)) (hi:P.info? e=some i) (hz:i.zero=some z) (hsize:i.size=sz) (hby:i.bytes=bytes) (hzs:z.cells.size=sz) (hsz:0 < sz)
 (hf:∀ x,(f x).length=sz) (h1:∀ x,∀ u∈f x,u.oneCell'=true) (v xv:Value) (L M:List α) (hs:a.eval s=v) (hx:a.eval x=xv) (hv:SlF w e sz f v L) (hxv:SlR w sz f xv M)
 (w0:World) (hnb:∀ k,v.ownBlock=some k->w0.heap.size<=k) (hfr:Fr No w0 w)
 (h63:L.length+M.length<=maxLen) (hbytes:(L.length+M.length) * bytes<=140737488355328)
 (h:∀ (b:Option Addr) (cap:Nat) (w':World),SlF w' e sz f (.slice b (L++M).length cap) (L++M)->(∀ j,(Value.slice b (L++M).length cap).ownBlock=some j->w0.heap.size<=j)->Fr No w0 w'->wpList P ops Q rest (a.put o.dst (.slice b (L++M).length cap)) w'):wpList P ops Q (o :: rest) a w:=by
 subst hsize;subst hby;refine wpList_plain hgd fun _ hK=>?_;obtain ⟨v',w',hr,h2,h3,h4⟩:=zey (P:=P) (f:=f) w t o.type e i z ht hi hz hzs hsz hf h1 v xv L M hv hxv h63 hbytes;have hfs:=hfr.size;have hf9:Fr No w0 w':=hfr.trans h3 fun b hb h=>absurd (hnb b h) (by omega);have hn9:∀ j,v'.ownBlock=some j->w0.heap.size<=j:=fun j hj=>(h4 j hj).elim (hnb j) fun h=>by omega
 obtain ⟨b,cap,rfl,_⟩:=h2.shape;unfold Oper.wp execOp;simp only [ho,resolve,invoke,builtin,Sem.run_bind,Sem.run_pure,Result.andThen_ok,List.map_toArray,List.map_cons,List.map_nil,hs,hx,hr];exact hK _ _ (h b cap w' h2 hn9 hf9)
theorem zef {a:Option Addr} {n m c d:Nat}:(Value.slice a n c).ownBlock=(Value.slice a m d).ownBlock:=by cases a <;> rfl
def zpq (D:Doc) (E:List Ev) (vk u2:Value) (w:World) (e:Ending) (w':World):Prop:=∃ a c,e = .returned (docV (zbf D E) vk (.slice a (zbf D E).events.length c))/\SlR w' 13 evC (.slice a (zbf D E).events.length c) (zbf D E).events/\Fr No w w'/\∀ b,0 < (zbf D E).events.length->(Value.slice a (zbf D E).events.length c).ownBlock=some b->(0 < D.events.length/\u2.ownBlock=some b)\/w.heap.size<=b
set_option maxHeartbeats 4000000 in
theorem zfa (w:World) (D:Doc) (a1 a2 a3:Option Addr) (n1 k1 k2 k3:Nat) (E:List Ev) (hD:SlR w 13 evC (.slice a2 D.events.length k2) D.events) (hE:SlR w 13 evC (.slice a3 E.length k3) E) (hl:D.events.length+E.length<=100000000) (hr : -1099511627776<=D.rev/\D.rev<=1099511627776) :
 Calls Tryz.prog 111 #[docV D (.slice a1 n1 k1) (.slice a2 D.events.length k2),.slice a3 E.length k3] w (zpq D E (.slice a1 n1 k1) (.slice a2 D.events.length k2) w):=by
 have hdE:=fun h:E = []=>show zbf D E=D from if_pos h
 have hdN:=fun h:E≠[]=>show zbf D E=⟨D.rev+1,D.mark,D.kvs,D.events++E⟩ from if_neg h
 obtain ⟨i0,hi0,hz0,hz1,hz2⟩:=info_parts info73;have hb1:((w.alloc (Obj.cells #[.int .i64 D.rev,.int .i64 D.mark,.slice a1 n1 k1,.slice a2 D.events.length k2] 30)).alloc (Obj.cells #[.int .i64 0,.int .i64 0,.slice none 0 0,.slice none 0 0] 30)).heap[w.heap.size]? = some (Obj.cells #[.int .i64 D.rev,.int .i64 D.mark,.slice a1 n1 k1,.slice a2 D.events.length k2] 30 (0,0)):=zaj (zad w _ _ rfl) _;have hb2:((w.alloc (Obj.cells #[.int .i64 D.rev,.int .i64 D.mark,.slice a1 n1 k1,.slice a2 D.events.length k2] 30)).alloc (Obj.cells #[.int .i64 0,.int .i64 0,.slice none 0 0,.slice none 0 0] 30)).heap[w.heap.size+1]? = some (Obj.cells #[.int .i64 0,.int .i64 0,.slice none 0 0,.slice none 0 0] 30 (0,0)):=zad _ _ _ (by simp)
 have hf2:Fr No w ((w.alloc (Obj.cells #[.int .i64 D.rev,.int .i64 D.mark,.slice a1 n1 k1,.slice a2 D.events.length k2] 30)).alloc (Obj.cells #[.int .i64 0,.int .i64 0,.slice none 0 0,.slice none 0 0] 30)):=((Fr.refl No w).alloc _).alloc _;have HB1:=H_ hb1;have HB2:=H_ hb2;have HF2:=H_ hf2;have HD0:=H_ hD;have HD:=H_ (hD.fr0 hf2);have HE:=H_ (hE.fr0 hf2);have HDN:=H_ hdN;have HDE:=H_ hdE;have HEL:Hid (E.length=0->E = []):=H_ List.eq_nil_of_length_eq_zero;have hwr:IntKind.i64.wrap (D.rev+1)=D.rev+1:=by rw [IntKind.wrap_i64];omega
 clear hb1 hb2 hf2 hD hE hdN hdE;unfold docV;go_enter Tryz.func111,Tryz.ntmps111;go_upto_region 1 with fail;generalize (w.alloc (Obj.cells #[.int .i64 D.rev,.int .i64 D.mark,.slice a1 n1 k1,.slice a2 D.events.length k2] 30)).alloc (Obj.cells #[.int .i64 0,.int .i64 0,.slice none 0 0,.slice none 0 0] 30)=W2 at *;have hs2:W2.heap.size=W2.heap.size:=rfl;generalize hrb:w.heap.size+1=rb at *;generalize hdb:w.heap.size=db at *
 have HS:Hid (∀ W,Fr No W2 W->W.cell? ⟨db,0,none⟩=some (.int .i64 D.rev)/\W.cell? ⟨db,1,none⟩=some (.int .i64 D.mark)/\W.cell? ⟨db,2,none⟩=some (.slice a1 n1 k1)/\W.cell? ⟨db,3,none⟩=some (.slice a2 D.events.length k2)/\W.cell? ⟨rb,0,none⟩=some (.int .i64 0)/\W.cell? ⟨rb,1,none⟩=some (.int .i64 0)/\W.cell? ⟨rb,2,none⟩=some (.slice none 0 0)/\W.cell? ⟨rb,3,none⟩=some (.slice none 0 0)):=H_ (fun W hW=>by
  have h1:=hW.heap HB1.out id;have h2:=hW.heap HB2.out id;unfold World.cell?;dsimp only;rw [h1,h2];exact ⟨rfl,rfl,rfl,rfl,rfl,rfl,rfl,rfl⟩)
 have HFZ:Hid (∀ W,Fr No W2 W->∀ j,W.frozen? ⟨rb,j,none⟩=false):=H_ (fun W hW j=>by simp [World.frozen?,hW.heap HB2.out id]);have hdr:db≠rb:=by omega
 by_cases hE0:E.length=0
 · obtain ⟨x0,x1,x2,x3,y0,y1,y2,y3⟩:=HS.out W2 (Fr.refl No W2)
   have yf:=HFZ.out W2 (Fr.refl No W2);have l1:=zac HB1.out;have l2:=zac HB2.out
   have hw:Fr No w ((((W2.setCell ⟨rb,0,none⟩ (.int .i64 D.rev)).setCell ⟨rb,1,none⟩ (.int .i64 D.mark)).setCell ⟨rb,2,none⟩ (.slice a1 n1 k1)).setCell ⟨rb,3,none⟩ (.slice a2 D.events.length k2)) :=
    (((HF2.out.setCell (p:=⟨rb,0,none⟩) (.inr (by show w.heap.size<=rb;omega)) _).setCell (p:=⟨rb,1,none⟩) (.inr (by show w.heap.size<=rb;omega)) _).setCell (p:=⟨rb,2,none⟩) (.inr (by show w.heap.size<=rb;omega)) _).setCell (p:=⟨rb,3,none⟩) (.inr (by show w.heap.size<=rb;omega)) _
   have h4:=zaa (zaa (zaa (zaa HB2.out 0 (.int .i64 D.rev)) 1 (.int .i64 D.mark)) 2 (.slice a1 n1 k1)) 3 (.slice a2 D.events.length k2);have hev:SlR ((((W2.setCell ⟨rb,0,none⟩ (.int .i64 D.rev)).setCell ⟨rb,1,none⟩ (.int .i64 D.mark)).setCell ⟨rb,2,none⟩ (.slice a1 n1 k1)).setCell ⟨rb,3,none⟩ (.slice a2 D.events.length k2)) 13 evC (.slice a2 D.events.length k2) D.events:=HD0.out.fr0 hw;have HW:=H_ hw;have H4:=H_ h4;have HEV:=H_ hev;have HQ:=H_ (HDE.out (HEL.out hE0));clear hw h4 hev;go_wp2;refine bodyPost_ret (results_cell_row rfl _ _ rb 30 _ (0,0) _ rfl H4.out Tryz.underlying30 rfl (by kernel_rfl)) rfl ?_;refine ⟨a2,k2,?_,by rw [HQ.out];exact HEV.out,HW.out,fun b h0 hb=>.inl ⟨by rw [HQ.out] at h0;exact h0,zef.trans hb⟩⟩;rw [HQ.out]
   rfl
 obtain ⟨x0,x1,x2,x3,_,_,_,_⟩:=HS.out W2 (Fr.refl No W2)
 have l1:=zac HB1.out;have l2:=zac HB2.out;go_upto_region 5 with (at_builtin;refine znw rfl _ _ 28 rfl 101 i0 _ 13 136 Tryz.underlying28 hi0 hz0 hz1 hz2 rfl (by decide) zab zek (.slice none 0 0) _ [] D.events rfl rfl (SlF.nil _ _ _ _) HD.out W2 (by simp [Value.ownBlock]) (Fr.refl No W2) (by unfold maxLen;simp only [List.length_nil];omega) (by simp only [List.length_nil];omega) ?_);intro b5 cap5 w5 hs5 hn5 hf5;have g5:Fr No W2 w5.drew:=hf5.drew;have HS5:=H_ hs5;have HN5:=H_ hn5;have HE5:=H_ (HE.out.fr0 hf5);have l1':db < w5.heap.size:=Nat.lt_of_lt_of_le l1 hf5.size;have l2':rb < w5.heap.size:=Nat.lt_of_lt_of_le l2 hf5.size;clear x0 x1 x2 x3;obtain ⟨x0,x1,x2,x3,y0,y1,y2,y3⟩:=HS.out w5 hf5;have yf:=HFZ.out w5 hf5;have hzz:W2.heap.size<=w5.heap.size:=hf5.size;clear hs5 hn5 hf5;go_upto_region 5 with fail
 go_region_law (refine zhu rfl _ _ 28 rfl 101 i0 _ 13 136 Tryz.underlying28 hi0 hz0 hz1 hz2 rfl (by decide) zab zek (.slice b5 D.events.length cap5) (.slice a3 E.length k3) D.events E rfl rfl HS5.out.drew HE5.out.drew (by unfold maxLen;omega) (by omega) ?_;intro v6 w6 hs6 hf6 hb6;obtain ⟨va,vcap,rfl,_,_,_⟩:=hs6.shape;have g6:Fr No W2 w6:=g5.trans hf6 (fun j hj h=>absurd (HN5.out j h) (by omega));obtain ⟨x0,x1,x2,x3,y0,y1,y2,y3⟩:=HS.out w6 g6;have yf:=HFZ.out w6 g6;have l6:=g6.size;have HS6:=H_ hs6;have HB6:=H_ hb6;have G6:=H_ g6;clear hs6 hf6 hb6)
 all_goals
  go_wp2;have hs6:=HS6.out;rw [List.length_append] at hs6
  have hne:(Value.slice va (D.events.length+E.length) vcap).ownBlock≠some rb:=fun e=>by
   rcases HB6.out rb (by rw [List.length_append];exact e) with h | h
   · have:=HN5.out rb h;omega
   have h':w5.heap.size<=rb:=h
   omega
  have hw:Fr No w ((((w6.setCell ⟨rb,0,none⟩ (.int .i64 (D.rev+1))).setCell ⟨rb,1,none⟩ (.int .i64 D.mark)).setCell ⟨rb,2,none⟩ (.slice a1 n1 k1)).setCell ⟨rb,3,none⟩ (.slice va (D.events.length+E.length) vcap)) :=
   ((((HF2.out.trans0 G6.out).setCell (p:=⟨rb,0,none⟩) (.inr (by show w.heap.size<=rb;omega)) _).setCell (p:=⟨rb,1,none⟩) (.inr (by show w.heap.size<=rb;omega)) _).setCell (p:=⟨rb,2,none⟩) (.inr (by show w.heap.size<=rb;omega)) _).setCell (p:=⟨rb,3,none⟩) (.inr (by show w.heap.size<=rb;omega)) _
  have h4:=zaa (zaa (zaa (zaa (G6.out.heap HB2.out id) 0 (.int .i64 (D.rev+1))) 1 (.int .i64 D.mark)) 2 (.slice a1 n1 k1)) 3 (.slice va (D.events.length+E.length) vcap);have hev:SlF ((((w6.setCell ⟨rb,0,none⟩ (.int .i64 (D.rev+1))).setCell ⟨rb,1,none⟩ (.int .i64 D.mark)).setCell ⟨rb,2,none⟩ (.slice a1 n1 k1)).setCell ⟨rb,3,none⟩ (.slice va (D.events.length+E.length) vcap)) 101 13 evC (.slice va (D.events.length+E.length) vcap) (D.events++E):=(((hs6.other ⟨rb,0,none⟩ _ hne).other ⟨rb,1,none⟩ _ hne).other ⟨rb,2,none⟩ _ hne).other ⟨rb,3,none⟩ _ hne;have HW:=H_ hw;have H4:=H_ h4;have HEV:=H_ hev;have HQ:=H_ (HDN.out (fun h=>hE0 (by rw [h];rfl)));clear hw h4 hev hs6;refine bodyPost_ret (results_cell_row rfl _ _ rb 30 _ (0,0) _ rfl H4.out Tryz.underlying30 rfl (by kernel_rfl)) rfl ?_
  refine ⟨va,vcap,?_,?_,HW.out,fun b _ hb=>.inr ?_⟩
  rotate_left 2
  · rcases HB6.out b (zef.trans hb) with h | h
    · have:=HN5.out b h
      have:=HF2.out.size;omega
    have h':w5.heap.size<=b:=h
    have:=HF2.out.size;omega
  · rw [HQ.out,List.length_append]
    rfl
  rw [HQ.out,List.length_append]
  exact HEV.out.toR zab
end Go.Proofs.YthljnnjpmdgkoaaGreat