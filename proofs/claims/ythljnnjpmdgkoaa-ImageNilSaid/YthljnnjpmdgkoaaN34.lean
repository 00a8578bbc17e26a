/- Own lemmas and contracts that the claim's proof needs, laid together. The conditions stand in each. -/
import Derived.Test.YthljnnjpmdgkoaaN33
import Derived.Lib.ConvBytes
namespace Go.Proofs.Ythljnnjpmdgkoaa
open Go Go.Proofs Go.RowKit
set_option maxRecDepth 100000
theorem zcr (l:List UInt8) (a b:Nat):(⟨l.toArray⟩:ByteArray).extract a b=⟨((l.drop a).take (b - a)).toArray⟩:=by
 apply ByteArray.ext;rw [ByteArray.data_extract];simp []
def rdK (s:Rd) (n:Int):Rd × List UInt8:=if n < 0\/(s.1.length:Int) < n then ((s.1,true),[]) else ((s.1.drop n.toNat,s.2),s.1.take n.toNat)
theorem rdN_K (s:Rd):rdN s=((rdK s 8).1,numR (rdK s 8).2):=by
 unfold rdN rdK;by_cases h:s.1.length < 8
 · rw [if_pos h,if_pos (.inr (by omega))]
   have h0:numR [] = 0:=(by simp [numR,valN,wrap64]);dsimp only;rw [h0]
 rw [if_neg h,if_neg (by omega)]
 rfl
theorem rdT_K (s:Rd):rdT s=((rdK (rdN s).1 (rdN s).2).1,⟨(rdK (rdN s).1 (rdN s).2).2.toArray⟩):=by
 unfold rdT rdK;dsimp only
 split <;> rfl
set_option maxHeartbeats 4000000 in
theorem zfw (w:World) (lb cb c:Nat) (l:List UInt8) (bad:Bool) (f0 f1:Value) (n:Int) (h1:Has w lb [.string ⟨l.toArray⟩]) (h2:Has w cb [.pointer (some ⟨c,0,none⟩)]) (h3:Has w c [f0,f1,.bool bad]) (hlc:lb≠c) (_hcc:cb≠c) (_hl:l.length<=1099511627776) :
 Calls Try.prog 59 (#[.int .i64 n] ++ #[.pointer (some ⟨lb,0,none⟩),.pointer (some ⟨cb,0,none⟩)]) w fun en w'=>en = .returned (.string ⟨(rdK (l,bad) n).2.toArray⟩)/\Has w' lb [.string ⟨(rdK (l,bad) n).1.1.toArray⟩]/\Has w' c [f0,f1,.bool (rdK (l,bad) n).1.2]/\Fr (fun x=>x=lb\/x=c) w w':=by
 have c0:=h1.cell 0 rfl;have c1:=h2.cell 0 rfl;have c2:=h3.cell 2 rfl;have g0:=h1.free 0;have g2:=h3.free 2;have l1:=h1.lt;have l2:=h2.lt;have l3:=h3.lt;have hsz:(⟨l.toArray⟩:ByteArray).size=l.length:=by simp [ByteArray.size]
 have H1:=H_ h1;have H3:=H_ h3;clear h1 h2 h3
 have hbad:∀ (Z:ByteArray),Z=⟨l.toArray⟩->Has ((w.setCell ⟨c,2,none⟩ (.bool true)).setCell ⟨lb,0,none⟩ (.string Z)) lb [.string ⟨l.toArray⟩]/\Has ((w.setCell ⟨c,2,none⟩ (.bool true)).setCell ⟨lb,0,none⟩ (.string Z)) c [f0,f1,.bool true]/\Fr (fun x=>x=lb\/x=c) w ((w.setCell ⟨c,2,none⟩ (.bool true)).setCell ⟨lb,0,none⟩ (.string Z)):=fun Z hZ=>by
  subst hZ;exact ⟨(H1.out.other ⟨c,2,none⟩ _ hlc).set 0 _,(H3.out.set 2 (.bool true)).other ⟨lb,0,none⟩ _ (fun e=>hlc e.symm),(((Fr.refl _ w).setCell (p:=⟨c,2,none⟩) (.inl (.inr rfl)) _).setCell (p:=⟨lb,0,none⟩) (.inl (.inl rfl)) _)⟩
 have HBAD:=H_ hbad;clear hbad;by_cases hn:n < 0
 · have d1:decide (n < 0)=true:=decide_eq_true hn
   have HK:Hid (rdK (l,bad) n=((l,true),[])):=H_ (by unfold rdK;rw [if_pos (.inl hn)]);go_enter Try.func59,Try.ntmps59;go_wp2_with fail;go_ret;rw [HK.out];exact ⟨rfl,HBAD.out _ (by rw [zcr];simp)⟩
 have d1:decide (n < 0)=false:=decide_eq_false hn
 by_cases hb:(l.length:Int) < n
 · have d2:decide (n > (l.length:Int))=true:=decide_eq_true hb
   have HK:Hid (rdK (l,bad) n=((l,true),[])):=H_ (by unfold rdK;rw [if_pos (.inr hb)]);go_enter Try.func59,Try.ntmps59;go_wp2_with fail;go_ret;rw [HK.out];exact ⟨rfl,HBAD.out _ (by rw [zcr];simp)⟩
 have d2:decide (n > (l.length:Int))=false:=decide_eq_false hb
 have hnn:0<=n:=(by omega);have HK:Hid (rdK (l,bad) n=((l.drop n.toNat,bad),l.take n.toNat)):=H_ (by unfold rdK;rw [if_neg (by rintro (h | h);exact hn h;exact hb h)]);go_enter Try.func59,Try.ntmps59;go_wp2_with fail;go_ret;rw [HK.out];have e1:(⟨l.toArray⟩:ByteArray).extract 0 n.toNat=⟨(l.take n.toNat).toArray⟩:=(by rw [zcr];simp)
 have e2:(⟨l.toArray⟩:ByteArray).extract n.toNat l.length=⟨(l.drop n.toNat).toArray⟩:=by
  rw [zcr,List.take_of_length_le (by rw [List.length_drop];omega)]
 rw [e1,e2];exact ⟨rfl,H1.out.set 0 _,H3.out.other ⟨lb,0,none⟩ _ (fun e=>hlc e.symm),(Fr.refl _ w).setCell (p:=⟨lb,0,none⟩) (.inl (.inl rfl)) _⟩
theorem Fr.freezeAt {S:Nat->Prop} {a w:World} (h:Fr S a w) (p:Addr) (n:Nat) (hg:S p.block\/a.heap.size<=p.block):Fr S a (w.freeze p n):=by
 unfold World.freeze
 split
 · exact h
 refine ⟨h.os,h.tape,h.output,by simpa using h.size,fun i hi hs=>?_⟩
 rw [<-h.block i hi hs];simp only [Array.getElem?_modify]
 split
 · rename_i e
   rcases hg with h2 | h2
   · exact absurd (e ▸ h2) hs
   exact absurd hi (by omega)
 rfl
theorem zpq:∀ (l:List UInt8) (v:Nat),l.foldl (fun v d=>v * 256+d.toNat) v < (v+1) * 256 ^ l.length:=by
 intro l
 induction l with
 | nil=>intro v;simp
 | cons d l ih =>
   intro v;rw [List.foldl_cons,List.length_cons,Nat.pow_succ];have h1:=ih (v * 256+d.toNat);have hd:=d.toNat_lt;have h2:(v * 256+d.toNat+1) * 256 ^ l.length<=((v+1) * 256) * 256 ^ l.length:=Nat.mul_le_mul_right _ (by omega);have h3:(v+1) * (256 ^ l.length * 256)=((v+1) * 256) * 256 ^ l.length:=(by rw [Nat.mul_comm (256 ^ l.length) 256,Nat.mul_assoc]);omega
theorem zpo {ks:List UInt8} {k:Nat} (hk:k < ks.length) (h8:ks.length<=8):valN (ks.take k) < 72057594037927936:=by
 have h:=zpq (ks.take k) 0;have hl:(ks.take k).length=k:=by rw [List.length_take];omega
 rw [hl] at h;have h2:(256:Nat) ^ k<=256 ^ 7:=Nat.pow_le_pow_right (by decide) (by omega);have h3:(256:Nat) ^ 7=72057594037927936:=rfl;have h4:valN (ks.take k) < (0+1) * 256 ^ k:=h;omega
theorem zpp {ks:List UInt8} {k:Nat} (hk:k < ks.length):valN (ks.take (k+1))=valN (ks.take k) * 256+(ks[k]?.getD 0).toNat:=by
 rw [List.take_add_one,List.getElem?_eq_getElem hk,Option.toList_some,zkb]
 rfl
theorem zrq (n:Int):IntKind.u64.wrap n=n % 18446744073709551616:=by simp [IntKind.wrap,IntKind.bits,IntKind.signed]
theorem zgp (n:Int) (h0:0<=n) (h1:n < 2 ^ 64):IntKind.u64.wrap n=n:=by rw [zrq];omega
theorem ztg {V d:Nat} (hV:V < 72057594037927936) (hd:d < 256):bits BinOp.or IntKind.u64 (IntKind.u64.wrap ((V:Int) * 256)) (IntKind.u64.wrap (d:Int))=((V * 256+d:Nat):Int):=by
 rw [zgp _ (by omega) (by omega),zgp _ (by omega) (by omega),bits_join .u64 64 (by decide) zgp 8 _ _ (by omega) (by omega) (by omega) (by omega) (by omega) (by omega)];omega
set_option maxHeartbeats 4000000 in
theorem zhf (w:World) (lb cb c tb:Nat) (l:List UInt8) (bad:Bool) (f0 f1:Value) (g i:Nat) (e:TypeId) (cs:List Value) (n0:Int) (h1:Has w lb [.string ⟨l.toArray⟩]) (h2:Has w cb [.pointer (some ⟨c,0,none⟩)]) (h3:Has w c [f0,f1,.bool bad]) (h4:Has w tb [.func (.func 59) #[] #[.pointer (some ⟨lb,0,none⟩),.pointer (some ⟨cb,0,none⟩)]])
 (hlc:lb≠c) (hcc:cb≠c) (hl:l.length<=1099511627776) (hg:w.heap[g]? = some (.cells cs.toArray e (0,0))) (hi:cs[i]? = some (.int .i64 n0)) (hgl:g≠lb) (hgc:g≠c) :
 Calls Try.prog 60 (#[.pointer (some ⟨g,i,none⟩)] ++ #[.pointer (some ⟨tb,0,none⟩)]) w fun en w'=>en = .returned (.tuple #[])/\Has w' lb [.string ⟨(rdN (l,bad)).1.1.toArray⟩]/\Has w' c [f0,f1,.bool (rdN (l,bad)).1.2]/\w'.heap[g]? = some (.cells (cs.set i (.int .i64 (rdN (l,bad)).2)).toArray e (0,0))/\Fr (fun x=>x=lb\/x=c\/x=g) w w':=by
 have t0:=h4.cell 0 rfl;have lt:=h4.lt
 have hk8:(rdK (l,bad) 8).2.length<=8:=by
  unfold rdK
  split
  · simp
  simp;omega
 have HT:=H_ (zfw w lb cb c l bad f0 f1 8 h1 h2 h3 hlc hcc hl);have HG:=H_ hg;have HI:=H_ hi;clear h1 h2 h3 hg hi;rw [rdN_K];generalize rdK (l,bad) 8=K at *;obtain ⟨⟨l',b'⟩,ks⟩:=K;dsimp only at *;have hks:(⟨ks.toArray⟩:ByteArray).size=ks.length:=by simp [ByteArray.size]
 go_enter Try.func60,Try.ntmps60;go_wp2_with (go_at_call 59;refine HT.out.mono ?_;rintro en w1 ⟨rfl,a1,a2,a3⟩;have hcv:=Lib.run_convert_string_bytes (P:=Try.prog) w1 9 109 5 ⟨ks.toArray⟩ Try.underlying9 Try.underlying109 Try.underlying5);have hbw:Fr No w1 (Lib.bytesWorld w1 5 ⟨ks.toArray⟩):=((Fr.refl No w1).drew.alloc _).freezeAt _ _ (.inr (Nat.le_refl _));have hbc:=fun j (hj:j < (⟨ks.toArray⟩:ByteArray).size)=>Lib.bytesWorld_cell w1 5 ⟨ks.toArray⟩ j hj;clear hcv;generalize Lib.bytesWorld w1 5 ⟨ks.toArray⟩=W2 at *;have HBC:=H_ hbc;have hg2:=hbw.heap (a3.heap HG.out (by rintro (h | h);exact hgl h;exact hgc h)) id;have HG2:=H_ hg2;have HA1:=H_ (a1.fr hbw id);have HA2:=H_ (a2.fr hbw id);have HA3:=H_ (a3.trans0 hbw);clear hbc a1 a2 a3 hbw hg2
 go_loopg [3,10] ks.length (fun q s3 s10 wr=>∃ k:Nat,s3 = .int .u64 (valN (ks.take k):Int)/\s10 = .int .i64 k/\k+q=ks.length/\wr=W2)
 case atStart=>exact ⟨0,rfl,rfl,by simp,rfl⟩
 case round =>
  obtain ⟨k,rfl,rfl,hk,rfl⟩:=hrel
  cases gk with
  | zero =>
    have hkl:¬ (k:Int) < (ks.length:Int):=(by omega);have hke:ks.take k=ks:=List.take_of_length_le (by omega);rw [hke];have gg:wr.cell? ⟨g,i,none⟩=some (.int .i64 n0):=cellAt HG2.out i (by simpa using HI.out);have gz:wr.frozen? ⟨g,i,none⟩=false:=(by unfold World.frozen?;rw [HG2.out];rfl);have lg:=zab HG2.out;go_wp2_with fail;refine bodyPost_end (results_none rfl _ _ _) rfl ⟨rfl,?_,?_,?_,?_⟩
    · exact HA1.out.other ⟨g,i,none⟩ _ (fun e=>hgl e.symm)
    · exact HA2.out.other ⟨g,i,none⟩ _ (fun e=>hgc e.symm)
    · rw [zaa HG2.out]
      simp [numR]
    exact (HA3.out.mono fun x _ h=>by
     rcases h with h | h
     · exact .inl h
     exact .inr (.inl h)).setCell (p:=⟨g,i,none⟩) (.inl (.inr (.inr rfl))) _
  | succ q =>
    have hkl:(k:Int) < (ks.length:Int):=(by omega);have hbk:=HBC.out k (by rw [hks];omega);have lbk:=World.block_lt_of_cell? _ _ hbk;have HOR:=H_ (ztg (zpo (k:=k) (by omega) hk8) (d:=(ks[k]?.getD 0).toNat) (UInt8.toNat_lt _));have HNX:=H_ (zpp (ks:=ks) (k:=k) (by omega));go_wp2_with fail;go_roundg q
    case rel=>exact ⟨k+1,by rw [HOR.out,HNX.out],by go_num,by omega,rfl⟩
    case measure=>omega
def takeF (lb cb:Nat):Value:=.func (.func 59) #[] #[.pointer (some ⟨lb,0,none⟩),.pointer (some ⟨cb,0,none⟩)]
def rnumF (tb:Nat):Value:=.func (.func 60) #[] #[.pointer (some ⟨tb,0,none⟩)]
def rtxtF (cb tb:Nat):Value:=.func (.func 61) #[] #[.pointer (some ⟨cb,0,none⟩),.pointer (some ⟨tb,0,none⟩)]
set_option maxHeartbeats 4000000 in
theorem zly (w:World) (lb cb c tb:Nat) (l:List UInt8) (bad:Bool) (f1:Value) (g i:Nat) (e:TypeId) (cs:List Value) (x0:ByteArray) (h1:Has w lb [.string ⟨l.toArray⟩]) (h2:Has w cb [.pointer (some ⟨c,0,none⟩)]) (h3:Has w c [rnumF tb,f1,.bool bad]) (h4:Has w tb [takeF lb cb])
 (hlc:lb≠c) (hcc:cb≠c) (hcl:cb≠lb) (htl:tb≠lb) (htc:tb≠c) (hl:l.length<=1099511627776) (hg:w.heap[g]? = some (.cells cs.toArray e (0,0))) (hi:cs[i]? = some (.string x0)) (hgl:g≠lb) (hgc:g≠c) :
 Calls Try.prog 61 (#[.pointer (some ⟨g,i,none⟩)] ++ #[.pointer (some ⟨cb,0,none⟩),.pointer (some ⟨tb,0,none⟩)]) w fun en w'=>en = .returned (.tuple #[])/\Has w' lb [.string ⟨(rdT (l,bad)).1.1.toArray⟩]/\Has w' c [rnumF tb,f1,.bool (rdT (l,bad)).1.2]/\w'.heap[g]? = some (.cells (cs.set i (.string (rdT (l,bad)).2)).toArray e (0,0))/\Fr (fun x=>x=lb\/x=c\/x=g) w w':=by
 unfold rnumF takeF at *;have c0:=h2.cell 0 rfl;have k0:=h3.cell 0 rfl;have lcb:=h2.lt;have lc:=h3.lt;have ltb:=h4.lt;have llb:=h1.lt;have lg:=zab hg;have hbx:=zac w (Obj.cells #[.int .i64 0] 3) _ rfl;have hfx:Fr No w (w.alloc (Obj.cells #[.int .i64 0] 3)):=(Fr.refl No w).alloc _;have hN:=zhf (w.alloc (Obj.cells #[.int .i64 0] 3)) lb cb c tb l bad _ f1 w.heap.size 0 3 [.int .i64 0] 0 (h1.fr hfx id) (h2.fr hfx id) (h3.fr hfx id) (h4.fr hfx id) hlc hcc hl (by simpa using hbx) rfl (by omega) (by omega);have HN:=H_ hN;have HG:=H_ hg;have HI:=H_ hi;have HFX:=H_ hfx;have HCB:=H_ h2;have HTB:=H_ h4;have hln:=(zce (l,bad)).1;have hll:(rdN (l,bad)).1.1.length<=1099511627776:=Nat.le_trans hln hl;rw [rdT_K];clear hN hg hi hfx hbx h1 h2 h3 h4 hln;generalize rdN (l,bad)=N at *;obtain ⟨⟨l1,b1⟩,n1⟩:=N;dsimp only at *
 go_enter Try.func61,Try.ntmps61;go_upto_region 2 with (go_at_call 60;refine HN.out.mono ?_;rintro en w1 ⟨rfl,a1,a2,a3,a4⟩);have hcb1:=(HCB.out.fr HFX.out id).fr a4 (by rintro (h | h | h);exact hcl h;exact hcc h;omega);have htb1:=(HTB.out.fr HFX.out id).fr a4 (by rintro (h | h | h);exact htl h;exact htc h;omega);have hg1:=a4.heap (HFX.out.heap HG.out id) (by rintro (h | h | h);exact hgl h;exact hgc h;omega);have t0:=htb1.cell 0 rfl;have n0:w1.cell? ⟨w.heap.size,0,none⟩=some (.int .i64 n1):=cellAt a3 0 rfl;have ln:=zab a3;have lt1:=htb1.lt;have hT:=zfw w1 lb cb c l1 b1 _ f1 n1 a1 hcb1 a2 hlc hcc hll;have HT:=H_ hT;have HG1:=H_ hg1;have HA4:=H_ a4;clear hT hg1 a1 a2 a3 a4 hcb1 htb1 HN
 go_wp2_with (go_at_call 59;refine HT.out.mono ?_;rintro en w2 ⟨rfl,a1,a2,a3⟩
              have hg2:=a3.heap HG1.out (by rintro (h | h);exact hgl h;exact hgc h);have gg:w2.cell? ⟨g,i,none⟩=some (.string x0):=cellAt hg2 i (by simpa using HI.out);have gz:w2.frozen? ⟨g,i,none⟩=false:=(by unfold World.frozen?;rw [hg2];rfl);have lg2:=zab hg2;have HG2:=H_ hg2;have HA1:=H_ a1;have HA2:=H_ a2;have HA3:=H_ a3;clear hg2 a1 a2 a3)
 refine bodyPost_end (results_none rfl _ _ _) rfl ⟨rfl,HA1.out.other ⟨g,i,none⟩ _ (fun e=>hgl e.symm),HA2.out.other ⟨g,i,none⟩ _ (fun e=>hgc e.symm),?_,?_⟩
 · rw [zaa HG2.out]
   simp
 refine ((((HFX.out.mono fun _ _ h=>h.elim).trans HA4.out fun x hx h=>?_).trans HA3.out fun x hx h=>?_).setCell (p:=⟨g,i,none⟩) (.inl (.inr (.inr rfl))) _)
 · rcases h with h | h | h
   · exact .inl h
   · exact .inr (.inl h)
   omega
 rcases h with h | h
 · exact .inl h
 exact .inr (.inl h)
def rdC (c lb cb tb:Nat):Cod Rd where
 c:=c
 nf:=60
 tf:=61
 nc:=#[.pointer (some ⟨tb,0,none⟩)]
 tc:=#[.pointer (some ⟨cb,0,none⟩),.pointer (some ⟨tb,0,none⟩)]
 num:=fun s _=>rdN s
 txt:=fun s _=>rdT s
 bad:=fun s=>s.2
 small:=fun _=>True
 At:=fun w s F=>Has w lb [.string ⟨s.1.toArray⟩]/\Has w cb [.pointer (some ⟨c,0,none⟩)]/\Has w c [rnumF tb,rtxtF cb tb,.bool s.2]/\Has w tb [takeF lb cb]/\(lb≠c/\cb≠c/\cb≠lb/\tb≠lb/\tb≠c)/\s.1.length<=1099511627776/\∀ x,F x ↔ (x=c\/x=lb\/x=cb\/x=tb)
theorem rdC_ok (c lb cb tb:Nat):CodOk (rdC c lb cb tb) where
 enf:=fun args w=>enters_of Try.func60 (by kernel_rfl) rfl args w
 etf:=fun args w=>enters_of Try.func61 (by kernel_rfl) rfl args w
 cell:=fun w s F h=>h.2.2.1
 lt:=fun w s F h x hx=>by
  obtain ⟨h1,h2,h3,h4,h5,h6,h7⟩:=h;rcases (h7 x).1 hx with rfl | rfl | rfl | rfl
  · exact h3.lt
  · exact h1.lt
  · exact h2.lt
  exact h4.lt
 inF:=fun w s F h=>(h.2.2.2.2.2.2 c).2 (.inl rfl)
 fr:=fun w w' s F S h hf hn=>by
  obtain ⟨h1,h2,h3,h4,h5,h6,h7⟩:=h;exact ⟨h1.fr hf (fun h=>hn _ h ((h7 _).2 (.inr (.inl rfl)))),h2.fr hf (fun h=>hn _ h ((h7 _).2 (.inr (.inr (.inl rfl))))),h3.fr hf (fun h=>hn _ h ((h7 _).2 (.inl rfl))),h4.fr hf (fun h=>hn _ h ((h7 _).2 (.inr (.inr (.inr rfl))))),h5,h6,h7⟩
 snum:=fun _ _ _=>trivial
 stxt:=fun _ _ _=>trivial
 num:=fun w s F g e cs i n hA hg hi hF _=>by
  obtain ⟨h1,h2,h3,h4,h5,h6,h7⟩:=hA;have hgl:g≠lb:=fun e=>hF ((h7 _).2 (.inr (.inl e)));have hgc:g≠c:=fun e=>hF ((h7 _).2 (.inl e));have hgb:g≠cb:=fun e=>hF ((h7 _).2 (.inr (.inr (.inl e))));have hgt:g≠tb:=fun e=>hF ((h7 _).2 (.inr (.inr (.inr e))));refine (zhf w lb cb c tb s.1 s.2 _ _ g i e cs n h1 h2 h3 h4 h5.1 h5.2.1 h6 hg hi hgl hgc).mono ?_;rintro en w' ⟨rfl,a1,a2,a3,a4⟩;refine ⟨rfl,F,⟨a1,h2.fr a4 ?_,a2,h4.fr a4 ?_,h5,Nat.le_trans (zce s).1 h6,h7⟩,a3,a4.mono fun x _ h=>?_,fun b h=>.inl h⟩
  · rintro (h | h | h)
    · exact h5.2.2.1 h
    · exact h5.2.1 h
    exact hgb h.symm
  · rintro (h | h | h)
    · exact h5.2.2.2.1 h
    · exact h5.2.2.2.2 h
    exact hgt h.symm
  rcases h with h | h | h
  · exact .inl ((h7 x).2 (.inr (.inl h)))
  · exact .inl ((h7 x).2 (.inl h))
  exact .inr h
 txt:=fun w s F g e cs i t hA hg hi hF _=>by
  obtain ⟨h1,h2,h3,h4,h5,h6,h7⟩:=hA;have hgl:g≠lb:=fun e=>hF ((h7 _).2 (.inr (.inl e)));have hgc:g≠c:=fun e=>hF ((h7 _).2 (.inl e));have hgb:g≠cb:=fun e=>hF ((h7 _).2 (.inr (.inr (.inl e))));have hgt:g≠tb:=fun e=>hF ((h7 _).2 (.inr (.inr (.inr e))));refine (zly w lb cb c tb s.1 s.2 _ g i e cs t h1 h2 h3 h4 h5.1 h5.2.1 h5.2.2.1 h5.2.2.2.1 h5.2.2.2.2 h6 hg hi hgl hgc).mono ?_;rintro en w' ⟨rfl,a1,a2,a3,a4⟩;refine ⟨rfl,F,⟨a1,h2.fr a4 ?_,a2,h4.fr a4 ?_,h5,Nat.le_trans (zlz s).1 h6,h7⟩,a3,a4.mono fun x _ h=>?_,fun b h=>.inl h⟩
  · rintro (h | h | h)
    · exact h5.2.2.1 h
    · exact h5.2.1 h
    exact hgb h.symm
  · rintro (h | h | h)
    · exact h5.2.2.2.1 h
    · exact h5.2.2.2.2 h
    exact hgt h.symm
  rcases h with h | h | h
  · exact .inl ((h7 x).2 (.inr (.inl h)))
  · exact .inl ((h7 x).2 (.inl h))
  exact .inr h
end Go.Proofs.Ythljnnjpmdgkoaa