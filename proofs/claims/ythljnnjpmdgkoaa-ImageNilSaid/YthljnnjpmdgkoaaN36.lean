/- Own lemmas and contracts that the claim's proof needs, laid together. The conditions stand in each. -/
import Derived.Test.YthljnnjpmdgkoaaN35
import Derived.Test.YthljnnjpmdgkoaaN16
import Derived.Test.YthljnnjpmdgkoaaN15
import Derived.Deep.DeepCutAuto
namespace Go.Proofs.Ythljnnjpmdgkoaa
open Go Go.Proofs Go.RowKit
set_option maxRecDepth 100000
theorem rbM {a b:Bool} (h:a=b):Ending.returned (.bool a) = .returned (.bool b):=by rw [h]
theorem zex {a:Int} (h0 : -9223372036854775808<=a) (h1:a<=9223372036854775807):IntKind.i64.wrap a=a:=by
 simp [IntKind.wrap,IntKind.signed,IntKind.bits];omega
set_option maxHeartbeats 8000000 in
theorem zky (w:World) (x:Kv) (hx:x.key.size<=1099511627776) (rev:Int) (hm:x.mod<=9223372036854775807) (hv:x.version<=9223372036854775807) :
 Calls Try.prog 99 #[kvV x,.int .i64 rev] w fun e w'=>e = .returned (.bool (mayPB x rev))/\Fr No w w':=by
 have HK:=H_ (fun W=>zfi W x.key hx);clear hx;obtain ⟨p1,p2,p3,p4,p5,p6⟩:=x;have HM:Hid (mayPB ⟨p1,p2,p3,p4,p5,p6⟩ rev=((keyE p1 == 0) && (decide (p2.size<=1024) && (decide (1<=p3) && (decide (p3<=p4) && (decide (p4<=rev) && (decide (1<=p5) && (decide (p5 - 1<=p4 - p3) && (((p5 == 1) == (p4 == p3)) && decide (0<=p6)))))))))):=H_ rfl;dsimp only at HK hm hv;unfold kvV;dsimp only;generalize hE:keyE p1=E at *;generalize mayPB ⟨p1,p2,p3,p4,p5,p6⟩ rev=m at *;clear hE;by_cases h0:E=0
 · subst h0
   by_cases h1:(p2.size:Int)<=1024
   · have d1:decide ((p2.size:Int)<=1024)=true:=decide_eq_true h1
     have n1:decide (p2.size<=1024)=true:=decide_eq_true (by omega);by_cases h2:1<=p3
     · have d2:decide (1<=p3)=true:=decide_eq_true h2
       by_cases h3:p3<=p4
       · have d3:decide (p3<=p4)=true:=decide_eq_true h3
         by_cases h4:p4<=rev
         · have d4:decide (p4<=rev)=true:=decide_eq_true h4
           by_cases h5:1<=p5
           · have d5:decide (1<=p5)=true:=decide_eq_true h5
             by_cases h6:p5 - 1<=p4 - p3
             · have d6:decide (p5 - 1<=p4 - p3)=true:=decide_eq_true h6
               have q1:IntKind.i64.wrap (p5 - 1)=p5 - 1:=zex (by omega) (by omega);have q2:IntKind.i64.wrap (p4 - p3)=p4 - p3:=zex (by omega) (by omega);generalize hv1:(p5 == 1)=v1 at *;generalize hm1:(p4 == p3)=m1 at *;cases v1 <;> cases m1
               · by_cases h8:0<=p6
                 · have d8:decide (0<=p6)=true:=decide_eq_true h8
                   have HW:Hid (true=m):=H_ (by rw [HM.out];simp [n1,d2,d3,d4,d5,d6,d8]);clear HM;go_enter Try.func99,Try.ntmps99
                   go_wp2_with (go_at_call 58;refine (HK.out _).mono ?_;rintro e w1 ⟨rfl,hf1⟩
                                have hb:=hf1.heap (zac w (Obj.cells #[.string p1,.string p2,.int .i64 p3,.int .i64 p4,.int .i64 p5,.int .i64 p6] 57) _ rfl) id;have lb:=zab hb;have c1:=cellAt hb 1 rfl;have c2:=cellAt hb 2 rfl;have c3:=cellAt hb 3 rfl;have c4:=cellAt hb 4 rfl;have c5:=cellAt hb 5 rfl;clear hb)
                   go_ret;exact ⟨rbM (HW.out),(((Fr.refl No w).alloc _).trans0 hf1)⟩
                 have d8:decide (0<=p6)=false:=decide_eq_false h8
                 have HW:Hid (false=m):=H_ (by rw [HM.out];simp [n1,d2,d3,d4,d5,d6,d8]);clear HM;go_enter Try.func99,Try.ntmps99
                 go_wp2_with (go_at_call 58;refine (HK.out _).mono ?_;rintro e w1 ⟨rfl,hf1⟩
                              have hb:=hf1.heap (zac w (Obj.cells #[.string p1,.string p2,.int .i64 p3,.int .i64 p4,.int .i64 p5,.int .i64 p6] 57) _ rfl) id;have lb:=zab hb;have c1:=cellAt hb 1 rfl;have c2:=cellAt hb 2 rfl;have c3:=cellAt hb 3 rfl;have c4:=cellAt hb 4 rfl;have c5:=cellAt hb 5 rfl;clear hb)
                 go_ret;exact ⟨rbM (HW.out),(((Fr.refl No w).alloc _).trans0 hf1)⟩
               · skip
                 have HW:Hid (false=m):=H_ (by rw [HM.out];simp [n1,d2,d3,d4,d5,d6]);clear HM;go_enter Try.func99,Try.ntmps99
                 go_wp2_with (go_at_call 58;refine (HK.out _).mono ?_;rintro e w1 ⟨rfl,hf1⟩
                              have hb:=hf1.heap (zac w (Obj.cells #[.string p1,.string p2,.int .i64 p3,.int .i64 p4,.int .i64 p5,.int .i64 p6] 57) _ rfl) id;have lb:=zab hb;have c1:=cellAt hb 1 rfl;have c2:=cellAt hb 2 rfl;have c3:=cellAt hb 3 rfl;have c4:=cellAt hb 4 rfl;have c5:=cellAt hb 5 rfl;clear hb)
                 go_ret;exact ⟨rbM (HW.out),(((Fr.refl No w).alloc _).trans0 hf1)⟩
               · skip
                 have HW:Hid (false=m):=H_ (by rw [HM.out];simp [n1,d2,d3,d4,d5,d6]);clear HM;go_enter Try.func99,Try.ntmps99
                 go_wp2_with (go_at_call 58;refine (HK.out _).mono ?_;rintro e w1 ⟨rfl,hf1⟩
                              have hb:=hf1.heap (zac w (Obj.cells #[.string p1,.string p2,.int .i64 p3,.int .i64 p4,.int .i64 p5,.int .i64 p6] 57) _ rfl) id;have lb:=zab hb;have c1:=cellAt hb 1 rfl;have c2:=cellAt hb 2 rfl;have c3:=cellAt hb 3 rfl;have c4:=cellAt hb 4 rfl;have c5:=cellAt hb 5 rfl;clear hb)
                 go_ret;exact ⟨rbM (HW.out),(((Fr.refl No w).alloc _).trans0 hf1)⟩
               by_cases h8:0<=p6
               · have d8:decide (0<=p6)=true:=decide_eq_true h8
                 have HW:Hid (true=m):=H_ (by rw [HM.out];simp [n1,d2,d3,d4,d5,d6,d8]);clear HM;go_enter Try.func99,Try.ntmps99
                 go_wp2_with (go_at_call 58;refine (HK.out _).mono ?_;rintro e w1 ⟨rfl,hf1⟩
                              have hb:=hf1.heap (zac w (Obj.cells #[.string p1,.string p2,.int .i64 p3,.int .i64 p4,.int .i64 p5,.int .i64 p6] 57) _ rfl) id;have lb:=zab hb;have c1:=cellAt hb 1 rfl;have c2:=cellAt hb 2 rfl;have c3:=cellAt hb 3 rfl;have c4:=cellAt hb 4 rfl;have c5:=cellAt hb 5 rfl;clear hb)
                 go_ret;exact ⟨rbM (HW.out),(((Fr.refl No w).alloc _).trans0 hf1)⟩
               have d8:decide (0<=p6)=false:=decide_eq_false h8
               have HW:Hid (false=m):=H_ (by rw [HM.out];simp [n1,d2,d3,d4,d5,d6,d8]);clear HM;go_enter Try.func99,Try.ntmps99
               go_wp2_with (go_at_call 58;refine (HK.out _).mono ?_;rintro e w1 ⟨rfl,hf1⟩
                            have hb:=hf1.heap (zac w (Obj.cells #[.string p1,.string p2,.int .i64 p3,.int .i64 p4,.int .i64 p5,.int .i64 p6] 57) _ rfl) id;have lb:=zab hb;have c1:=cellAt hb 1 rfl;have c2:=cellAt hb 2 rfl;have c3:=cellAt hb 3 rfl;have c4:=cellAt hb 4 rfl;have c5:=cellAt hb 5 rfl;clear hb)
               go_ret;exact ⟨rbM (HW.out),(((Fr.refl No w).alloc _).trans0 hf1)⟩
             have d6:decide (p5 - 1<=p4 - p3)=false:=decide_eq_false h6
             have q1:IntKind.i64.wrap (p5 - 1)=p5 - 1:=zex (by omega) (by omega);have q2:IntKind.i64.wrap (p4 - p3)=p4 - p3:=zex (by omega) (by omega);have HW:Hid (false=m):=H_ (by rw [HM.out];simp [n1,d2,d3,d4,d5,d6]);clear HM;go_enter Try.func99,Try.ntmps99
             go_wp2_with (go_at_call 58;refine (HK.out _).mono ?_;rintro e w1 ⟨rfl,hf1⟩
                          have hb:=hf1.heap (zac w (Obj.cells #[.string p1,.string p2,.int .i64 p3,.int .i64 p4,.int .i64 p5,.int .i64 p6] 57) _ rfl) id;have lb:=zab hb;have c1:=cellAt hb 1 rfl;have c2:=cellAt hb 2 rfl;have c3:=cellAt hb 3 rfl;have c4:=cellAt hb 4 rfl;have c5:=cellAt hb 5 rfl;clear hb)
             go_ret;exact ⟨rbM (HW.out),(((Fr.refl No w).alloc _).trans0 hf1)⟩
           have d5:decide (1<=p5)=false:=decide_eq_false h5
           have HW:Hid (false=m):=H_ (by rw [HM.out];simp [n1,d2,d3,d4,d5]);clear HM;go_enter Try.func99,Try.ntmps99
           go_wp2_with (go_at_call 58;refine (HK.out _).mono ?_;rintro e w1 ⟨rfl,hf1⟩
                        have hb:=hf1.heap (zac w (Obj.cells #[.string p1,.string p2,.int .i64 p3,.int .i64 p4,.int .i64 p5,.int .i64 p6] 57) _ rfl) id;have lb:=zab hb;have c1:=cellAt hb 1 rfl;have c2:=cellAt hb 2 rfl;have c3:=cellAt hb 3 rfl;have c4:=cellAt hb 4 rfl;have c5:=cellAt hb 5 rfl;clear hb)
           go_ret;exact ⟨rbM (HW.out),(((Fr.refl No w).alloc _).trans0 hf1)⟩
         have d4:decide (p4<=rev)=false:=decide_eq_false h4
         have HW:Hid (false=m):=H_ (by rw [HM.out];simp [n1,d2,d3,d4]);clear HM;go_enter Try.func99,Try.ntmps99
         go_wp2_with (go_at_call 58;refine (HK.out _).mono ?_;rintro e w1 ⟨rfl,hf1⟩
                      have hb:=hf1.heap (zac w (Obj.cells #[.string p1,.string p2,.int .i64 p3,.int .i64 p4,.int .i64 p5,.int .i64 p6] 57) _ rfl) id;have lb:=zab hb;have c1:=cellAt hb 1 rfl;have c2:=cellAt hb 2 rfl;have c3:=cellAt hb 3 rfl;have c4:=cellAt hb 4 rfl;have c5:=cellAt hb 5 rfl;clear hb)
         go_ret;exact ⟨rbM (HW.out),(((Fr.refl No w).alloc _).trans0 hf1)⟩
       have d3:decide (p3<=p4)=false:=decide_eq_false h3
       have HW:Hid (false=m):=H_ (by rw [HM.out];simp [n1,d2,d3]);clear HM;go_enter Try.func99,Try.ntmps99
       go_wp2_with (go_at_call 58;refine (HK.out _).mono ?_;rintro e w1 ⟨rfl,hf1⟩
                    have hb:=hf1.heap (zac w (Obj.cells #[.string p1,.string p2,.int .i64 p3,.int .i64 p4,.int .i64 p5,.int .i64 p6] 57) _ rfl) id;have lb:=zab hb;have c1:=cellAt hb 1 rfl;have c2:=cellAt hb 2 rfl;have c3:=cellAt hb 3 rfl;have c4:=cellAt hb 4 rfl;have c5:=cellAt hb 5 rfl;clear hb)
       go_ret;exact ⟨rbM (HW.out),(((Fr.refl No w).alloc _).trans0 hf1)⟩
     have d2:decide (1<=p3)=false:=decide_eq_false h2
     have HW:Hid (false=m):=H_ (by rw [HM.out];simp [n1,d2]);clear HM;go_enter Try.func99,Try.ntmps99
     go_wp2_with (go_at_call 58;refine (HK.out _).mono ?_;rintro e w1 ⟨rfl,hf1⟩
                  have hb:=hf1.heap (zac w (Obj.cells #[.string p1,.string p2,.int .i64 p3,.int .i64 p4,.int .i64 p5,.int .i64 p6] 57) _ rfl) id;have lb:=zab hb;have c1:=cellAt hb 1 rfl;have c2:=cellAt hb 2 rfl;have c3:=cellAt hb 3 rfl;have c4:=cellAt hb 4 rfl;have c5:=cellAt hb 5 rfl;clear hb)
     go_ret;exact ⟨rbM (HW.out),(((Fr.refl No w).alloc _).trans0 hf1)⟩
   have d1:decide ((p2.size:Int)<=1024)=false:=decide_eq_false h1
   have n1:decide (p2.size<=1024)=false:=decide_eq_false (by omega);have HW:Hid (false=m):=H_ (by rw [HM.out];simp [n1]);clear HM;go_enter Try.func99,Try.ntmps99
   go_wp2_with (go_at_call 58;refine (HK.out _).mono ?_;rintro e w1 ⟨rfl,hf1⟩
                have hb:=hf1.heap (zac w (Obj.cells #[.string p1,.string p2,.int .i64 p3,.int .i64 p4,.int .i64 p5,.int .i64 p6] 57) _ rfl) id;have lb:=zab hb;have c1:=cellAt hb 1 rfl;have c2:=cellAt hb 2 rfl;have c3:=cellAt hb 3 rfl;have c4:=cellAt hb 4 rfl;have c5:=cellAt hb 5 rfl;clear hb)
   go_ret;exact ⟨rbM (HW.out),(((Fr.refl No w).alloc _).trans0 hf1)⟩
 have d0:(E == 0)=false:=beq_eq_false_iff_ne.2 h0
 clear h0;have HW:Hid (false=m):=H_ (by rw [HM.out];simp [d0]);clear HM;go_enter Try.func99,Try.ntmps99
 go_wp2_with (go_at_call 58;refine (HK.out _).mono ?_;rintro e w1 ⟨rfl,hf1⟩
              have hb:=hf1.heap (zac w (Obj.cells #[.string p1,.string p2,.int .i64 p3,.int .i64 p4,.int .i64 p5,.int .i64 p6] 57) _ rfl) id;have lb:=zab hb;have c1:=cellAt hb 1 rfl;have c2:=cellAt hb 2 rfl;have c3:=cellAt hb 3 rfl;have c4:=cellAt hb 4 rfl;have c5:=cellAt hb 5 rfl;clear hb)
 go_ret;exact ⟨rbM (HW.out),(((Fr.refl No w).alloc _).trans0 hf1)⟩
theorem zri (S:St) (x:Kv) (hnew:(getT S.T x.key).2=false):putS S x = { S with T:=insT S.T x.key S.next,next:=S.next+1,past:=fun i=>if i=S.next then some (putH newH x) else S.past i }:=by
 unfold putS madeS idS;simp only [hnew,Bool.false_eq_true,if_false,if_true,Option.getD_some]
 congr 1
 funext i
 split <;> rfl
set_option maxHeartbeats 4000000 in
theorem zig {TA:zan} {N:Nat} (hT:TreeOk TA N) {n:Nat} (hn:n<=1099511627) (w:World) (s:Nat) (S:St) (F:Nat->Prop) (hS:zaj TA w s S F) (hok:StOk n S) (x:Kv)
 (hroom:S.T.length < N) (hnew:(getT S.T x.key).2=false) (hm1:1<=x.mod) (hm2:x.mod<=top) :
 Calls Try.prog 100 #[.pointer (some ⟨s,0,none⟩),kvV x] w fun e w'=>(∃ v,e = .returned v)/\∃ F',zaj TA w' s (putS S x) F'/\Fr F w w'/\(∀ b,F' b->F b\/w.heap.size<=b):=by
 have HPUT:=H_ (zri S x hnew);obtain ⟨t,p,ev,hp,FT,FH,a,hF⟩:=hS;obtain ⟨x1,x2,x3,x4,x5,x6⟩:=x;have c2:=a.obj.cell 2 rfl;have f2:=a.obj.free 2;have l1:=a.obj.lt;have hx1:=hok.pos;have hx2:=hok.next;have hids:=hok.ids;have HA:=H_ a;have HFF:=H_ hF;have HIDS:=H_ hids;unfold kvV;dsimp only at *;clear a hF hids hnew;have hkA:=zac w (Obj.cells #[.string x1,.string x2,.int .i64 x3,.int .i64 x4,.int .i64 x5,.int .i64 x6] 57) _ rfl;have hfA:Fr No w (w.alloc (Obj.cells #[.string x1,.string x2,.int .i64 x3,.int .i64 x4,.int .i64 x5,.int .i64 x6] 57)):=(Fr.refl No w).alloc _;have HKA:=H_ hkA;have HFA:=H_ hfA;clear hkA hfA;go_enter Try.func100,Try.ntmps100;go_upto_region 2 with fail;have hkA:=HKA.out;have hfA:=HFA.out;clear HKA HFA;have c2':=hfA.cell0 c2;have f2':=hfA.free0 c2 f2;have l0:=zab hkA
 generalize w.alloc (Obj.cells #[.string x1,.string x2,.int .i64 x3,.int .i64 x4,.int .i64 x5,.int .i64 x6] 57)=W0 at *;have l1':s < W0.heap.size:=by omega
 go_upto_region 3 with fail;have ho:=(HA.out.fr hT hfA fun _ _ s=>s).obj.set 2 (.int .i64 (S.next+1));have hfs:Fr (fun b=>b=s) W0 (W0.setCell ⟨s,2,none⟩ (.int .i64 (S.next+1))):=(Fr.refl _ W0).setAt 2 _;have hA1:=(HA.out.fr hT hfA fun _ _ s=>s).setObj hT hfs (S.next+1) S.rev S.mark ho;have hkB:(W0.setCell ⟨s,2,none⟩ (.int .i64 (S.next+1))).heap[w.heap.size]? = _:=hfs.heap hkA (by omega);have hfS:Fr (fun b=>b=s) w (W0.setCell ⟨s,2,none⟩ (.int .i64 (S.next+1))):=hfA.mono (fun _ _ h=>h.elim) |>.trans hfs fun _ _ h=>h;have hS1:=hfS.size;have hf1s:w.heap.size+1<=(W0.setCell ⟨s,2,none⟩ (.int .i64 (S.next+1))).heap.size:=zab hkB;generalize W0.setCell ⟨s,2,none⟩ (.int .i64 (S.next+1))=W1 at *;have e0:=hA1.obj.cell 0 rfl;have k0:W1.cell? ⟨w.heap.size,0,none⟩=some (.string x1):=cellAt hkB 0 rfl
 have nT:¬ FT s:=hA1.ds.1;have nB:¬ FT w.heap.size:=fun h=>by have:=hT.lt HA.out.tree _ h;omega
 go_region_held (fun W=>W.cell? ⟨s,0,none⟩=some (.pointer (some ⟨t,0,none⟩))/\W.cell? ⟨w.heap.size,0,none⟩=some (.string x1))
  (first | exact ⟨e0,k0⟩ | exact ⟨hf2.cell e0 nT,hf2.cell k0 nB⟩)
  (first | (go_at_call 123;refine (hT.set x1 S.next (hT.fr hA1.tree (Fr.refl No W1).drew (fun _ _ s=>s)) hroom).mono ?_;rintro e w2 ⟨⟨v,rfl⟩,F2,ht2,hf2,hn2⟩))
 have hf2':Fr FT W1 w2:=((Fr.refl FT W1).drew).trans hf2 fun _ _ h=>h;have hA2:=hA1.setTree hT hf2' ht2 hn2;have hkC:=hf2'.heap hkB nB;have hfB:Fr (storeF s p ev FT FH) w w2:=(hfS.mono fun b _ h=>.inl h).trans hf2' fun b _ h=>.inr (.inr (.inl h))
 have hn2':∀ b,storeF s p ev F2 FH b->storeF s p ev FT FH b\/w.heap.size < b:=by
  rintro b (h | h | h | h | h)
  · exact .inl (.inl h)
  · exact .inl (.inr (.inl h))
  · rcases hn2 b h with h | h
    · exact .inl (.inr (.inr (.inl h)))
    right;have:=hf1s;simp at h;omega
  · exact .inl (.inr (.inr (.inr (.inl h))))
  exact .inl (.inr (.inr (.inr (.inr h))))
 have hwfn:(Lit.int .i64 S.next).wf=true:=wf64 (by omega) (by omega);have m1:=hA2.obj.cell 1 rfl;have npp:¬ s=p:=fun e=>hA2.map.apart hA2.obj e.symm;have ls2:=hA2.obj.lt;have hkCl:=zab hkC;have HAA:=H_ hA2;have HKC:=H_ hkC;have HFB:=H_ hfB;have HN2:=H_ hn2';clear hA2 hkC hfB hn2' hf2' hf2 ht2 hn2 hA1 hkB hfS hfs ho hkA hfA e0 k0 nT nB hS1 hf1s;have hmm:∀ w,(Instr.makeMap 144 none).run Try.prog w = .ok (.map (some w.heap.size)) (w.alloc (.map #[] 0)):=fun w=>run_makeMap 144 w;go_upto_region 5 with (go_at_call 124;refine (zfj _).mono ?_;rintro e w3 ⟨g,rfl,FK,hk3,hf3,hn3⟩);have hsz3:=hf3.size;have hks:=hk3.lt;have hf4:Fr No w2 ((w3.alloc (Obj.map #[] 0)).alloc (Obj.cells #[Value.pointer (some ⟨g,0,none⟩),Value.map (some w3.heap.size)] 146)):=(hf3.alloc _).alloc _
 have ho4:Has ((w3.alloc (Obj.map #[] 0)).alloc (Obj.cells #[Value.pointer (some ⟨g,0,none⟩),Value.map (some w3.heap.size)] 146)) (w3.heap.size+1) [.pointer (some ⟨g,0,none⟩),.map (some w3.heap.size)]:=⟨146,zac _ _ _ (by simp)⟩;have hk4:KeyAt ((w3.alloc (Obj.map #[] 0)).alloc (Obj.cells #[Value.pointer (some ⟨g,0,none⟩),Value.map (some w3.heap.size)] 146)) g [] 0 FK:=hk3.fr (((Fr.refl No w3).alloc _).alloc _) fun _ _ s=>s;have hm4:MapAt ((w3.alloc (Obj.map #[] 0)).alloc (Obj.cells #[Value.pointer (some ⟨g,0,none⟩),Value.map (some w3.heap.size)] 146)) w3.heap.size (fun _=>none):=(MapAt.made w3).alloc _;have hkb4:=hf4.heap HKC.out id;generalize (w3.alloc (Obj.map #[] 0)).alloc (Obj.cells #[Value.pointer (some ⟨g,0,none⟩),Value.map (some w3.heap.size)] 146)=W4 at *;generalize hhb:w3.heap.size=m at *;have hkm:∀ b,FK b->b < m:=hks
 have e0:=ho4.cell 0 rfl;have e1:=ho4.cell 1 rfl;have k3:W4.cell? ⟨w.heap.size,3,none⟩=some (.int .i64 x4):=cellAt hkb4 3 rfl;have nKb:¬ FK w.heap.size:=fun h=>by have:=hn3 _ h;omega
 have nKh:¬ FK (m+1):=fun h=>by have:=hkm _ h;omega
 have nKm:¬ FK m:=fun h=>by have:=hkm _ h;omega
 have lh4:=ho4.lt;have lb4:=zab hkb4
 go_region_held (fun W=>W.cell? ⟨m+1,0,none⟩=some (.pointer (some ⟨g,0,none⟩))/\W.cell? ⟨w.heap.size,3,none⟩=some (.int .i64 x4))
  (first | exact ⟨e0,k3⟩ | exact ⟨hf5.cell e0 nKh,hf5.cell k3 nKb⟩)
  (first | (go_at_call 125;refine (zlm _ g [] 0 x4 FK (hk4.fr (Fr.refl No W4).drew (fun _ _ s=>s)) ⟨by simp,by simp⟩ hm1 hm2 hm1).mono ?_;rintro e w5 ⟨rfl,FK',hk5,hf5,hn5⟩))
 have hf5':Fr FK W4 w5:=((Fr.refl FK W4).drew).trans hf5 fun _ _ h=>h;have hk6:=hf5'.heap hkb4 nKb;have e1':=hf5'.cell e1 nKh;obtain ⟨b0,b1,b2,b3,b4,b5⟩:=cells6 hk6;have lh5:m+1 < w5.heap.size:=by have:=hf5'.size;omega
 have lb5:w.heap.size < w5.heap.size:=zab hk6;have hmw:MapAt w5.drew m fun _=>none:=hm4.fr hf5'.drew nKm;have hwx:(Lit.int .i64 x4).wf=true:=wf64 (by omega) (by unfold top at hm2;omega);have hf25:Fr No w2 w5:=hf4.trans hf5' fun j hj h=>by have:=hn3 _ h;omega
 have ho5:=ho4.fr hf5' nKh;have HF5:=H_ hf25;have HK5:=H_ hk5;have HN5:=H_ hn5;have HO5:=H_ ho5;have HN3:=H_ hn3;have hW4:=hf4.size;clear hf5 hf5' hk5 hn5 hk6 hk4 hm4 hf4 ho4 ho5 hkb4 hf25 hn3 hk3 hf3;go_wp2_with fail;refine wp_region_still_tail 7 (by kernel_rfl) (by kernel_rfl) ?_;simp only [List.take_succ_cons,List.take_zero,List.drop_succ_cons,List.drop_zero];change wpStill _ _ w5.drew _ _ _
 repeat (refine wpStill_step (fun K hK=>?_);go_simp;(try go_bits);refine hK _ ?_;clear hK K)
 refine wpStill_nil ?_;change wpList _ _ _ _ _ w5.drew;refine zdn rfl _ _ _ 144 rfl 3 57 Try.underlying144 Try.underlying3 m _ rfl hmw x4 rfl hwx (kvV ⟨x1,x2,x3,x4,x5,x6⟩) rfl ?_;intro w6 hm6 hf6 hsz6
 have hf26:Fr No w2 w6:=HF5.out.drew.trans hf6 fun j hj h=>by
  have h':j=m:=h;omega
 have c1:w6.cell? ⟨s,1,none⟩=some (.map (some p)):=hf26.cell0 m1;have ls6:s < w6.heap.size:=by have:=hf26.size;omega
 have hA6:=HAA.out.fr hT hf26 fun _ _ s=>s;have hmap6:=hA6.map;have HA6:=H_ hA6;have HM6:=H_ hm6;have HF6:=H_ hf6;have HF26:=H_ hf26;clear hm6 hf6 hf26 hA6;go_wp2_with (refine zdn rfl _ _ _ 119 rfl 3 142 Try.underlying119 Try.underlying3 p _ rfl hmap6 S.next rfl hwfn (.pointer (some ⟨m+1,0,none⟩)) rfl ?_;intro w7 hm7 hf7 hsz7);refine bodyPost_end (results_none rfl _ _ _) rfl ?_;have hkl:=HK5.out.lt;have lp:=HAA.out.map.lt
 have hnF:∀ b,(b=m+1\/b=m\/FK' b)->w2.heap.size<=b:=by
  rintro b (rfl | rfl | h)
  · omega
  · omega
  rcases HN5.out b h with h | h
  · exact HN3.out b h
  have h':W4.heap.size<=b:=h
  omega
 have hhist6:HistAt w6 (m+1) (putH newH ⟨x1,x2,x3,x4,x5,x6⟩) (fun b=>b=m+1\/b=m\/FK' b):=by
  refine ⟨g,m,FK',⟨?_,?_,?_,?_,?_⟩,fun _=>Iff.rfl⟩
  · exact (HO5.out.fr (Fr.refl No w5).drew id).fr HF6.out fun e=>by
     have e':m+1=m:=e;omega
  · refine HK5.out.fr ((Fr.refl (fun x=>x=m) w5).drew.trans HF6.out fun _ _ e=>e) fun b hb e=>?_
    have e':b=m:=e;subst e';rcases HN5.out _ hb with h5 | h5
    · exact nKm h5
    have h6:W4.heap.size<=b:=h5
    omega
  · refine cast (congrArg (MapAt w6 m) ?_) HM6.out
    funext r
    unfold putH newH;dsimp only;by_cases hr:r=x4 <;> simp [hr]
  · intro hb
    rcases HN5.out _ hb with h5 | h5
    · exact nKh h5
    have h6:W4.heap.size<=m+1:=h5
    omega
  intro hb
  rcases HN5.out _ hb with h5 | h5
  · exact nKm h5
  have h6:W4.heap.size<=m:=h5
  omega
 have hhist7:=hhist6.fr hf7 fun b hb e=>by
  have h1:=hnF b hb;have e':b=p:=e;omega
 have hfin:=HA6.out.addHist hT (id:=S.next) (B:=w2.heap.size) (by
  cases hc:S.past S.next with
  | none=>rfl
  | some H=>have:=HIDS.out _ _ hc;omega) hf7 hm7 (HAA.out.lt hT) hhist7 hnF
 have hw2:=HFB.out.size;refine ⟨⟨_,rfl⟩,_,⟨t,p,ev,_,F2,_,by rw [HPUT.out];exact hfin,fun _=>Iff.rfl⟩,?_,?_⟩
 · refine ((HFB.out.trans0 HF26.out).trans hf7 fun b _ e=>.inr (.inl e)).mono fun b _ e=>(HFF.out b).2 e
 have old:∀ b,storeF s p ev F2 FH b->F b\/w.heap.size<=b:=fun b hb=>by
  rcases HN2.out b hb with h5 | h5
  · exact .inl ((HFF.out b).2 h5)
  exact .inr (by omega)
 rintro b (e | e | e | e | ⟨i,e⟩)
 · exact old b (.inl e)
 · exact old b (.inr (.inl e))
 · exact old b (.inr (.inr (.inl e)))
 · exact old b (.inr (.inr (.inr (.inl e))))
 by_cases hi:i=S.next
 · rw [if_pos hi] at e
   have:=hnF b e;exact .inr (by omega)
 rw [if_neg hi] at e
 exact old b (.inr (.inr (.inr (.inr ⟨i,e⟩))))
theorem zov (a b:ByteArray):(a.toList=b.toList)=(keq a b=true):=by
 rw [zai,ByteArray.toList_eq,ByteArray.toList_eq];obtain ⟨⟨x⟩⟩:=a;obtain ⟨⟨y⟩⟩:=b;simp
theorem zha {α:Type} (x y:Kv) (p q:α):(if x.key.toList=y.key.toList then if x.value.toList=y.value.toList then if x.create=y.create then if x.mod=y.mod then if x.version=y.version then if x.lease=y.lease then p else q else q else q else q else q else q)=if sameB x y=true then p else q:=by
 unfold sameB;simp only [zov];by_cases h1:keq x.key y.key=true <;> by_cases h2:keq x.value y.value=true <;> by_cases h3:x.create=y.create <;> by_cases h4:x.mod=y.mod <;> by_cases h5:x.version=y.version <;> by_cases h6:x.lease=y.lease <;> simp [h1,h2,h3,h4,h5,h6]
theorem zkl (w:World) (x y:Kv):(Go.binOp .neq 57 (kvV x) (kvV y)).run Try.prog w = .ok (.bool (!sameB x y)) w:=by
 unfold kvV
 go_simp
 rw [zha];cases sameB x y <;> rfl
theorem zfa (w:World) (x y:Ev):(Go.binOp .eql 73 (evV x) (evV y)).run Try.prog w = .ok (.bool (sameE x y)) w:=by
 unfold evV
 go_simp
 rw [zha x.prev y.prev,zha x.kv y.kv];unfold sameE;by_cases h:x.kind=y.kind
 · rw [if_pos h,h,beq_self_eq_true]
   cases sameB x.kv y.kv <;> cases sameB x.prev y.prev <;> rfl
 rw [if_neg h,beq_eq_false_iff_ne.2 h]
 rfl
theorem zam (w:World) (a b:Operand) (x y:Kv):(eqGuard .neq 57 a b (kvV x) (kvV y)).run Try.prog w = .ok () w:=by
 unfold kvV
 go_simp
theorem zbe (w:World) (a b:Operand) (x y:Ev):(eqGuard .eql 73 a b (evV x) (evV y)).run Try.prog w = .ok () w:=by
 unfold evV
 go_simp
theorem zao {P:Program} {w:World} {ops:Array Oper} {rest:List Oper} {o:Oper} {a:Act} {Q:Exit->Act->World->Prop} (bop:BinOp) (t:TypeId) (x y:Operand) (t2:TypeId) (hop:o.op=Op.binOp bop t x y t2) (hg:Region.wanted o (yielded ops a.tmps)=true)
 (u v r:Value) (hgu:(eqGuard bop t x y u v).run P w = .ok () w) (hr:(Go.binOp bop t u v).run P w = .ok r w) (hx:a.eval x=u) (hy:a.eval y=v) (hK:wpList P ops Q rest (a.put o.dst r) w):wpList P ops Q (o :: rest) a w:=by
 refine wpList_step fun K' hK'=>?_;rw [if_pos hg];unfold Oper.wp;simp [execOp,hop,hx,hy,hgu,hr,Result.andThen];exact hK' _ _ hK
end Go.Proofs.Ythljnnjpmdgkoaa