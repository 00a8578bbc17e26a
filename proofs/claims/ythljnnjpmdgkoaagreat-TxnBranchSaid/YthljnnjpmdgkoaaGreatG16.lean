/- Own lemmas and contracts that the claim's proof needs, laid together. The conditions stand in each. -/
import Derived.Test.YthljnnjpmdgkoaaGreatG15
import Derived.Deep.QuietTactic
import Derived.BigQuiet
namespace Go.Proofs.YthljnnjpmdgkoaaGreat
open Go Go.Proofs Go.RowKit
set_option maxRecDepth 100000
set_option maxHeartbeats 16000000 in
theorem zfz (w : World) (x : Ev) (was : Kv) (hx : x.kv.key.size ≤ 1099511627776) (rev : Int) :
 Calls Tryz.prog 71 #[evV x, kvV was, .int .i64 rev] w fun e w' => e = .returned (.bool (madeB x was rev)) ∧ Fr No w w' := by
 have HK := H_ (fun W => zgx W x.kv.key hx); clear hx; obtain ⟨kd, ⟨p1, p2, p3, p4, p5, p6⟩, ⟨q1, q2, q3, q4, q5, q6⟩⟩ := x; obtain ⟨r1, r2, r3, r4, r5, r6⟩ := was; have hS1 := fun W => zcb W ⟨q1, q2, q3, q4, q5, q6⟩ ⟨r1, r2, r3, r4, r5, r6⟩; have hS2 := fun W => zcb W ⟨p1, p2, p3, p4, p5, p6⟩ ⟨p1, ⟨#[]⟩, 0, rev, 0, 0⟩
 have HM : Hid (madeB ⟨kd, ⟨p1, p2, p3, p4, p5, p6⟩, ⟨q1, q2, q3, q4, q5, q6⟩⟩ ⟨r1, r2, r3, r4, r5, r6⟩ rev = if keyE p1 ≠ 0 ∨ p4 ≠ rev ∨ sameB ⟨q1, q2, q3, q4, q5, q6⟩ ⟨r1, r2, r3, r4, r5, r6⟩ = false then false
  else if kd = 2 then decide (0 < r5) && sameB ⟨p1, p2, p3, p4, p5, p6⟩ ⟨p1, ⟨#[]⟩, 0, rev, 0, 0⟩
  else (kd == 1) && ((p3 == if r5 = 0 then rev else r3) && ((p5 == wrap64 (r5 + 1)) && (decide (p2.size ≤ 1024) && decide (0 ≤ p6))))) := H_ rfl
 unfold kvV at hS1 hS2; dsimp only at HK hS1 hS2; unfold evV kvV; dsimp only; generalize hE : keyE p1 = E at *; generalize madeB ⟨kd, ⟨p1, p2, p3, p4, p5, p6⟩, ⟨q1, q2, q3, q4, q5, q6⟩⟩ ⟨r1, r2, r3, r4, r5, r6⟩ rev = m at *; generalize hs1 : sameB ⟨q1, q2, q3, q4, q5, q6⟩ ⟨r1, r2, r3, r4, r5, r6⟩ = s1 at *; generalize hs2 : sameB ⟨p1, p2, p3, p4, p5, p6⟩ ⟨p1, ⟨#[]⟩, 0, rev, 0, 0⟩ = s2 at *; have HS1 := H_ hS1; have HS2 := H_ hS2; clear hE hs1 hs2 hS1 hS2; have hb1 := zal (zad w (Obj.cells #[.int .i64 kd, .string p1, .string p2, .int .i64 p3, .int .i64 p4, .int .i64 p5, .int .i64 p6, .string q1, .string q2, .int .i64 q3, .int .i64 q4, .int .i64 q5, .int .i64 q6] 101) _ rfl) (Obj.cells #[.string r1, .string r2, .int .i64 r3, .int .i64 r4, .int .i64 r5, .int .i64 r6] 99)
 have hb2 := zad (w.alloc (Obj.cells #[.int .i64 kd, .string p1, .string p2, .int .i64 p3, .int .i64 p4, .int .i64 p5, .int .i64 p6, .string q1, .string q2, .int .i64 q3, .int .i64 q4, .int .i64 q5, .int .i64 q6] 101)) (Obj.cells #[.string r1, .string r2, .int .i64 r3, .int .i64 r4, .int .i64 r5, .int .i64 r6] 99) (w.heap.size + 1) (by simp); have hf0 : Fr No w ((w.alloc (Obj.cells #[.int .i64 kd, .string p1, .string p2, .int .i64 p3, .int .i64 p4, .int .i64 p5, .int .i64 p6, .string q1, .string q2, .int .i64 q3, .int .i64 q4, .int .i64 q5, .int .i64 q6] 101)).alloc (Obj.cells #[.string r1, .string r2, .int .i64 r3, .int .i64 r4, .int .i64 r5, .int .i64 r6] 99)) := ((Fr.refl No w).alloc _).alloc _; have HB1 := H_ hb1; have HB2 := H_ hb2; have HF0 := H_ hf0; clear hb1 hb2 hf0; by_cases h1 : E = 0
 · subst h1
   by_cases h2 : p4 = rev
   · have h2' : (p4 == rev) = true := beq_iff_eq.2 h2
     have h2'' : (p4 != rev) = false := (by unfold bne; rw [h2']; rfl)
     cases s1 with
     | true =>
       have HMM := HM.out; rw [if_neg (by rintro (h | h | h) <;> first | exact h rfl | exact h h2 | cases h)] at HMM; clear HM h2; by_cases h3 : kd = 2
       · subst h3
         rw [if_pos rfl] at HMM; by_cases h4 : 0 < r5
         · have h4' : decide (r5 > 0) = true := decide_eq_true h4
           have h4'' : decide (0 < r5) = true := decide_eq_true h4; rw [h4'', Bool.true_and] at HMM; have HW := H_ HMM; clear HMM; go_enter Tryz.func71, Tryz.ntmps71
           go_wp2_with (go_at_call 124; refine (HK.out _).mono ?_; rintro e w1 ⟨rfl, hf1⟩
                        have ha1 := hf1.heap HB1.out id; have hc1 := hf1.heap HB2.out id; have la1 := zaa ha1; have lc1 := zaa hc1; obtain ⟨a1_0, a1_1, a1_2, a1_3, a1_4, a1_5, a1_6, a1_7, a1_8, a1_9, a1_10, a1_11, a1_12⟩ := cells13 ha1; obtain ⟨b1_0, b1_1, b1_2, b1_3, b1_4, b1_5⟩ := cells6 hc1; clear ha1 hc1)
           go_wp2_with (go_at_call 82; with_reducible refine (HS1.out _).mono ?_; rintro e w2 ⟨rfl, hg2⟩
                        have hf2 := hf1.trans0 hg2; have ha2 := hf2.heap HB1.out id; have hc2 := hf2.heap HB2.out id; have la2 := zaa ha2; have lc2 := zaa hc2; obtain ⟨a2_0, a2_1, a2_2, a2_3, a2_4, a2_5, a2_6, a2_7, a2_8, a2_9, a2_10, a2_11, a2_12⟩ := cells13 ha2; obtain ⟨b2_0, b2_1, b2_2, b2_3, b2_4, b2_5⟩ := cells6 hc2; clear ha2 hc2)
           go_wp2_with (go_at_call 82; with_reducible refine (HS2.out _).mono ?_; rintro e w3 ⟨rfl, hg3⟩
                        have hf3 := hf2.trans0 hg3)
           go_ret; exact ⟨rb (HW.out.symm), HF0.out.trans0 hf3⟩
         · have h4' : decide (r5 > 0) = false := decide_eq_false h4
           have h4'' : decide (0 < r5) = false := decide_eq_false h4; rw [h4'', Bool.false_and] at HMM; have HW := H_ HMM; clear HMM; go_enter Tryz.func71, Tryz.ntmps71
           go_wp2_with (go_at_call 124; refine (HK.out _).mono ?_; rintro e w1 ⟨rfl, hf1⟩
                        have ha1 := hf1.heap HB1.out id; have hc1 := hf1.heap HB2.out id; have la1 := zaa ha1; have lc1 := zaa hc1; obtain ⟨a1_0, a1_1, a1_2, a1_3, a1_4, a1_5, a1_6, a1_7, a1_8, a1_9, a1_10, a1_11, a1_12⟩ := cells13 ha1; obtain ⟨b1_0, b1_1, b1_2, b1_3, b1_4, b1_5⟩ := cells6 hc1; clear ha1 hc1)
           go_wp2_with (go_at_call 82; with_reducible refine (HS1.out _).mono ?_; rintro e w2 ⟨rfl, hg2⟩
                        have hf2 := hf1.trans0 hg2; have ha2 := hf2.heap HB1.out id; have hc2 := hf2.heap HB2.out id; have la2 := zaa ha2; have lc2 := zaa hc2; obtain ⟨a2_0, a2_1, a2_2, a2_3, a2_4, a2_5, a2_6, a2_7, a2_8, a2_9, a2_10, a2_11, a2_12⟩ := cells13 ha2; obtain ⟨b2_0, b2_1, b2_2, b2_3, b2_4, b2_5⟩ := cells6 hc2; clear ha2 hc2)
           go_ret; exact ⟨rb (HW.out.symm), HF0.out.trans0 hf2⟩
       · rw [if_neg h3] at HMM
         have h3' : (kd == 2) = false := beq_eq_false_iff_ne.2 h3; clear h3; by_cases h5 : r5 = 0
         · rw [if_pos h5] at HMM
           have h5' : (r5 == 0) = true := beq_iff_eq.2 h5; clear h5
           cases c0 : (kd == 1) with
           | false =>
             rw [c0, Bool.false_and] at HMM; have HW := H_ HMM; clear HMM; go_enter Tryz.func71, Tryz.ntmps71
             go_wp2_with (go_at_call 124; refine (HK.out _).mono ?_; rintro e w1 ⟨rfl, hf1⟩
                          have ha1 := hf1.heap HB1.out id; have hc1 := hf1.heap HB2.out id; have la1 := zaa ha1; have lc1 := zaa hc1; obtain ⟨a1_0, a1_1, a1_2, a1_3, a1_4, a1_5, a1_6, a1_7, a1_8, a1_9, a1_10, a1_11, a1_12⟩ := cells13 ha1; obtain ⟨b1_0, b1_1, b1_2, b1_3, b1_4, b1_5⟩ := cells6 hc1; clear ha1 hc1)
             go_wp2_with (go_at_call 82; with_reducible refine (HS1.out _).mono ?_; rintro e w2 ⟨rfl, hg2⟩
                          have hf2 := hf1.trans0 hg2; have ha2 := hf2.heap HB1.out id; have hc2 := hf2.heap HB2.out id; have la2 := zaa ha2; have lc2 := zaa hc2; obtain ⟨a2_0, a2_1, a2_2, a2_3, a2_4, a2_5, a2_6, a2_7, a2_8, a2_9, a2_10, a2_11, a2_12⟩ := cells13 ha2; obtain ⟨b2_0, b2_1, b2_2, b2_3, b2_4, b2_5⟩ := cells6 hc2; clear ha2 hc2)
             go_ret; exact ⟨rb (HW.out.symm), HF0.out.trans0 hf2⟩
           | true =>
             rw [c0, Bool.true_and] at HMM
             cases c1 : (p3 == rev) with
             | false =>
               rw [c1, Bool.false_and] at HMM; have HW := H_ HMM; clear HMM; go_enter Tryz.func71, Tryz.ntmps71
               go_wp2_with (go_at_call 124; refine (HK.out _).mono ?_; rintro e w1 ⟨rfl, hf1⟩
                            have ha1 := hf1.heap HB1.out id; have hc1 := hf1.heap HB2.out id; have la1 := zaa ha1; have lc1 := zaa hc1; obtain ⟨a1_0, a1_1, a1_2, a1_3, a1_4, a1_5, a1_6, a1_7, a1_8, a1_9, a1_10, a1_11, a1_12⟩ := cells13 ha1; obtain ⟨b1_0, b1_1, b1_2, b1_3, b1_4, b1_5⟩ := cells6 hc1; clear ha1 hc1)
               go_wp2_with (go_at_call 82; with_reducible refine (HS1.out _).mono ?_; rintro e w2 ⟨rfl, hg2⟩
                            have hf2 := hf1.trans0 hg2; have ha2 := hf2.heap HB1.out id; have hc2 := hf2.heap HB2.out id; have la2 := zaa ha2; have lc2 := zaa hc2; obtain ⟨a2_0, a2_1, a2_2, a2_3, a2_4, a2_5, a2_6, a2_7, a2_8, a2_9, a2_10, a2_11, a2_12⟩ := cells13 ha2; obtain ⟨b2_0, b2_1, b2_2, b2_3, b2_4, b2_5⟩ := cells6 hc2; clear ha2 hc2)
               go_ret; exact ⟨rb (HW.out.symm), HF0.out.trans0 hf2⟩
             | true =>
               rw [c1, Bool.true_and] at HMM
               cases c2 : (p5 == wrap64 (r5 + 1)) with
               | false =>
                 rw [c2, Bool.false_and] at HMM; have HW := H_ HMM; clear HMM; go_enter Tryz.func71, Tryz.ntmps71
                 go_wp2_with (go_at_call 124; refine (HK.out _).mono ?_; rintro e w1 ⟨rfl, hf1⟩
                              have ha1 := hf1.heap HB1.out id; have hc1 := hf1.heap HB2.out id; have la1 := zaa ha1; have lc1 := zaa hc1; obtain ⟨a1_0, a1_1, a1_2, a1_3, a1_4, a1_5, a1_6, a1_7, a1_8, a1_9, a1_10, a1_11, a1_12⟩ := cells13 ha1; obtain ⟨b1_0, b1_1, b1_2, b1_3, b1_4, b1_5⟩ := cells6 hc1; clear ha1 hc1)
                 go_wp2_with (go_at_call 82; with_reducible refine (HS1.out _).mono ?_; rintro e w2 ⟨rfl, hg2⟩
                              have hf2 := hf1.trans0 hg2; have ha2 := hf2.heap HB1.out id; have hc2 := hf2.heap HB2.out id; have la2 := zaa ha2; have lc2 := zaa hc2; obtain ⟨a2_0, a2_1, a2_2, a2_3, a2_4, a2_5, a2_6, a2_7, a2_8, a2_9, a2_10, a2_11, a2_12⟩ := cells13 ha2; obtain ⟨b2_0, b2_1, b2_2, b2_3, b2_4, b2_5⟩ := cells6 hc2; clear ha2 hc2)
                 go_ret; exact ⟨rb (HW.out.symm), HF0.out.trans0 hf2⟩
               | true =>
                 rw [c2, Bool.true_and] at HMM
                 cases c3 : decide (p2.size ≤ 1024) with
                 | false =>
                   rw [c3, Bool.false_and] at HMM; have HW := H_ HMM; clear HMM; have d3 : decide ((p2.size : Int) ≤ 1024) = false := (by rw [decide_eq_false_iff_not] at c3 ⊢; omega); clear c3; go_enter Tryz.func71, Tryz.ntmps71
                   go_wp2_with (go_at_call 124; refine (HK.out _).mono ?_; rintro e w1 ⟨rfl, hf1⟩
                                have ha1 := hf1.heap HB1.out id; have hc1 := hf1.heap HB2.out id; have la1 := zaa ha1; have lc1 := zaa hc1; obtain ⟨a1_0, a1_1, a1_2, a1_3, a1_4, a1_5, a1_6, a1_7, a1_8, a1_9, a1_10, a1_11, a1_12⟩ := cells13 ha1; obtain ⟨b1_0, b1_1, b1_2, b1_3, b1_4, b1_5⟩ := cells6 hc1; clear ha1 hc1)
                   go_wp2_with (go_at_call 82; with_reducible refine (HS1.out _).mono ?_; rintro e w2 ⟨rfl, hg2⟩
                                have hf2 := hf1.trans0 hg2; have ha2 := hf2.heap HB1.out id; have hc2 := hf2.heap HB2.out id; have la2 := zaa ha2; have lc2 := zaa hc2; obtain ⟨a2_0, a2_1, a2_2, a2_3, a2_4, a2_5, a2_6, a2_7, a2_8, a2_9, a2_10, a2_11, a2_12⟩ := cells13 ha2; obtain ⟨b2_0, b2_1, b2_2, b2_3, b2_4, b2_5⟩ := cells6 hc2; clear ha2 hc2)
                   go_ret; exact ⟨rb (HW.out.symm), HF0.out.trans0 hf2⟩
                 | true =>
                   rw [c3, Bool.true_and] at HMM; have d3 : decide ((p2.size : Int) ≤ 1024) = true := (by rw [decide_eq_true_iff] at c3 ⊢; omega); clear c3; have HW := H_ HMM; clear HMM; go_enter Tryz.func71, Tryz.ntmps71
                   go_wp2_with (go_at_call 124; refine (HK.out _).mono ?_; rintro e w1 ⟨rfl, hf1⟩
                                have ha1 := hf1.heap HB1.out id; have hc1 := hf1.heap HB2.out id; have la1 := zaa ha1; have lc1 := zaa hc1; obtain ⟨a1_0, a1_1, a1_2, a1_3, a1_4, a1_5, a1_6, a1_7, a1_8, a1_9, a1_10, a1_11, a1_12⟩ := cells13 ha1; obtain ⟨b1_0, b1_1, b1_2, b1_3, b1_4, b1_5⟩ := cells6 hc1; clear ha1 hc1)
                   go_wp2_with (go_at_call 82; with_reducible refine (HS1.out _).mono ?_; rintro e w2 ⟨rfl, hg2⟩
                                have hf2 := hf1.trans0 hg2; have ha2 := hf2.heap HB1.out id; have hc2 := hf2.heap HB2.out id; have la2 := zaa ha2; have lc2 := zaa hc2; obtain ⟨a2_0, a2_1, a2_2, a2_3, a2_4, a2_5, a2_6, a2_7, a2_8, a2_9, a2_10, a2_11, a2_12⟩ := cells13 ha2; obtain ⟨b2_0, b2_1, b2_2, b2_3, b2_4, b2_5⟩ := cells6 hc2; clear ha2 hc2)
                   go_ret; exact ⟨rb (HW.out.symm), HF0.out.trans0 hf2⟩
         · rw [if_neg h5] at HMM
           have h5' : (r5 == 0) = false := beq_eq_false_iff_ne.2 h5; clear h5
           cases c0 : (kd == 1) with
           | false =>
             rw [c0, Bool.false_and] at HMM; have HW := H_ HMM; clear HMM; go_enter Tryz.func71, Tryz.ntmps71
             go_wp2_with (go_at_call 124; refine (HK.out _).mono ?_; rintro e w1 ⟨rfl, hf1⟩
                          have ha1 := hf1.heap HB1.out id; have hc1 := hf1.heap HB2.out id; have la1 := zaa ha1; have lc1 := zaa hc1; obtain ⟨a1_0, a1_1, a1_2, a1_3, a1_4, a1_5, a1_6, a1_7, a1_8, a1_9, a1_10, a1_11, a1_12⟩ := cells13 ha1; obtain ⟨b1_0, b1_1, b1_2, b1_3, b1_4, b1_5⟩ := cells6 hc1; clear ha1 hc1)
             go_wp2_with (go_at_call 82; with_reducible refine (HS1.out _).mono ?_; rintro e w2 ⟨rfl, hg2⟩
                          have hf2 := hf1.trans0 hg2; have ha2 := hf2.heap HB1.out id; have hc2 := hf2.heap HB2.out id; have la2 := zaa ha2; have lc2 := zaa hc2; obtain ⟨a2_0, a2_1, a2_2, a2_3, a2_4, a2_5, a2_6, a2_7, a2_8, a2_9, a2_10, a2_11, a2_12⟩ := cells13 ha2; obtain ⟨b2_0, b2_1, b2_2, b2_3, b2_4, b2_5⟩ := cells6 hc2; clear ha2 hc2)
             go_ret; exact ⟨rb (HW.out.symm), HF0.out.trans0 hf2⟩
           | true =>
             rw [c0, Bool.true_and] at HMM
             cases c1 : (p3 == r3) with
             | false =>
               rw [c1, Bool.false_and] at HMM; have HW := H_ HMM; clear HMM; go_enter Tryz.func71, Tryz.ntmps71
               go_wp2_with (go_at_call 124; refine (HK.out _).mono ?_; rintro e w1 ⟨rfl, hf1⟩
                            have ha1 := hf1.heap HB1.out id; have hc1 := hf1.heap HB2.out id; have la1 := zaa ha1; have lc1 := zaa hc1; obtain ⟨a1_0, a1_1, a1_2, a1_3, a1_4, a1_5, a1_6, a1_7, a1_8, a1_9, a1_10, a1_11, a1_12⟩ := cells13 ha1; obtain ⟨b1_0, b1_1, b1_2, b1_3, b1_4, b1_5⟩ := cells6 hc1; clear ha1 hc1)
               go_wp2_with (go_at_call 82; with_reducible refine (HS1.out _).mono ?_; rintro e w2 ⟨rfl, hg2⟩
                            have hf2 := hf1.trans0 hg2; have ha2 := hf2.heap HB1.out id; have hc2 := hf2.heap HB2.out id; have la2 := zaa ha2; have lc2 := zaa hc2; obtain ⟨a2_0, a2_1, a2_2, a2_3, a2_4, a2_5, a2_6, a2_7, a2_8, a2_9, a2_10, a2_11, a2_12⟩ := cells13 ha2; obtain ⟨b2_0, b2_1, b2_2, b2_3, b2_4, b2_5⟩ := cells6 hc2; clear ha2 hc2)
               go_ret; exact ⟨rb (HW.out.symm), HF0.out.trans0 hf2⟩
             | true =>
               rw [c1, Bool.true_and] at HMM
               cases c2 : (p5 == wrap64 (r5 + 1)) with
               | false =>
                 rw [c2, Bool.false_and] at HMM; have HW := H_ HMM; clear HMM; go_enter Tryz.func71, Tryz.ntmps71
                 go_wp2_with (go_at_call 124; refine (HK.out _).mono ?_; rintro e w1 ⟨rfl, hf1⟩
                              have ha1 := hf1.heap HB1.out id; have hc1 := hf1.heap HB2.out id; have la1 := zaa ha1; have lc1 := zaa hc1; obtain ⟨a1_0, a1_1, a1_2, a1_3, a1_4, a1_5, a1_6, a1_7, a1_8, a1_9, a1_10, a1_11, a1_12⟩ := cells13 ha1; obtain ⟨b1_0, b1_1, b1_2, b1_3, b1_4, b1_5⟩ := cells6 hc1; clear ha1 hc1)
                 go_wp2_with (go_at_call 82; with_reducible refine (HS1.out _).mono ?_; rintro e w2 ⟨rfl, hg2⟩
                              have hf2 := hf1.trans0 hg2; have ha2 := hf2.heap HB1.out id; have hc2 := hf2.heap HB2.out id; have la2 := zaa ha2; have lc2 := zaa hc2; obtain ⟨a2_0, a2_1, a2_2, a2_3, a2_4, a2_5, a2_6, a2_7, a2_8, a2_9, a2_10, a2_11, a2_12⟩ := cells13 ha2; obtain ⟨b2_0, b2_1, b2_2, b2_3, b2_4, b2_5⟩ := cells6 hc2; clear ha2 hc2)
                 go_ret; exact ⟨rb (HW.out.symm), HF0.out.trans0 hf2⟩
               | true =>
                 rw [c2, Bool.true_and] at HMM
                 cases c3 : decide (p2.size ≤ 1024) with
                 | false =>
                   rw [c3, Bool.false_and] at HMM; have HW := H_ HMM; clear HMM; have d3 : decide ((p2.size : Int) ≤ 1024) = false := (by rw [decide_eq_false_iff_not] at c3 ⊢; omega); clear c3; go_enter Tryz.func71, Tryz.ntmps71
                   go_wp2_with (go_at_call 124; refine (HK.out _).mono ?_; rintro e w1 ⟨rfl, hf1⟩
                                have ha1 := hf1.heap HB1.out id; have hc1 := hf1.heap HB2.out id; have la1 := zaa ha1; have lc1 := zaa hc1; obtain ⟨a1_0, a1_1, a1_2, a1_3, a1_4, a1_5, a1_6, a1_7, a1_8, a1_9, a1_10, a1_11, a1_12⟩ := cells13 ha1; obtain ⟨b1_0, b1_1, b1_2, b1_3, b1_4, b1_5⟩ := cells6 hc1; clear ha1 hc1)
                   go_wp2_with (go_at_call 82; with_reducible refine (HS1.out _).mono ?_; rintro e w2 ⟨rfl, hg2⟩
                                have hf2 := hf1.trans0 hg2; have ha2 := hf2.heap HB1.out id; have hc2 := hf2.heap HB2.out id; have la2 := zaa ha2; have lc2 := zaa hc2; obtain ⟨a2_0, a2_1, a2_2, a2_3, a2_4, a2_5, a2_6, a2_7, a2_8, a2_9, a2_10, a2_11, a2_12⟩ := cells13 ha2; obtain ⟨b2_0, b2_1, b2_2, b2_3, b2_4, b2_5⟩ := cells6 hc2; clear ha2 hc2)
                   go_ret; exact ⟨rb (HW.out.symm), HF0.out.trans0 hf2⟩
                 | true =>
                   rw [c3, Bool.true_and] at HMM; have d3 : decide ((p2.size : Int) ≤ 1024) = true := (by rw [decide_eq_true_iff] at c3 ⊢; omega); clear c3; have HW := H_ HMM; clear HMM; go_enter Tryz.func71, Tryz.ntmps71
                   go_wp2_with (go_at_call 124; refine (HK.out _).mono ?_; rintro e w1 ⟨rfl, hf1⟩
                                have ha1 := hf1.heap HB1.out id; have hc1 := hf1.heap HB2.out id; have la1 := zaa ha1; have lc1 := zaa hc1; obtain ⟨a1_0, a1_1, a1_2, a1_3, a1_4, a1_5, a1_6, a1_7, a1_8, a1_9, a1_10, a1_11, a1_12⟩ := cells13 ha1; obtain ⟨b1_0, b1_1, b1_2, b1_3, b1_4, b1_5⟩ := cells6 hc1; clear ha1 hc1)
                   go_wp2_with (go_at_call 82; with_reducible refine (HS1.out _).mono ?_; rintro e w2 ⟨rfl, hg2⟩
                                have hf2 := hf1.trans0 hg2; have ha2 := hf2.heap HB1.out id; have hc2 := hf2.heap HB2.out id; have la2 := zaa ha2; have lc2 := zaa hc2; obtain ⟨a2_0, a2_1, a2_2, a2_3, a2_4, a2_5, a2_6, a2_7, a2_8, a2_9, a2_10, a2_11, a2_12⟩ := cells13 ha2; obtain ⟨b2_0, b2_1, b2_2, b2_3, b2_4, b2_5⟩ := cells6 hc2; clear ha2 hc2)
                   go_ret; exact ⟨rb (HW.out.symm), HF0.out.trans0 hf2⟩
     | false =>
       have HW : Hid (false = m) := H_ (by rw [HM.out, if_pos (.inr (.inr rfl))]); clear HM h2; go_enter Tryz.func71, Tryz.ntmps71
       go_wp2_with (go_at_call 124; refine (HK.out _).mono ?_; rintro e w1 ⟨rfl, hf1⟩
                    have ha1 := hf1.heap HB1.out id; have hc1 := hf1.heap HB2.out id; have la1 := zaa ha1; have lc1 := zaa hc1; obtain ⟨a1_0, a1_1, a1_2, a1_3, a1_4, a1_5, a1_6, a1_7, a1_8, a1_9, a1_10, a1_11, a1_12⟩ := cells13 ha1; obtain ⟨b1_0, b1_1, b1_2, b1_3, b1_4, b1_5⟩ := cells6 hc1; clear ha1 hc1)
       go_wp2_with (go_at_call 82; with_reducible refine (HS1.out _).mono ?_; rintro e w2 ⟨rfl, hg2⟩
                    have hf2 := hf1.trans0 hg2; have ha2 := hf2.heap HB1.out id; have hc2 := hf2.heap HB2.out id; have la2 := zaa ha2; have lc2 := zaa hc2; obtain ⟨a2_0, a2_1, a2_2, a2_3, a2_4, a2_5, a2_6, a2_7, a2_8, a2_9, a2_10, a2_11, a2_12⟩ := cells13 ha2; obtain ⟨b2_0, b2_1, b2_2, b2_3, b2_4, b2_5⟩ := cells6 hc2; clear ha2 hc2)
       go_ret; exact ⟨rb (HW.out), HF0.out.trans0 hf2⟩
   · have h2' : (p4 == rev) = false := beq_eq_false_iff_ne.2 h2
     have h2'' : (p4 != rev) = true := (by unfold bne; rw [h2']; rfl); have HW : Hid (false = m) := H_ (by rw [HM.out, if_pos (.inr (.inl h2))]); clear h2 HM; go_enter Tryz.func71, Tryz.ntmps71
     go_wp2_with (go_at_call 124; refine (HK.out _).mono ?_; rintro e w1 ⟨rfl, hf1⟩
                  have ha1 := hf1.heap HB1.out id; have hc1 := hf1.heap HB2.out id; have la1 := zaa ha1; have lc1 := zaa hc1; obtain ⟨a1_0, a1_1, a1_2, a1_3, a1_4, a1_5, a1_6, a1_7, a1_8, a1_9, a1_10, a1_11, a1_12⟩ := cells13 ha1; obtain ⟨b1_0, b1_1, b1_2, b1_3, b1_4, b1_5⟩ := cells6 hc1; clear ha1 hc1)
     go_ret; exact ⟨rb (HW.out), HF0.out.trans0 hf1⟩
 · have h1' : (E != 0) = true := by rw [bne_iff_ne]; exact h1
   have h1'' : (E == 0) = false := beq_eq_false_iff_ne.2 h1; have HW : Hid (false = m) := H_ (by rw [HM.out, if_pos (.inl h1)]); clear h1 HM; go_enter Tryz.func71, Tryz.ntmps71
   go_wp2_with (go_at_call 124; refine (HK.out _).mono ?_; rintro e w1 ⟨rfl, hf1⟩
                have ha1 := hf1.heap HB1.out id; have hc1 := hf1.heap HB2.out id; have la1 := zaa ha1; have lc1 := zaa hc1; obtain ⟨a1_0, a1_1, a1_2, a1_3, a1_4, a1_5, a1_6, a1_7, a1_8, a1_9, a1_10, a1_11, a1_12⟩ := cells13 ha1; obtain ⟨b1_0, b1_1, b1_2, b1_3, b1_4, b1_5⟩ := cells6 hc1; clear ha1 hc1)
   go_ret; exact ⟨rb (HW.out), HF0.out.trans0 hf1⟩
def zgt (x : Ev) (l : List Kv) (mark : Int) : Bool :=
 if (sameB x.prev kv0 = false ∧ (keq x.prev.key x.kv.key = false ∨ mayB x.prev (mark - 1) = false)) ∨ madeB x x.prev mark = false then false
 else if x.kind = 1 then sameB ((hasL l x.kv.key).getD kv0) x.kv else ((hasL l x.kv.key).getD kv0).version == 0
set_option maxHeartbeats 16000000 in
theorem zhu (w : World) (x : Ev) (v : Value) (L : List Kv) (hv : SlR w 6 kvC v L) (hl : L.length ≤ 1099511627) (hx : x.kv.key.size ≤ 1099511627776) (hp : x.prev.key.size ≤ 1099511627776) (mark : Int) (hm : 0 ≤ mark ∧ mark ≤ 1099511627776) :
 Calls Tryz.prog 70 #[evV x, v, .int .i64 mark] w fun e w' => e = .returned (.bool (zgt x L mark)) ∧ Fr No w w' := by
 have hH := fun W (hW : Fr No w W) => zgy W v L (hv.fr0 hW) hl x.kv.key; have hA := fun W => zgw W x.prev hp (mark - 1) (by omega); have hM := fun W => zfz W x x.prev hx mark
 have HM : Hid (zgt x L mark = if (sameB x.prev kv0 = false ∧ (keq x.prev.key x.kv.key = false ∨ mayB x.prev (mark - 1) = false)) ∨ madeB x x.prev mark = false then false
  else if x.kind = 1 then sameB ((hasL L x.kv.key).getD kv0) x.kv else ((hasL L x.kv.key).getD kv0).version == 0) := H_ rfl
 generalize hnw : (hasL L x.kv.key).getD kv0 = nw at *; generalize zgt x L mark = m at *; generalize hma : mayB x.prev (mark - 1) = ma at *; generalize hmd : madeB x x.prev mark = md at *; have hS1 := fun W => zcb W x.prev ⟨⟨#[]⟩, ⟨#[]⟩, 0, 0, 0, 0⟩; have hS2 := fun W => zcb W nw x.kv; have hm1 : 0 ≤ mark := hm.1; have hm2 : mark ≤ 1099511627776 := hm.2; clear hv hl hx hp hnw hma hmd hm; obtain ⟨kd, ⟨p1, p2, p3, p4, p5, p6⟩, ⟨q1, q2, q3, q4, q5, q6⟩⟩ := x; obtain ⟨n1, n2, n3, n4, n5, n6⟩ := nw; rw [show kv0 = ⟨⟨#[]⟩, ⟨#[]⟩, 0, 0, 0, 0⟩ from rfl] at HM; unfold evV at hM; unfold kvV at hH hA hM hS1 hS2; dsimp only at hH hA hM hS1 hS2 HM; generalize hs1 : sameB ⟨q1, q2, q3, q4, q5, q6⟩ ⟨⟨#[]⟩, ⟨#[]⟩, 0, 0, 0, 0⟩ = s1 at *; generalize hs2 : sameB ⟨n1, n2, n3, n4, n5, n6⟩ ⟨p1, p2, p3, p4, p5, p6⟩ = s2 at *; have HH := H_ hH; have HA := H_ hA; have HD := H_ hM; have HS1 := H_ hS1
 have HS2 := H_ hS2; unfold evV; dsimp only; clear hH hA hM hS1 hS2 hs1 hs2; have hb1 := zad w (Obj.cells #[.int .i64 kd, .string p1, .string p2, .int .i64 p3, .int .i64 p4, .int .i64 p5, .int .i64 p6, .string q1, .string q2, .int .i64 q3, .int .i64 q4, .int .i64 q5, .int .i64 q6] 101) _ rfl; have hf0 : Fr No w (w.alloc (Obj.cells #[.int .i64 kd, .string p1, .string p2, .int .i64 p3, .int .i64 p4, .int .i64 p5, .int .i64 p6, .string q1, .string q2, .int .i64 q3, .int .i64 q4, .int .i64 q5, .int .i64 q6] 101)) := (Fr.refl No w).alloc _; have HB1 := H_ hb1; have HF0 := H_ hf0; clear hb1 hf0
 cases s1 with
 | true =>
   cases md with
   | false =>
     have HW : Hid (false = m) := H_ (by rw [HM.out, if_pos (.inr rfl)]); clear HM; go_enter Tryz.func70, Tryz.ntmps70
     go_wp2_with (go_at_call 72; with_reducible refine (HH.out _ HF0.out).mono ?_; rintro e w1 ⟨rfl, hz1⟩
                  have ha1 := hz1.heap HB1.out id; have la1 := zaa ha1; obtain ⟨a1_0, a1_1, a1_2, a1_3, a1_4, a1_5, a1_6, a1_7, a1_8, a1_9, a1_10, a1_11, a1_12⟩ := cells13 ha1; clear ha1)
     go_wp2_with (go_at_call 82; with_reducible refine (HS1.out _).mono ?_; rintro e w2 ⟨rfl, hg2⟩
                  have hz2 := (hz1.alloc _).trans0 hg2; have hc2 := hg2.heap (zad w1 (Obj.cells #[.string n1, .string n2, .int .i64 n3, .int .i64 n4, .int .i64 n5, .int .i64 n6] 99) _ rfl) id; clear a1_0 a1_1 a1_2 a1_3 a1_4 a1_5 a1_6 a1_7 a1_8 a1_9 a1_10 a1_11 a1_12; have ha2 := hz2.heap HB1.out id; have la2 := zaa ha2; obtain ⟨a2_0, a2_1, a2_2, a2_3, a2_4, a2_5, a2_6, a2_7, a2_8, a2_9, a2_10, a2_11, a2_12⟩ := cells13 ha2; have lc2 := zaa hc2; obtain ⟨b2_0, b2_1, b2_2, b2_3, b2_4, b2_5⟩ := cells6 hc2; clear ha2)
     go_wp2_with (go_at_call 71; with_reducible refine (HD.out _).mono ?_; rintro e w3 ⟨rfl, hg3⟩
                  have hz3 := hz2.trans0 hg3; have hc3 := hg3.heap hc2 id; clear a2_0 a2_1 a2_2 a2_3 a2_4 a2_5 a2_6 a2_7 a2_8 a2_9 a2_10 a2_11 a2_12 b2_0 b2_1 b2_2 b2_3 b2_4 b2_5; have ha3 := hz3.heap HB1.out id; have la3 := zaa ha3; obtain ⟨a3_0, a3_1, a3_2, a3_3, a3_4, a3_5, a3_6, a3_7, a3_8, a3_9, a3_10, a3_11, a3_12⟩ := cells13 ha3; have lc3 := zaa hc3; obtain ⟨b3_0, b3_1, b3_2, b3_3, b3_4, b3_5⟩ := cells6 hc3; clear ha3)
     go_ret; exact ⟨rb (HW.out), HF0.out.trans0 hz3⟩
   | true =>
     have HMM := HM.out; rw [if_neg (by rintro (⟨h, _⟩ | h) <;> cases h)] at HMM; clear HM; by_cases hk : kd = 1
     · subst hk
       rw [if_pos rfl] at HMM; have HW := H_ HMM; clear HMM; go_enter Tryz.func70, Tryz.ntmps70
       go_wp2_with (go_at_call 72; with_reducible refine (HH.out _ HF0.out).mono ?_; rintro e w1 ⟨rfl, hz1⟩
                    have ha1 := hz1.heap HB1.out id; have la1 := zaa ha1; obtain ⟨a1_0, a1_1, a1_2, a1_3, a1_4, a1_5, a1_6, a1_7, a1_8, a1_9, a1_10, a1_11, a1_12⟩ := cells13 ha1; clear ha1)
       go_wp2_with (go_at_call 82; with_reducible refine (HS1.out _).mono ?_; rintro e w2 ⟨rfl, hg2⟩
                    have hz2 := (hz1.alloc _).trans0 hg2; have hc2 := hg2.heap (zad w1 (Obj.cells #[.string n1, .string n2, .int .i64 n3, .int .i64 n4, .int .i64 n5, .int .i64 n6] 99) _ rfl) id; clear a1_0 a1_1 a1_2 a1_3 a1_4 a1_5 a1_6 a1_7 a1_8 a1_9 a1_10 a1_11 a1_12; have ha2 := hz2.heap HB1.out id; have la2 := zaa ha2; obtain ⟨a2_0, a2_1, a2_2, a2_3, a2_4, a2_5, a2_6, a2_7, a2_8, a2_9, a2_10, a2_11, a2_12⟩ := cells13 ha2; have lc2 := zaa hc2; obtain ⟨b2_0, b2_1, b2_2, b2_3, b2_4, b2_5⟩ := cells6 hc2; clear ha2)
       go_wp2_with (go_at_call 71; with_reducible refine (HD.out _).mono ?_; rintro e w3 ⟨rfl, hg3⟩
                    have hz3 := hz2.trans0 hg3; have hc3 := hg3.heap hc2 id; clear a2_0 a2_1 a2_2 a2_3 a2_4 a2_5 a2_6 a2_7 a2_8 a2_9 a2_10 a2_11 a2_12 b2_0 b2_1 b2_2 b2_3 b2_4 b2_5; have ha3 := hz3.heap HB1.out id; have la3 := zaa ha3; obtain ⟨a3_0, a3_1, a3_2, a3_3, a3_4, a3_5, a3_6, a3_7, a3_8, a3_9, a3_10, a3_11, a3_12⟩ := cells13 ha3; have lc3 := zaa hc3; obtain ⟨b3_0, b3_1, b3_2, b3_3, b3_4, b3_5⟩ := cells6 hc3; clear ha3)
       go_wp2_with (go_at_call 82; with_reducible refine (HS2.out _).mono ?_; rintro e w4 ⟨rfl, hg4⟩
                    have hz4 := hz3.trans0 hg4; have hc4 := hg4.heap hc3 id; clear a3_0 a3_1 a3_2 a3_3 a3_4 a3_5 a3_6 a3_7 a3_8 a3_9 a3_10 a3_11 a3_12 b3_0 b3_1 b3_2 b3_3 b3_4 b3_5; have ha4 := hz4.heap HB1.out id; have la4 := zaa ha4; obtain ⟨a4_0, a4_1, a4_2, a4_3, a4_4, a4_5, a4_6, a4_7, a4_8, a4_9, a4_10, a4_11, a4_12⟩ := cells13 ha4; have lc4 := zaa hc4; obtain ⟨b4_0, b4_1, b4_2, b4_3, b4_4, b4_5⟩ := cells6 hc4; clear ha4)
       go_ret; exact ⟨rb (HW.out.symm), HF0.out.trans0 hz4⟩
     · have hk' : (kd == 1) = false := beq_eq_false_iff_ne.2 hk
       rw [if_neg hk] at HMM; have HW := H_ HMM; clear HMM hk; go_enter Tryz.func70, Tryz.ntmps70
       go_wp2_with (go_at_call 72; with_reducible refine (HH.out _ HF0.out).mono ?_; rintro e w1 ⟨rfl, hz1⟩
                    have ha1 := hz1.heap HB1.out id; have la1 := zaa ha1; obtain ⟨a1_0, a1_1, a1_2, a1_3, a1_4, a1_5, a1_6, a1_7, a1_8, a1_9, a1_10, a1_11, a1_12⟩ := cells13 ha1; clear ha1)
       go_wp2_with (go_at_call 82; with_reducible refine (HS1.out _).mono ?_; rintro e w2 ⟨rfl, hg2⟩
                    have hz2 := (hz1.alloc _).trans0 hg2; have hc2 := hg2.heap (zad w1 (Obj.cells #[.string n1, .string n2, .int .i64 n3, .int .i64 n4, .int .i64 n5, .int .i64 n6] 99) _ rfl) id; clear a1_0 a1_1 a1_2 a1_3 a1_4 a1_5 a1_6 a1_7 a1_8 a1_9 a1_10 a1_11 a1_12; have ha2 := hz2.heap HB1.out id; have la2 := zaa ha2; obtain ⟨a2_0, a2_1, a2_2, a2_3, a2_4, a2_5, a2_6, a2_7, a2_8, a2_9, a2_10, a2_11, a2_12⟩ := cells13 ha2; have lc2 := zaa hc2; obtain ⟨b2_0, b2_1, b2_2, b2_3, b2_4, b2_5⟩ := cells6 hc2; clear ha2)
       go_wp2_with (go_at_call 71; with_reducible refine (HD.out _).mono ?_; rintro e w3 ⟨rfl, hg3⟩
                    have hz3 := hz2.trans0 hg3; have hc3 := hg3.heap hc2 id; clear a2_0 a2_1 a2_2 a2_3 a2_4 a2_5 a2_6 a2_7 a2_8 a2_9 a2_10 a2_11 a2_12 b2_0 b2_1 b2_2 b2_3 b2_4 b2_5; have ha3 := hz3.heap HB1.out id; have la3 := zaa ha3; obtain ⟨a3_0, a3_1, a3_2, a3_3, a3_4, a3_5, a3_6, a3_7, a3_8, a3_9, a3_10, a3_11, a3_12⟩ := cells13 ha3; have lc3 := zaa hc3; obtain ⟨b3_0, b3_1, b3_2, b3_3, b3_4, b3_5⟩ := cells6 hc3; clear ha3)
       go_ret; exact ⟨rb (HW.out.symm), HF0.out.trans0 hz3⟩
 | false =>
   cases hkk : keq q1 p1 with
   | false =>
     have hk1 : (q1.toList == p1.toList) = false := hkk; have hk2 : (q1.toList != p1.toList) = true := (by unfold bne; rw [hk1]; rfl); have HW : Hid (false = m) := H_ (by rw [HM.out, if_pos (.inl ⟨rfl, .inl hkk⟩)]); clear HM hkk; go_enter Tryz.func70, Tryz.ntmps70
     go_wp2_with (go_at_call 72; with_reducible refine (HH.out _ HF0.out).mono ?_; rintro e w1 ⟨rfl, hz1⟩
                  have ha1 := hz1.heap HB1.out id; have la1 := zaa ha1; obtain ⟨a1_0, a1_1, a1_2, a1_3, a1_4, a1_5, a1_6, a1_7, a1_8, a1_9, a1_10, a1_11, a1_12⟩ := cells13 ha1; clear ha1)
     go_wp2_with (go_at_call 82; with_reducible refine (HS1.out _).mono ?_; rintro e w2 ⟨rfl, hg2⟩
                  have hz2 := (hz1.alloc _).trans0 hg2; have hc2 := hg2.heap (zad w1 (Obj.cells #[.string n1, .string n2, .int .i64 n3, .int .i64 n4, .int .i64 n5, .int .i64 n6] 99) _ rfl) id; clear a1_0 a1_1 a1_2 a1_3 a1_4 a1_5 a1_6 a1_7 a1_8 a1_9 a1_10 a1_11 a1_12; have ha2 := hz2.heap HB1.out id; have la2 := zaa ha2; obtain ⟨a2_0, a2_1, a2_2, a2_3, a2_4, a2_5, a2_6, a2_7, a2_8, a2_9, a2_10, a2_11, a2_12⟩ := cells13 ha2; have lc2 := zaa hc2; obtain ⟨b2_0, b2_1, b2_2, b2_3, b2_4, b2_5⟩ := cells6 hc2; clear ha2)
     go_ret; exact ⟨rb (HW.out), HF0.out.trans0 hz2⟩
   | true =>
     have hk1 : (q1.toList == p1.toList) = true := hkk; have hk2 : (q1.toList != p1.toList) = false := (by unfold bne; rw [hk1]; rfl)
     cases ma with
     | false =>
       have HW : Hid (false = m) := H_ (by rw [HM.out, if_pos (.inl ⟨rfl, .inr rfl⟩)]); clear HM hkk; go_enter Tryz.func70, Tryz.ntmps70
       go_wp2_with (go_at_call 72; with_reducible refine (HH.out _ HF0.out).mono ?_; rintro e w1 ⟨rfl, hz1⟩
                    have ha1 := hz1.heap HB1.out id; have la1 := zaa ha1; obtain ⟨a1_0, a1_1, a1_2, a1_3, a1_4, a1_5, a1_6, a1_7, a1_8, a1_9, a1_10, a1_11, a1_12⟩ := cells13 ha1; clear ha1)
       go_wp2_with (go_at_call 82; with_reducible refine (HS1.out _).mono ?_; rintro e w2 ⟨rfl, hg2⟩
                    have hz2 := (hz1.alloc _).trans0 hg2; have hc2 := hg2.heap (zad w1 (Obj.cells #[.string n1, .string n2, .int .i64 n3, .int .i64 n4, .int .i64 n5, .int .i64 n6] 99) _ rfl) id; clear a1_0 a1_1 a1_2 a1_3 a1_4 a1_5 a1_6 a1_7 a1_8 a1_9 a1_10 a1_11 a1_12; have ha2 := hz2.heap HB1.out id; have la2 := zaa ha2; obtain ⟨a2_0, a2_1, a2_2, a2_3, a2_4, a2_5, a2_6, a2_7, a2_8, a2_9, a2_10, a2_11, a2_12⟩ := cells13 ha2; have lc2 := zaa hc2; obtain ⟨b2_0, b2_1, b2_2, b2_3, b2_4, b2_5⟩ := cells6 hc2; clear ha2)
       go_wp2_with (go_at_call 69; with_reducible refine (HA.out _).mono ?_; rintro e w3 ⟨rfl, hg3⟩
                    have hz3 := hz2.trans0 hg3; have hc3 := hg3.heap hc2 id; clear a2_0 a2_1 a2_2 a2_3 a2_4 a2_5 a2_6 a2_7 a2_8 a2_9 a2_10 a2_11 a2_12 b2_0 b2_1 b2_2 b2_3 b2_4 b2_5; have ha3 := hz3.heap HB1.out id; have la3 := zaa ha3; obtain ⟨a3_0, a3_1, a3_2, a3_3, a3_4, a3_5, a3_6, a3_7, a3_8, a3_9, a3_10, a3_11, a3_12⟩ := cells13 ha3; have lc3 := zaa hc3; obtain ⟨b3_0, b3_1, b3_2, b3_3, b3_4, b3_5⟩ := cells6 hc3; clear ha3)
       go_ret; exact ⟨rb (HW.out), HF0.out.trans0 hz3⟩
     | true =>
       cases md with
       | false =>
         have HW : Hid (false = m) := H_ (by rw [HM.out, if_pos (.inr rfl)]); clear HM hkk; go_enter Tryz.func70, Tryz.ntmps70
         go_wp2_with (go_at_call 72; with_reducible refine (HH.out _ HF0.out).mono ?_; rintro e w1 ⟨rfl, hz1⟩
                      have ha1 := hz1.heap HB1.out id; have la1 := zaa ha1; obtain ⟨a1_0, a1_1, a1_2, a1_3, a1_4, a1_5, a1_6, a1_7, a1_8, a1_9, a1_10, a1_11, a1_12⟩ := cells13 ha1; clear ha1)
         go_wp2_with (go_at_call 82; with_reducible refine (HS1.out _).mono ?_; rintro e w2 ⟨rfl, hg2⟩
                      have hz2 := (hz1.alloc _).trans0 hg2; have hc2 := hg2.heap (zad w1 (Obj.cells #[.string n1, .string n2, .int .i64 n3, .int .i64 n4, .int .i64 n5, .int .i64 n6] 99) _ rfl) id; clear a1_0 a1_1 a1_2 a1_3 a1_4 a1_5 a1_6 a1_7 a1_8 a1_9 a1_10 a1_11 a1_12; have ha2 := hz2.heap HB1.out id; have la2 := zaa ha2; obtain ⟨a2_0, a2_1, a2_2, a2_3, a2_4, a2_5, a2_6, a2_7, a2_8, a2_9, a2_10, a2_11, a2_12⟩ := cells13 ha2; have lc2 := zaa hc2; obtain ⟨b2_0, b2_1, b2_2, b2_3, b2_4, b2_5⟩ := cells6 hc2; clear ha2)
         go_wp2_with (go_at_call 69; with_reducible refine (HA.out _).mono ?_; rintro e w3 ⟨rfl, hg3⟩
                      have hz3 := hz2.trans0 hg3; have hc3 := hg3.heap hc2 id; clear a2_0 a2_1 a2_2 a2_3 a2_4 a2_5 a2_6 a2_7 a2_8 a2_9 a2_10 a2_11 a2_12 b2_0 b2_1 b2_2 b2_3 b2_4 b2_5; have ha3 := hz3.heap HB1.out id; have la3 := zaa ha3; obtain ⟨a3_0, a3_1, a3_2, a3_3, a3_4, a3_5, a3_6, a3_7, a3_8, a3_9, a3_10, a3_11, a3_12⟩ := cells13 ha3; have lc3 := zaa hc3; obtain ⟨b3_0, b3_1, b3_2, b3_3, b3_4, b3_5⟩ := cells6 hc3; clear ha3)
         go_wp2_with (go_at_call 71; with_reducible refine (HD.out _).mono ?_; rintro e w4 ⟨rfl, hg4⟩
                      have hz4 := hz3.trans0 hg4; have hc4 := hg4.heap hc3 id; clear a3_0 a3_1 a3_2 a3_3 a3_4 a3_5 a3_6 a3_7 a3_8 a3_9 a3_10 a3_11 a3_12 b3_0 b3_1 b3_2 b3_3 b3_4 b3_5; have ha4 := hz4.heap HB1.out id; have la4 := zaa ha4; obtain ⟨a4_0, a4_1, a4_2, a4_3, a4_4, a4_5, a4_6, a4_7, a4_8, a4_9, a4_10, a4_11, a4_12⟩ := cells13 ha4; have lc4 := zaa hc4; obtain ⟨b4_0, b4_1, b4_2, b4_3, b4_4, b4_5⟩ := cells6 hc4; clear ha4)
         go_ret; exact ⟨rb (HW.out), HF0.out.trans0 hz4⟩
       | true =>
         have HMM := HM.out; rw [if_neg (by rintro (⟨_, h | h⟩ | h) <;> first | (rw [hkk] at h; cases h) | cases h)] at HMM; clear HM hkk; by_cases hk : kd = 1
         · subst hk
           rw [if_pos rfl] at HMM; have HW := H_ HMM; clear HMM; go_enter Tryz.func70, Tryz.ntmps70
           go_wp2_with (go_at_call 72; with_reducible refine (HH.out _ HF0.out).mono ?_; rintro e w1 ⟨rfl, hz1⟩
                        have ha1 := hz1.heap HB1.out id; have la1 := zaa ha1; obtain ⟨a1_0, a1_1, a1_2, a1_3, a1_4, a1_5, a1_6, a1_7, a1_8, a1_9, a1_10, a1_11, a1_12⟩ := cells13 ha1; clear ha1)
           go_wp2_with (go_at_call 82; with_reducible refine (HS1.out _).mono ?_; rintro e w2 ⟨rfl, hg2⟩
                        have hz2 := (hz1.alloc _).trans0 hg2; have hc2 := hg2.heap (zad w1 (Obj.cells #[.string n1, .string n2, .int .i64 n3, .int .i64 n4, .int .i64 n5, .int .i64 n6] 99) _ rfl) id; clear a1_0 a1_1 a1_2 a1_3 a1_4 a1_5 a1_6 a1_7 a1_8 a1_9 a1_10 a1_11 a1_12; have ha2 := hz2.heap HB1.out id; have la2 := zaa ha2; obtain ⟨a2_0, a2_1, a2_2, a2_3, a2_4, a2_5, a2_6, a2_7, a2_8, a2_9, a2_10, a2_11, a2_12⟩ := cells13 ha2; have lc2 := zaa hc2; obtain ⟨b2_0, b2_1, b2_2, b2_3, b2_4, b2_5⟩ := cells6 hc2; clear ha2)
           go_wp2_with (go_at_call 69; with_reducible refine (HA.out _).mono ?_; rintro e w3 ⟨rfl, hg3⟩
                        have hz3 := hz2.trans0 hg3; have hc3 := hg3.heap hc2 id; clear a2_0 a2_1 a2_2 a2_3 a2_4 a2_5 a2_6 a2_7 a2_8 a2_9 a2_10 a2_11 a2_12 b2_0 b2_1 b2_2 b2_3 b2_4 b2_5; have ha3 := hz3.heap HB1.out id; have la3 := zaa ha3; obtain ⟨a3_0, a3_1, a3_2, a3_3, a3_4, a3_5, a3_6, a3_7, a3_8, a3_9, a3_10, a3_11, a3_12⟩ := cells13 ha3; have lc3 := zaa hc3; obtain ⟨b3_0, b3_1, b3_2, b3_3, b3_4, b3_5⟩ := cells6 hc3; clear ha3)
           go_wp2_with (go_at_call 71; with_reducible refine (HD.out _).mono ?_; rintro e w4 ⟨rfl, hg4⟩
                        have hz4 := hz3.trans0 hg4; have hc4 := hg4.heap hc3 id; clear a3_0 a3_1 a3_2 a3_3 a3_4 a3_5 a3_6 a3_7 a3_8 a3_9 a3_10 a3_11 a3_12 b3_0 b3_1 b3_2 b3_3 b3_4 b3_5; have ha4 := hz4.heap HB1.out id; have la4 := zaa ha4; obtain ⟨a4_0, a4_1, a4_2, a4_3, a4_4, a4_5, a4_6, a4_7, a4_8, a4_9, a4_10, a4_11, a4_12⟩ := cells13 ha4; have lc4 := zaa hc4; obtain ⟨b4_0, b4_1, b4_2, b4_3, b4_4, b4_5⟩ := cells6 hc4; clear ha4)
           go_wp2_with (go_at_call 82; with_reducible refine (HS2.out _).mono ?_; rintro e w5 ⟨rfl, hg5⟩
                        have hz5 := hz4.trans0 hg5; have hc5 := hg5.heap hc4 id; clear a4_0 a4_1 a4_2 a4_3 a4_4 a4_5 a4_6 a4_7 a4_8 a4_9 a4_10 a4_11 a4_12 b4_0 b4_1 b4_2 b4_3 b4_4 b4_5; have ha5 := hz5.heap HB1.out id; have la5 := zaa ha5; obtain ⟨a5_0, a5_1, a5_2, a5_3, a5_4, a5_5, a5_6, a5_7, a5_8, a5_9, a5_10, a5_11, a5_12⟩ := cells13 ha5; have lc5 := zaa hc5; obtain ⟨b5_0, b5_1, b5_2, b5_3, b5_4, b5_5⟩ := cells6 hc5; clear ha5)
           go_ret; exact ⟨rb (HW.out.symm), HF0.out.trans0 hz5⟩
         · have hk' : (kd == 1) = false := beq_eq_false_iff_ne.2 hk
           rw [if_neg hk] at HMM; have HW := H_ HMM; clear HMM hk; go_enter Tryz.func70, Tryz.ntmps70
           go_wp2_with (go_at_call 72; with_reducible refine (HH.out _ HF0.out).mono ?_; rintro e w1 ⟨rfl, hz1⟩
                        have ha1 := hz1.heap HB1.out id; have la1 := zaa ha1; obtain ⟨a1_0, a1_1, a1_2, a1_3, a1_4, a1_5, a1_6, a1_7, a1_8, a1_9, a1_10, a1_11, a1_12⟩ := cells13 ha1; clear ha1)
           go_wp2_with (go_at_call 82; with_reducible refine (HS1.out _).mono ?_; rintro e w2 ⟨rfl, hg2⟩
                        have hz2 := (hz1.alloc _).trans0 hg2; have hc2 := hg2.heap (zad w1 (Obj.cells #[.string n1, .string n2, .int .i64 n3, .int .i64 n4, .int .i64 n5, .int .i64 n6] 99) _ rfl) id; clear a1_0 a1_1 a1_2 a1_3 a1_4 a1_5 a1_6 a1_7 a1_8 a1_9 a1_10 a1_11 a1_12; have ha2 := hz2.heap HB1.out id; have la2 := zaa ha2; obtain ⟨a2_0, a2_1, a2_2, a2_3, a2_4, a2_5, a2_6, a2_7, a2_8, a2_9, a2_10, a2_11, a2_12⟩ := cells13 ha2; have lc2 := zaa hc2; obtain ⟨b2_0, b2_1, b2_2, b2_3, b2_4, b2_5⟩ := cells6 hc2; clear ha2)
           go_wp2_with (go_at_call 69; with_reducible refine (HA.out _).mono ?_; rintro e w3 ⟨rfl, hg3⟩
                        have hz3 := hz2.trans0 hg3; have hc3 := hg3.heap hc2 id; clear a2_0 a2_1 a2_2 a2_3 a2_4 a2_5 a2_6 a2_7 a2_8 a2_9 a2_10 a2_11 a2_12 b2_0 b2_1 b2_2 b2_3 b2_4 b2_5; have ha3 := hz3.heap HB1.out id; have la3 := zaa ha3; obtain ⟨a3_0, a3_1, a3_2, a3_3, a3_4, a3_5, a3_6, a3_7, a3_8, a3_9, a3_10, a3_11, a3_12⟩ := cells13 ha3; have lc3 := zaa hc3; obtain ⟨b3_0, b3_1, b3_2, b3_3, b3_4, b3_5⟩ := cells6 hc3; clear ha3)
           go_wp2_with (go_at_call 71; with_reducible refine (HD.out _).mono ?_; rintro e w4 ⟨rfl, hg4⟩
                        have hz4 := hz3.trans0 hg4; have hc4 := hg4.heap hc3 id; clear a3_0 a3_1 a3_2 a3_3 a3_4 a3_5 a3_6 a3_7 a3_8 a3_9 a3_10 a3_11 a3_12 b3_0 b3_1 b3_2 b3_3 b3_4 b3_5; have ha4 := hz4.heap HB1.out id; have la4 := zaa ha4; obtain ⟨a4_0, a4_1, a4_2, a4_3, a4_4, a4_5, a4_6, a4_7, a4_8, a4_9, a4_10, a4_11, a4_12⟩ := cells13 ha4; have lc4 := zaa hc4; obtain ⟨b4_0, b4_1, b4_2, b4_3, b4_4, b4_5⟩ := cells6 hc4; clear ha4)
           go_ret; exact ⟨rb (HW.out.symm), HF0.out.trans0 hz4⟩
open Go Go.Proofs
theorem zar {P : Program} {C : World → Prop} {id : Nat} {Q : Exit → Act → World → Prop} {a : Act} {w : World} {l : List Oper} (hm : P.follows .mixedOrders = true) (hB : Region.lexB .any l.toArray = true)
 (hC : C w.drew) (h : wpQuiet P l.toArray C (fun a' => ∀ w', C w' → Q .normal a' w') l a) : (Code.region id l.toArray true).wp P Q a w :=
 wp_region_quiet hm hB hC (by simpa using h)
end Go.Proofs.YthljnnjpmdgkoaaGreat